/- The holes of a mask with a code. -/
import Derived.Test.YtjgaacoikhonoaaS1
set_option linter.unusedVariables false
set_option linter.unusedSimpArgs false
namespace Go.Proofs.Ytjgaacoikhonoaa
open Go.RowKit
set_option maxHeartbeats 1000000
set_option maxRecDepth 20000
def holesL (a b : Wd) : List Int := cond (okB b) (hs a b 96) []
def holesE (b : Wd) : Int := cond (okB b) 0 1
theorem impl_HolesIn (a b : Wd) (w : World) :
    Calls Try.prog 41 #[.agg #[.int .u64 (U a), .int .u64 (U b)]] w fun e w' => ∃ v, e = .returned (.tuple #[v, .int .i64 (holesE b)]) ∧ w'.ownsRow w.heap.size 2 1 v (holesL a b).length (ints (holesL a b)) ∧ Keep w w' := by
  cases h1 : okB b <;> simp only [holesL, holesE, h1, cond_true, cond_false]
  · go_enter Try.func41, Try.ntmps41
    (go_wp2_with fail); (go_at_call 61); (refine (impl_isMask _ _ _).mono ?_); rintro e w1 ⟨rfl, hk1⟩
    rw [h1]
    go_wp2
    go_ret2; exact ⟨_, rfl, World.ownsRow_nil _ _ _ _, (by ((repeat (first | (with_reducible assumption) | ((with_reducible refine Keep.setCell ?_ ?_ _); rotate_left; focus (first | omega | (simp; done) | (simp; omega))) | (with_reducible refine Keep.alloc ?_ _) | (with_reducible refine Keep.drewN ?_ _) | (with_reducible refine Keep.drew ?_) | (with_reducible exact Keep.refl _) | refine Keep.trans ?_ (by with_reducible assumption) | exact Keep.refl _ | assumption))))⟩
  · go_enter Try.func41, Try.ntmps41
    (go_wp2_with fail); (go_at_call 61); (refine (impl_isMask _ _ _).mono ?_); rintro e w1 ⟨rfl, hk1⟩
    rw [h1]
    obtain ⟨hk1c, hk1f⟩ := hk1.cells; have hk1z0 : w.heap.size < w1.heap.size := (by have := hk1.size; (try simp at this); omega)
    go_wp2_with fail
    go_at_call 78
    refine (impl_Mask_holes _ _ _).mono ?_
    rintro e w2 ⟨v, rfl, hown, hk2⟩
    have HO := Aside.mk hown
    have hz := hk1.size
    clear hown
    go_wp2
    go_ret2; exact ⟨_, rfl, own_base HO.out (by simp at hz; omega), (by ((repeat (first | (with_reducible assumption) | ((with_reducible refine Keep.setCell ?_ ?_ _); rotate_left; focus (first | omega | (simp; done) | (simp; omega))) | (with_reducible refine Keep.alloc ?_ _) | (with_reducible refine Keep.drewN ?_ _) | (with_reducible refine Keep.drew ?_) | (with_reducible exact Keep.refl _) | refine Keep.trans ?_ (by with_reducible assumption) | exact Keep.refl _ | assumption))))⟩
theorem spec_HolesIn (a b : Wd) (w : World) :
    Calls Try.prog 40 #[.agg #[.int .u64 (U a), .int .u64 (U b)]] w fun e w' => ∃ v, e = .returned (.tuple #[v, .int .i64 (holesE b)]) ∧ w'.ownsRow w.heap.size 2 1 v (holesL a b).length (ints (holesL a b)) ∧ Keep w w' := by
  cases h1 : okB b <;> simp only [holesL, holesE, h1, cond_true, cond_false]
  · go_enter Try.func40, Try.ntmps40
    (go_wp2_with fail); (go_at_call 65); (refine (spec_l01Mask _ _ _).mono ?_); rintro e w1 ⟨rfl, hk1⟩
    rw [h1]
    have hz := hk1.size
    go_wp2
    go_ret2; exact ⟨_, rfl, by simpa [ints] using own_empty w1 w.heap.size 2 (by simp at hz; omega), (by ((repeat (first | (with_reducible assumption) | ((with_reducible refine Keep.setCell ?_ ?_ _); rotate_left; focus (first | omega | (simp; done) | (simp; omega))) | (with_reducible refine Keep.alloc ?_ _) | (with_reducible refine Keep.drewN ?_ _) | (with_reducible refine Keep.drew ?_) | (with_reducible exact Keep.refl _) | refine Keep.trans ?_ (by with_reducible assumption) | exact Keep.refl _ | assumption))))⟩
  · go_enter Try.func40, Try.ntmps40
    (go_wp2_with fail); (go_at_call 65); (refine (spec_l01Mask _ _ _).mono ?_); rintro e w1 ⟨rfl, hk1⟩
    rw [h1]
    obtain ⟨hk1c, hk1f⟩ := hk1.cells; have hk1z0 : w.heap.size < w1.heap.size := (by have := hk1.size; (try simp at this); omega)
    go_wp2_with fail
    go_at_call 77
    refine (spec_l01Holes _ _ _).mono ?_
    rintro e w2 ⟨v, rfl, hown, hk2⟩
    have HO := Aside.mk hown
    have hz := hk1.size
    clear hown
    go_wp2
    go_ret2; exact ⟨_, rfl, own_base HO.out (by simp at hz; omega), (by ((repeat (first | (with_reducible assumption) | ((with_reducible refine Keep.setCell ?_ ?_ _); rotate_left; focus (first | omega | (simp; done) | (simp; omega))) | (with_reducible refine Keep.alloc ?_ _) | (with_reducible refine Keep.drewN ?_ _) | (with_reducible refine Keep.drew ?_) | (with_reducible exact Keep.refl _) | refine Keep.trans ?_ (by with_reducible assumption) | exact Keep.refl _ | assumption))))⟩
def mOfLo (l : List Int) : Wd := cond (l.all holeB) (orLo 0#64 l) 0#64
def mOfHi (l : List Int) : Wd := cond (l.all holeB) (orHi 0#64 l) 0#64
def mOfE (l : List Int) : Int := cond (l.all holeB) 0 2
theorem all_take_succ {l : List Int} {i : Nat} (h : i < l.length) : (l.take (i + 1)).all holeB = ((l.take i).all holeB && holeB l[i]) := by
  rw [List.take_succ_eq_append_getElem h, List.all_append]; simp
theorem all_false_of {l : List Int} {i : Nat} (h : i < l.length) (hb : holeB l[i] = false) : l.all holeB = false := by
  rw [List.all_eq_false]; exact ⟨l[i], List.getElem_mem h, by simp [hb]⟩
structure CellAt (w : World) (b o : Nat) (v : Value) : Prop where
  out : w.cell? ⟨b, o, none⟩ = some v
theorem CellAt.keep {w w' : World} {b o : Nat} {v : Value} (h : CellAt w b o v) (k : Keep w w') : CellAt w' b o v := ⟨k.cell h.out⟩
theorem CellAt.at2 {w : World} {b o : Nat} {v : Value} (h : CellAt w b o v) : w.cell? ⟨b, o, none⟩ = some v ∧ b < w.heap.size := ⟨h.out, World.block_lt_of_cell? w _ h.out⟩
theorem CellAt.lt {w : World} {b o : Nat} {v : Value} (h : CellAt w b o v) : b < w.heap.size := h.at2.2
theorem impl_withz (A : Option Addr) (l : List Int) (c : Nat) (w : World) (hl : ∀ h ∈ l, 0 ≤ h ∧ h < 96) (hn : l.length ≤ 9223372036854775807) (hR : Rd w A (ints l)) :
    Calls Try.prog 75 #[.agg #[.int .u64 0, .int .u64 0], .slice A l.length c] w fun e w' => e = .returned (.agg #[.int .u64 (U (orLo 0#64 l)), .int .u64 (U (orHi 0#64 l))]) ∧ Keep w w' :=
  impl_with 0#64 0#64 A l c w hl hn hR
theorem all_iff {l : List Int} : l.all holeB = true ↔ ∀ h ∈ l, 0 ≤ h ∧ h < 96 := by
  rw [List.all_eq_true]
  exact ⟨fun h x hx => holeB_iff.1 (h x hx), fun h x hx => holeB_iff.2 (h x hx)⟩
theorem impl_MaskOf (A : Option Addr) (l : List Int) (c : Nat) (w : World) (hn : l.length ≤ 9223372036854775807) (hR : Rd w A (ints l)) :
    Calls Try.prog 33 #[.slice A l.length c] w fun e w' => e = .returned (.tuple #[.agg #[.int .u64 (U (mOfLo l)), .int .u64 (U (mOfHi l))], .int .i64 (mOfE l)]) ∧ Keep w w' := by
  go_enter Try.func33, Try.ntmps33
  go_wp2_with fail
  go_loopg [8] l.length (fun k s1 wr => ∃ i : Nat, i + k = l.length ∧ s1 = .int .i64 i ∧ (l.take i).all holeB = true ∧ Bx wr w.heap.size #[.int .u64 0, .int .u64 0] 24 ∧ Keep w wr)
  case atStart => exact ⟨0, by omega, rfl, rfl, Bx.new _ _ _, (by ((repeat (first | (with_reducible assumption) | ((with_reducible refine Keep.setCell ?_ ?_ _); rotate_left; focus (first | omega | (simp; done) | (simp; omega))) | (with_reducible refine Keep.alloc ?_ _) | (with_reducible refine Keep.drewN ?_ _) | (with_reducible refine Keep.drew ?_) | (with_reducible exact Keep.refl _) | refine Keep.trans ?_ (by with_reducible assumption) | exact Keep.refl _ | assumption))))⟩
  case round =>
    obtain ⟨i, hi, rfl, hall, hA, hk⟩ := hrel
    have HL := Aside.mk hall
    clear hall
    have hAs := hA.two
    by_cases hlt : i < l.length
    · obtain ⟨bb, o, rfl, hc⟩ := (hR.keep hk).at (k := i) (by rw [ints_len]; exact hlt)
      have hcell := hc i _ (ints_at l i hlt)
      clear hc
      (go_wp2_with fail); (go_at_call 62); (refine (impl_isHole _ _).mono ?_); rintro e w1 ⟨rfl, hk1⟩
      have hA1 := hA.keep hk1
      have k1 : Keep w w1 := (by ((repeat (first | (with_reducible assumption) | ((with_reducible refine Keep.setCell ?_ ?_ _); rotate_left; focus (first | omega | (simp; done) | (simp; omega))) | (with_reducible refine Keep.alloc ?_ _) | (with_reducible refine Keep.drewN ?_ _) | (with_reducible refine Keep.drew ?_) | (with_reducible exact Keep.refl _) | refine Keep.trans ?_ (by with_reducible assumption) | exact Keep.refl _ | assumption))))
      have hE := all_take_succ hlt
      rw [HL.out, Bool.true_and] at hE
      clear hAs hA hk1 hk hcell
      cases hb : holeB l[i]
      · have hf := all_false_of hlt hb
        have eLo : mOfLo l = 0#64 := by simp only [mOfLo, hf, cond_false]
        have eHi : mOfHi l = 0#64 := by simp only [mOfHi, hf, cond_false]
        have eE : mOfE l = 2 := by simp only [mOfE, hf, cond_false]
        have hAs := hA1.two
        clear hE hb hf
        go_wp2
        (apply bodyPost_ret; rotate_left; rfl; exact ⟨rfl, (by ((repeat (first | (with_reducible assumption) | ((with_reducible refine Keep.setCell ?_ ?_ _); rotate_left; focus (first | omega | (simp; done) | (simp; omega))) | (with_reducible refine Keep.alloc ?_ _) | (with_reducible refine Keep.drewN ?_ _) | (with_reducible refine Keep.drew ?_) | (with_reducible exact Keep.refl _) | refine Keep.trans ?_ (by with_reducible assumption) | exact Keep.refl _ | assumption))))⟩; simp [results, Try.results33, go_sem, U_zero, *])
      · rw [hb] at hE
        have HE := Aside.mk hE
        have HA := Aside.mk hA1
        clear hE hA1
        go_wp2
        go_roundg (l.length - (i + 1))
        case measure => omega
        case rel => exact ⟨i + 1, by omega, by go_num, HE.out, HA.out, (by ((repeat (first | (with_reducible assumption) | ((with_reducible refine Keep.setCell ?_ ?_ _); rotate_left; focus (first | omega | (simp; done) | (simp; omega))) | (with_reducible refine Keep.alloc ?_ _) | (with_reducible refine Keep.drewN ?_ _) | (with_reducible refine Keep.drew ?_) | (with_reducible exact Keep.refl _) | refine Keep.trans ?_ (by with_reducible assumption) | exact Keep.refl _ | assumption))))⟩
    · have e2 : i = l.length := by omega
      subst e2
      have hal : l.all holeB = true := by have := HL.out; rwa [List.take_length] at this
      have eLo : mOfLo l = orLo 0#64 l := by simp only [mOfLo, hal, cond_true]
      have eHi : mOfHi l = orHi 0#64 l := by simp only [mOfHi, hal, cond_true]
      have eE : mOfE l = 0 := by simp only [mOfE, hal, cond_true]
      (go_wp2_with fail); (go_at_call 75); (refine (impl_withz _ _ _ _ (all_iff.1 hal) hn (hR.keep hk)).mono ?_); rintro e w1 ⟨rfl, hk1⟩
      have hA1 := hA.keep hk1
      have k1 : Keep w w1 := (by ((repeat (first | (with_reducible assumption) | ((with_reducible refine Keep.setCell ?_ ?_ _); rotate_left; focus (first | omega | (simp; done) | (simp; omega))) | (with_reducible refine Keep.alloc ?_ _) | (with_reducible refine Keep.drewN ?_ _) | (with_reducible refine Keep.drew ?_) | (with_reducible exact Keep.refl _) | refine Keep.trans ?_ (by with_reducible assumption) | exact Keep.refl _ | assumption))))
      clear hAs hA hk1 hk
      have hAs := hA1.two
      go_wp2
      (apply bodyPost_ret; rotate_left; rfl; exact ⟨rfl, (by ((repeat (first | (with_reducible assumption) | ((with_reducible refine Keep.setCell ?_ ?_ _); rotate_left; focus (first | omega | (simp; done) | (simp; omega))) | (with_reducible refine Keep.alloc ?_ _) | (with_reducible refine Keep.drewN ?_ _) | (with_reducible refine Keep.drew ?_) | (with_reducible exact Keep.refl _) | refine Keep.trans ?_ (by with_reducible assumption) | exact Keep.refl _ | assumption))))⟩; simp [results, Try.results33, go_sem, U_zero, *])
theorem spec_MaskOf (A : Option Addr) (l : List Int) (c : Nat) (w : World) (hn : l.length ≤ 9223372036854775807) (hR : Rd w A (ints l)) :
    Calls Try.prog 31 #[.slice A l.length c] w fun e w' => e = .returned (.tuple #[.agg #[.int .u64 (U (mOfLo l)), .int .u64 (U (mOfHi l))], .int .i64 (mOfE l)]) ∧ Keep w w' := by
  go_enter Try.func31, Try.ntmps31
  go_wp2_with fail
  go_loopg [5] l.length (fun k s1 wr => ∃ i : Nat, i + k = l.length ∧ s1 = .int .i64 i ∧ (l.take i).all holeB = true ∧ Bx wr w.heap.size #[.int .u64 0, .int .u64 0] 24 ∧ Bx wr (w.heap.size + 1) #[.int .u64 (U (orLo 0#64 (l.take i))), .int .u64 (U (orHi 0#64 (l.take i)))] 24 ∧ Keep w wr)
  case atStart => exact ⟨0, by omega, rfl, rfl, (Bx.new _ _ _).alloc _, by simpa [orLo, orHi, U_zero] using Bx.new1 _ _ _ _, (by ((repeat (first | (with_reducible assumption) | ((with_reducible refine Keep.setCell ?_ ?_ _); rotate_left; focus (first | omega | (simp; done) | (simp; omega))) | (with_reducible refine Keep.alloc ?_ _) | (with_reducible refine Keep.drewN ?_ _) | (with_reducible refine Keep.drew ?_) | (with_reducible exact Keep.refl _) | refine Keep.trans ?_ (by with_reducible assumption) | exact Keep.refl _ | assumption))))⟩
  case round =>
    obtain ⟨i, hi, rfl, hall, hA, hB, hk⟩ := hrel
    have HL := Aside.mk hall
    clear hall
    by_cases hlt : i < l.length
    · obtain ⟨bb, o, rfl, hc⟩ := (hR.keep hk).at (k := i) (by rw [ints_len]; exact hlt)
      have hcell := hc i _ (ints_at l i hlt)
      have hAs := hA.two
      clear hc
      (go_wp2_with fail); (go_at_call 72); (refine (spec_l01Hole _ _).mono ?_); rintro e w1 ⟨rfl, hk1⟩
      have hA1 := hA.keep hk1
      have hB1 := hB.keep hk1
      have hC1 : CellAt w1 bb (o + i) (.int .i64 l[i]) := ⟨hk1.cell hcell⟩
      have k1 : Keep w w1 := (by ((repeat (first | (with_reducible assumption) | ((with_reducible refine Keep.setCell ?_ ?_ _); rotate_left; focus (first | omega | (simp; done) | (simp; omega))) | (with_reducible refine Keep.alloc ?_ _) | (with_reducible refine Keep.drewN ?_ _) | (with_reducible refine Keep.drew ?_) | (with_reducible exact Keep.refl _) | refine Keep.trans ?_ (by with_reducible assumption) | exact Keep.refl _ | assumption))))
      have hE := all_take_succ hlt
      rw [HL.out, Bool.true_and] at hE
      have HS := Aside.mk (orLo_succ 0#64 l i hlt)
      have HT := Aside.mk (orHi_succ 0#64 l i hlt)
      clear hAs hA hB hk1 hk hcell
      cases hb : holeB l[i]
      · have hf := all_false_of hlt hb
        have eLo : mOfLo l = 0#64 := by simp only [mOfLo, hf, cond_false]
        have eHi : mOfHi l = 0#64 := by simp only [mOfHi, hf, cond_false]
        have eE : mOfE l = 2 := by simp only [mOfE, hf, cond_false]
        have hAs := hA1.two
        clear hE hb hf
        go_wp2
        (apply bodyPost_ret; rotate_left; rfl; exact ⟨rfl, (by ((repeat (first | (with_reducible assumption) | ((with_reducible refine Keep.setCell ?_ ?_ _); rotate_left; focus (first | omega | (simp; done) | (simp; omega))) | (with_reducible refine Keep.alloc ?_ _) | (with_reducible refine Keep.drewN ?_ _) | (with_reducible refine Keep.drew ?_) | (with_reducible exact Keep.refl _) | refine Keep.trans ?_ (by with_reducible assumption) | exact Keep.refl _ | assumption))))⟩; simp [results, Try.results31, go_sem, U_zero, *])
      · obtain ⟨g0, g1⟩ := holeB_iff.1 hb
        rw [hb] at hE
        have HE := Aside.mk hE
        clear hE hb
        generalize l[i] = h at *
        go_wp2_with fail
        have hW := k1
        refine wp_region_mono 7 [Fx (.agg #[.int .u64 (U (orLo 0#64 (l.take i))), .int .u64 (U (orHi 0#64 (l.take i)))]), Fx (.slice (some ⟨bb, o, none⟩) l.length c), Fx (.int .i64 i), Fx (.pointer (some ⟨bb, o + i, none⟩)), Fx (.int .i64 h), Fx (.agg #[.int .u64 (U (bitLo h)), .int .u64 (U (bitHi h))]), Fx (.agg #[.int .u64 (U (orLo 0#64 (l.take i) ||| bitLo h)), .int .u64 (U (orHi 0#64 (l.take i) ||| bitHi h))])] (by kernel_rfl) (by kernel_rfl) (mono_of ⟨Fx.mono _, Fx.mono _, Fx.mono _, Fx.mono _, Fx.mono _, Fx.mono _, Fx.mono _, trivial⟩) ?_ ?_
        focus
          simp only [List.take_succ_cons, List.take_zero, List.drop_succ_cons, List.drop_zero, putAll, Act.put, List.setIfInBounds_toArray, List.set_cons_succ, List.set_cons_zero, Nat.zero_add, Nat.reduceAdd]
          refine steps_cons ?_ (steps_cons ?_ (steps_cons ?_ (steps_cons ?_ (steps_cons ?_ (steps_cons ?_ (steps_cons ?_ steps_nil))))))
          all_goals
            intro v w2 hk hd
            obtain ⟨hB1_0, hB1_1, hB1_2, hB1_3, hB1_4⟩ := (hB1.keep hk).two
            obtain ⟨hC1_0, hC1_1⟩ := (hC1.keep hk).at2
            obtain ⟨hA1_0, hA1_1, hA1_2, hA1_3, hA1_4⟩ := (hA1.keep hk).two
            have hkz := hk.size
            simp [DepsOf, factAt, Fx, Region.binds] at hd ⊢
            refine Gives.mk ?_
            go_simp
            first | exact Keep.refl _ | exact ⟨(Keep.refl _).alloc _, _, rfl, Bx.new _ _ _, by first | omega | (simp; omega)⟩ | (exact spec_l01Bit _ g0 g1 _) | (exact spec_l01Join _ _ _ _ _)
        simp only [List.take_succ_cons, List.take_zero, List.drop_succ_cons, List.drop_zero, putAll, Act.put, List.setIfInBounds_toArray, List.set_cons_succ, List.set_cons_zero, Nat.zero_add, Nat.reduceAdd]
        intro v w2 hk hh
        obtain ⟨hB1_0, hB1_1, hB1_2, hB1_3, hB1_4⟩ := (hB1.keep hk).two
        obtain ⟨hC1_0, hC1_1⟩ := (hC1.keep hk).at2
        obtain ⟨hA1_0, hA1_1, hA1_2, hA1_3, hA1_4⟩ := (hA1.keep hk).two
        have hkz := hk.size
        simp only [Held, factAt, List.getD_cons_zero, List.getD_cons_succ, Fx, true_and] at hh
        obtain ⟨⟨⟨⟨⟨⟨v_0, v_1⟩, v_2⟩, v_3⟩, v_4⟩, v_5⟩, v_6⟩ := hh
        have zhB1 := hB1.lt
        have zhC1 := hC1.lt
        have zhA1 := hA1.lt
        have zW := hW.size
        have HA := Aside.mk (hA1.keep hk)
        have HB := Aside.mk (hB1.keep hk)
        have k2 : Keep w w2 := (by ((repeat (first | (with_reducible assumption) | ((with_reducible refine Keep.setCell ?_ ?_ _); rotate_left; focus (first | omega | (simp; done) | (simp; omega))) | (with_reducible refine Keep.alloc ?_ _) | (with_reducible refine Keep.drewN ?_ _) | (with_reducible refine Keep.drew ?_) | (with_reducible exact Keep.refl _) | refine Keep.trans ?_ (by with_reducible assumption) | exact Keep.refl _ | assumption))))
        clear hA1 hB1 hC1
        go_wp2
        simp only [v_0, v_1, v_2, v_3, v_4, v_5, v_6]
        go_roundg (l.length - (i + 1))
        case measure => omega
        case rel => exact ⟨i + 1, by omega, by go_num, HE.out, (HA.out.set' (by simp) _).set' (by simp) _, by rw [HS.out, HT.out]; exact (HB.out.set _).set _, (by ((repeat (first | (with_reducible assumption) | ((with_reducible refine Keep.setCell ?_ ?_ _); rotate_left; focus (first | omega | (simp; done) | (simp; omega))) | (with_reducible refine Keep.alloc ?_ _) | (with_reducible refine Keep.drewN ?_ _) | (with_reducible refine Keep.drew ?_) | (with_reducible exact Keep.refl _) | refine Keep.trans ?_ (by with_reducible assumption) | exact Keep.refl _ | assumption))))⟩
    · have e2 : i = l.length := by omega
      subst e2
      have hal : l.all holeB = true := by have := HL.out; rwa [List.take_length] at this
      have eLo : mOfLo l = orLo 0#64 l := by simp only [mOfLo, hal, cond_true]
      have eHi : mOfHi l = orHi 0#64 l := by simp only [mOfHi, hal, cond_true]
      have eE : mOfE l = 0 := by simp only [mOfE, hal, cond_true]
      rw [List.take_length] at hB
      have hAs := hA.two
      have hBs := hB.two
      go_wp2
      (apply bodyPost_ret; rotate_left; rfl; exact ⟨rfl, (by ((repeat (first | (with_reducible assumption) | ((with_reducible refine Keep.setCell ?_ ?_ _); rotate_left; focus (first | omega | (simp; done) | (simp; omega))) | (with_reducible refine Keep.alloc ?_ _) | (with_reducible refine Keep.drewN ?_ _) | (with_reducible refine Keep.drew ?_) | (with_reducible exact Keep.refl _) | refine Keep.trans ?_ (by with_reducible assumption) | exact Keep.refl _ | assumption))))⟩; simp [results, Try.results31, go_sem, U_zero, *])
end Go.Proofs.Ytjgaacoikhonoaa

/- Is a deck sorted: the walks. -/
import Derived.Test.YtpmilcfppcmodaaDoorDK2
import Derived.Test.YtpmilcfppcmodaaDoorK5
import Derived.Test.YtpmilcfppcmodaaDoorPN
set_option linter.unusedVariables false
set_option linter.unusedSimpArgs false
namespace Go.Proofs.YtpmilcfppcmodaaDoor
open Go.RowKit Go.Shelf
set_option maxHeartbeats 2000000
set_option maxRecDepth 20000
theorem cmp_isNaN (x : Int) (w : World) : Calls Tryd.prog 164 #[.int .i64 x] w fun e w' => e = .returned (.bool false) ∧ Keep w w' := by
  go_enter Tryd.func164, Tryd.ntmps164
  go_wp2
  go_ret; exact ⟨rb (by simp), (by ((repeat (first | (with_reducible assumption) | ((with_reducible refine Keep.setCell ?_ ?_ _); rotate_left; focus (first | omega | (simp; done) | (simp; omega))) | (with_reducible refine Keep.alloc ?_ _) | (with_reducible refine Keep.drewN ?_ _) | (with_reducible refine Keep.drew ?_) | (with_reducible exact Keep.refl _) | refine Keep.trans ?_ (by with_reducible assumption) | exact Keep.refl _ | assumption))))⟩
def cmpN (x y : Int) : Int := if x < y then -1 else if y < x then 1 else 0
theorem cmpN_lt (x y : Int) : decide (cmpN x y < 0) = decide (x < y) := by
  unfold cmpN
  by_cases h : x < y
  · simp [h]
  · by_cases k : y < x <;> simp [h, k]
theorem cmp_Compare (x y : Int) (w : World) : Calls Tryd.prog 150 #[.int .i64 x, .int .i64 y] w fun e w' => e = .returned (.int .i64 (cmpN x y)) ∧ Keep w w' := by
  unfold cmpN
  by_cases h : x < y
  · rw [if_pos h]
    go_enter Tryd.func150, Tryd.ntmps150
    (go_wp2_with fail); (go_at_call 164); (refine (cmp_isNaN _ _).mono ?_); rintro e w1 ⟨rfl, hk1⟩
    (go_wp2_with fail); (go_at_call 164); (refine (cmp_isNaN _ _).mono ?_); rintro e w2 ⟨rfl, hk2⟩
    go_wp2
    go_ret; exact ⟨rfl, (by ((repeat (first | (with_reducible assumption) | ((with_reducible refine Keep.setCell ?_ ?_ _); rotate_left; focus (first | omega | (simp; done) | (simp; omega))) | (with_reducible refine Keep.alloc ?_ _) | (with_reducible refine Keep.drewN ?_ _) | (with_reducible refine Keep.drew ?_) | (with_reducible exact Keep.refl _) | refine Keep.trans ?_ (by with_reducible assumption) | exact Keep.refl _ | assumption))))⟩
  · rw [if_neg h]
    by_cases k : y < x
    · rw [if_pos k]
      go_enter Tryd.func150, Tryd.ntmps150
      (go_wp2_with fail); (go_at_call 164); (refine (cmp_isNaN _ _).mono ?_); rintro e w1 ⟨rfl, hk1⟩
      (go_wp2_with fail); (go_at_call 164); (refine (cmp_isNaN _ _).mono ?_); rintro e w2 ⟨rfl, hk2⟩
      go_wp2
      go_ret; exact ⟨rfl, (by ((repeat (first | (with_reducible assumption) | ((with_reducible refine Keep.setCell ?_ ?_ _); rotate_left; focus (first | omega | (simp; done) | (simp; omega))) | (with_reducible refine Keep.alloc ?_ _) | (with_reducible refine Keep.drewN ?_ _) | (with_reducible refine Keep.drew ?_) | (with_reducible exact Keep.refl _) | refine Keep.trans ?_ (by with_reducible assumption) | exact Keep.refl _ | assumption))))⟩
    · rw [if_neg k]
      go_enter Tryd.func150, Tryd.ntmps150
      (go_wp2_with fail); (go_at_call 164); (refine (cmp_isNaN _ _).mono ?_); rintro e w1 ⟨rfl, hk1⟩
      (go_wp2_with fail); (go_at_call 164); (refine (cmp_isNaN _ _).mono ?_); rintro e w2 ⟨rfl, hk2⟩
      go_wp2
      go_ret; exact ⟨rfl, (by ((repeat (first | (with_reducible assumption) | ((with_reducible refine Keep.setCell ?_ ?_ _); rotate_left; focus (first | omega | (simp; done) | (simp; omega))) | (with_reducible refine Keep.alloc ?_ _) | (with_reducible refine Keep.drewN ?_ _) | (with_reducible refine Keep.drew ?_) | (with_reducible exact Keep.refl _) | refine Keep.trans ?_ (by with_reducible assumption) | exact Keep.refl _ | assumption))))⟩
/-- Is the card behind this place before the one at it? -/
def badAt (l : List Cd) (lt : Cd → Cd → Bool) (j : Nat) : Bool := match l[j + 1]?, l[j]? with
  | some x, some y => lt x y
  | _, _ => false
def srtB (l : List Cd) (lt : Cd → Cd → Bool) : Bool := (List.range (l.length - 1)).all fun j => !badAt l lt j
theorem badAt_at {l : List Cd} (lt : Cd → Cd → Bool) {j : Nat} (h : j + 1 < l.length) : badAt l lt j = lt l[j + 1] l[j] := by
  unfold badAt; rw [List.getElem?_eq_getElem h, List.getElem?_eq_getElem (show j < l.length by omega)]
theorem srtB_no {l : List Cd} {lt : Cd → Cd → Bool} {j : Nat} (h : j + 1 < l.length) (hb : badAt l lt j = true) : srtB l lt = false := by
  unfold srtB; exact rall_no (i := j) (by omega) (by simp [hb])
theorem sorted_func (A : Option Addr) (l : List Cd) (c g : Nat) (caps : Array Value) (f : Cd → Cd → Int) (w : World) (hm : l.length ≤ 9223372036854775807) (hR : Rd w A (cds l))
    (eg : ∀ args w, (callFunc g args).run Tryd.prog w = .ok (.enter g args) w) (hq : ∀ x y, x ∈ l → y ∈ l → ∀ W, Keep w W → Calls Tryd.prog g (#[.agg #[.string x.s, .int .u64 (U (x.a)), .int .u64 (U (x.b))], .agg #[.string y.s, .int .u64 (U (y.a)), .int .u64 (U (y.b))]] ++ caps) W fun e w' => e = .returned (.int .i64 (f x y)) ∧ Keep W w') :
    Calls Tryd.prog 148 #[.slice A l.length c, .func (.func g) #[] caps] w fun e w' => e = .returned (.bool (srtB l fun x y => decide (f x y < 0))) ∧ Keep w w' := by
  by_cases h0 : l.length = 0
  · have e : srtB l (fun x y => decide (f x y < 0)) = true := by unfold srtB; rw [h0]; rfl
    rw [e, h0]
    go_enter Tryd.func148, Tryd.ntmps148
    go_wp2_with fail
    refine wp_loop_rounds 1 ?_
    rw [rounds_succ]
    go_wp2
    go_ret; exact ⟨rfl, (by ((repeat (first | (with_reducible assumption) | ((with_reducible refine Keep.setCell ?_ ?_ _); rotate_left; focus (first | omega | (simp; done) | (simp; omega))) | (with_reducible refine Keep.alloc ?_ _) | (with_reducible refine Keep.drewN ?_ _) | (with_reducible refine Keep.drew ?_) | (with_reducible exact Keep.refl _) | refine Keep.trans ?_ (by with_reducible assumption) | exact Keep.refl _ | assumption))))⟩
  · go_enter Tryd.func148, Tryd.ntmps148
    go_wp2_with fail
    go_loopg [5] (l.length - 1) (fun k s5 wr => ∃ i : Nat, i = k ∧ i < l.length ∧ s5 = .int .i64 i ∧ (∀ j, i ≤ j → j + 1 < l.length → badAt l (fun x y => decide (f x y < 0)) j = false) ∧ Keep w wr)
    case atStart => exact ⟨l.length - 1, rfl, by omega, by rw [show ((l.length - 1 : Nat) : Int) = (l.length : Int) - 1 by omega], fun j h1 h2 => by omega, (by ((repeat (first | (with_reducible assumption) | ((with_reducible refine Keep.setCell ?_ ?_ _); rotate_left; focus (first | omega | (simp; done) | (simp; omega))) | (with_reducible refine Keep.alloc ?_ _) | (with_reducible refine Keep.drewN ?_ _) | (with_reducible refine Keep.drew ?_) | (with_reducible exact Keep.refl _) | refine Keep.trans ?_ (by with_reducible assumption) | exact Keep.refl _ | assumption))))⟩
    case round =>
      obtain ⟨i, rfl, hil, rfl, hal, hk⟩ := hrel
      have HL := Aside.mk hal
      clear hal
      by_cases hi0 : 0 < i
      · obtain ⟨m, hm1⟩ : ∃ m, i = m + 1 := ⟨i - 1, by omega⟩
        have hml : m < l.length := by omega
        obtain ⟨bb, o, rfl, hc⟩ := (hR.keep hk).at (k := m) (by rw [cds_len]; omega)
        obtain ⟨r1, r2, r3⟩ := cds_at l i hil
        obtain ⟨t1, t2, t3⟩ := cds_at l m (by omega)
        have p1 := hc _ _ r1
        have p2 := hc _ _ r2
        have p3 := hc _ _ r3
        have q1 := hc _ _ t1
        have q2 := hc _ _ t2
        have q3 := hc _ _ t3
        rw [← Nat.add_assoc] at p2 p3 q2 q3
        have hcall := Aside.mk (fun W h => hq l[i] (l[m]'(by omega)) (List.getElem_mem hil) (List.getElem_mem (show m < l.length by omega)) W h)
        have hB : Aside (badAt l (fun x y => decide (f x y < 0)) m = decide (f l[i] (l[m]'(by omega)) < 0)) := Aside.mk (by subst hm1; exact badAt_at (l := l) (fun x y => decide (f x y < 0)) hil)
        have HN := Aside.mk (fun h => srtB_no (l := l) (lt := fun x y => decide (f x y < 0)) (j := m) (by omega) h)
        have hsub : ((i : Int) - 1) = (m : Int) := by omega
        have hwm : IntKind.i64.wrap (m : Int) = m := wrapI64 ⟨by omega, by omega⟩
        have HM1 := Aside.mk hm1
        clear hm1
        clear hc hq r1 r2 r3 t1 t2 t3
        generalize l[i] = x at *
        generalize l[m] = y at *
        obtain ⟨xs, xa, xb⟩ := x
        obtain ⟨ys, ya, yb⟩ := y
        simp only at p1 p2 p3 q1 q2 q3 hcall hB
        generalize f ⟨xs, xa, xb⟩ ⟨ys, ya, yb⟩ = n at *
        have hk0 := hk
        go_wp2_with fail
        refine wp_region_keep (by kernel_rfl) (by kernel_rfl) ?_
        repeat
          first
            | (apply QuietL.run
               focus go_simp
               focus
                 intro w2 hk
                 have p1' := hk.cell p1
                 have p2' := hk.cell p2
                 have p3' := hk.cell p3
                 have q1' := hk.cell q1
                 have q2' := hk.cell q2
                 have q3' := hk.cell q3
                 apply QAt.mk
                 go_simp
                 first
                   | done
                   | exact rfl
                   | (go_at_fn g; exact quiet_call hk (hcall.out _ (Keep.trans hk0 hk)))
               simp only [Act.put, List.setIfInBounds_toArray, List.set_cons_succ, List.set_cons_zero])
            | (apply QuietL.skip
               focus go_simp
               simp only [Act.put, List.setIfInBounds_toArray, List.set_cons_succ, List.set_cons_zero])
        apply QuietL.nil
        intro w2 hk
        have p1' := hk.cell p1
        have p2' := hk.cell p2
        have p3' := hk.cell p3
        have q1' := hk.cell q1
        have q2' := hk.cell q2
        have q3' := hk.cell q3
        have kk := Keep.trans hk0 hk
        by_cases hn : n < 0
        · have hbad : badAt l (fun x y => decide (f x y < 0)) m = true := by rw [hB.out]; simpa using hn
          have HA := Aside.mk (HN.out hbad)
          clear hbad HN hB HL
          go_wp2
          go_ret; exact ⟨rb HA.out.symm, (by ((repeat (first | (with_reducible assumption) | ((with_reducible refine Keep.setCell ?_ ?_ _); rotate_left; focus (first | omega | (simp; done) | (simp; omega))) | (with_reducible refine Keep.alloc ?_ _) | (with_reducible refine Keep.drewN ?_ _) | (with_reducible refine Keep.drew ?_) | (with_reducible exact Keep.refl _) | refine Keep.trans ?_ (by with_reducible assumption) | exact Keep.refl _ | assumption))))⟩
        · have hbad : badAt l (fun x y => decide (f x y < 0)) m = false := by rw [hB.out]; simpa using hn
          have HA := Aside.mk hbad
          clear hbad HN hB
          go_wp2
          go_roundg m
          case measure => have := HM1.out; omega
          case rel => exact ⟨m, rfl, hml, by go_num, fun j h1 h2 => by
              by_cases e : j = m
              · rw [e]; exact HA.out
              · exact HL.out j (by have := HM1.out; omega) h2, kk⟩
      · have e2 : i = 0 := by omega
        subst e2
        have hal : srtB l (fun x y => decide (f x y < 0)) = true := by
          unfold srtB
          rw [List.all_eq_true]
          intro j hj
          rw [HL.out j (by omega) (by have := List.mem_range.1 hj; omega)]; rfl
        have HA := Aside.mk hal
        clear hal
        go_wp2
        go_ret; exact ⟨rb HA.out.symm, (by ((repeat (first | (with_reducible assumption) | ((with_reducible refine Keep.setCell ?_ ?_ _); rotate_left; focus (first | omega | (simp; done) | (simp; omega))) | (with_reducible refine Keep.alloc ?_ _) | (with_reducible refine Keep.drewN ?_ _) | (with_reducible refine Keep.drew ?_) | (with_reducible exact Keep.refl _) | refine Keep.trans ?_ (by with_reducible assumption) | exact Keep.refl _ | assumption))))⟩
/-- The key of a card by a field. -/
def keyC (f : Int × Int × Int) (c : Cd) : Int := kv c.a c.b (sortL f.1 f.2.1 f.2.2)
def ltC (f : Int × Int × Int) (x y : Cd) : Bool := decide (keyC f x < keyC f y)
theorem isSorted_clo (s : ByteArray) (k st sz : Int) (xs ys : ByteArray) (xa xb ya yb : Wd) (g : Nat) (w : World) (hz : okSz k sz) (ht : I16 st) (h0 : 0 ≤ st) (h2 : st + widthN k sz ≤ 96) (hF : Bx w g #[.string s, .int .i8 k, .int .i16 st, .int .i16 sz] 89) :
    Calls Tryd.prog 149 #[.agg #[.string xs, .int .u64 (U xa), .int .u64 (U xb)], .agg #[.string ys, .int .u64 (U ya), .int .u64 (U yb)], .pointer (some ⟨g, 0, none⟩)] w fun e w' => e = .returned (.int .i64 (cmpN (kv xa xb (sortL k st sz)) (kv ya yb (sortL k st sz)))) ∧ Keep w w' := by
  have hK1 := Aside.mk (fun W => impl_key s k st sz xa xb W hz ht h0 h2)
  have hK2 := Aside.mk (fun W => impl_key s k st sz ya yb W hz ht h0 h2)
  generalize kv xa xb (sortL k st sz) = k1 at *
  generalize kv ya yb (sortL k st sz) = k2 at *
  have hg := hF.lt
  go_enter Tryd.func149, Tryd.ntmps149
  go_wp2_with fail
  refine wp_gen (fun W => Bx W w.heap.size #[.string xs, .int .u64 (U xa), .int .u64 (U xb)] 108 ∧ Bx W (w.heap.size + 1) #[.string ys, .int .u64 (U ya), .int .u64 (U yb)] 108 ∧ Bx W g #[.string s, .int .i8 k, .int .i16 st, .int .i16 sz] 89 ∧ Keep w W) ⟨(Bx.new _ _ _).alloc _, Bx.new1 _ _ _ _, (hF.alloc _).alloc _, (by ((repeat (first | (with_reducible assumption) | ((with_reducible refine Keep.setCell ?_ ?_ _); rotate_left; focus (first | omega | (simp; done) | (simp; omega))) | (with_reducible refine Keep.alloc ?_ _) | (with_reducible refine Keep.drewN ?_ _) | (with_reducible refine Keep.drew ?_) | (with_reducible exact Keep.refl _) | refine Keep.trans ?_ (by with_reducible assumption) | exact Keep.refl _ | assumption))))⟩ ?_
  rintro W ⟨hX, hY, hF, hW⟩
  refine wp_region_keep (by kernel_rfl) (by kernel_rfl) ?_
  repeat
    first
      | (apply QuietL.run
         focus go_simp
         focus
           intro w2 hk
           obtain ⟨hX_0, hX_1, hX_2, hX_3, hX_4, hX_5, hX_6⟩ := (hX.keep hk).three
           obtain ⟨hY_0, hY_1, hY_2, hY_3, hY_4, hY_5, hY_6⟩ := (hY.keep hk).three
           obtain ⟨hF_0, hF_1, hF_2, hF_3, hF_4, hF_5, hF_6, hF_7, hF_8⟩ := (hF.keep hk).four
           apply QAt.mk
           go_simp
           first
             | done
             | exact rfl
             | (go_at_call 151; with_reducible exact quiet_call hk (hK1.out _))
             | (go_at_call 151; with_reducible exact quiet_call hk (hK2.out _))
             | (go_at_call 150; exact quiet_call hk (cmp_Compare _ _ _))
         simp only [Act.put, List.setIfInBounds_toArray, List.set_cons_succ, List.set_cons_zero])
      | (apply QuietL.skip
         focus go_simp
         simp only [Act.put, List.setIfInBounds_toArray, List.set_cons_succ, List.set_cons_zero])
  apply QuietL.nil
  intro w2 hk
  have hX := hX.keep hk
  obtain ⟨hX_0, hX_1, hX_2, hX_3, hX_4, hX_5, hX_6⟩ := hX.three
  have hY := hY.keep hk
  obtain ⟨hY_0, hY_1, hY_2, hY_3, hY_4, hY_5, hY_6⟩ := hY.three
  have hF := hF.keep hk
  obtain ⟨hF_0, hF_1, hF_2, hF_3, hF_4, hF_5, hF_6, hF_7, hF_8⟩ := hF.four
  go_wp2
  go_ret; exact ⟨rfl, (by ((repeat (first | (with_reducible assumption) | ((with_reducible refine Keep.setCell ?_ ?_ _); rotate_left; focus (first | omega | (simp; done) | (simp; omega))) | (with_reducible refine Keep.alloc ?_ _) | (with_reducible refine Keep.drewN ?_ _) | (with_reducible refine Keep.drew ?_) | (with_reducible exact Keep.refl _) | refine Keep.trans ?_ (by with_reducible assumption) | exact Keep.refl _ | assumption))))⟩
theorem impl_isSorted (A : Option Addr) (l : List Cd) (c : Nat) (s : ByteArray) (k st sz : Int) (w : World) (hm : l.length ≤ 9223372036854775807) (hR : Rd w A (cds l)) (hz : okSz k sz) (ht : I16 st) (h0 : 0 ≤ st) (h2 : st + widthN k sz ≤ 96) :
    Calls Tryd.prog 113 #[.slice A l.length c, .agg #[.string s, .int .i8 k, .int .i16 st, .int .i16 sz]] w fun e w' => e = .returned (.bool (srtB l (ltC (k, st, sz)))) ∧ Keep w w' := by
  have hF : Bx (w.alloc (.cells #[.string s, .int .i8 k, .int .i16 st, .int .i16 sz] 89)) w.heap.size #[.string s, .int .i8 k, .int .i16 st, .int .i16 sz] 89 := Bx.new _ _ _
  have hs := sorted_func A l c 149 #[.pointer (some ⟨w.heap.size, 0, none⟩)] (fun x y => cmpN (keyC (k, st, sz) x) (keyC (k, st, sz) y)) _ hm (hR.keep ((Keep.refl _).alloc (.cells #[.string s, .int .i8 k, .int .i16 st, .int .i16 sz] 89))) (enters_of Tryd.func149 (by kernel_rfl) rfl) (fun x y _ _ W' hk => isSorted_clo s k st sz x.s y.s x.a x.b y.a y.b w.heap.size W' hz ht h0 h2 (hF.keep hk))
  simp only [cmpN_lt] at hs
  rw [show (fun x y => decide (keyC (k, st, sz) x < keyC (k, st, sz) y)) = ltC (k, st, sz) from rfl] at hs
  generalize srtB l (ltC (k, st, sz)) = r at *
  clear hF
  go_enter Tryd.func113, Tryd.ntmps113
  (go_wp2_with fail); (go_at_call 148); (refine (hs).mono ?_); rintro e w1 ⟨rfl, hk1⟩
  go_wp2
  go_ret; exact ⟨rfl, (by ((repeat (first | (with_reducible assumption) | ((with_reducible refine Keep.setCell ?_ ?_ _); rotate_left; focus (first | omega | (simp; done) | (simp; omega))) | (with_reducible refine Keep.alloc ?_ _) | (with_reducible refine Keep.drewN ?_ _) | (with_reducible refine Keep.drew ?_) | (with_reducible exact Keep.refl _) | refine Keep.trans ?_ (by with_reducible assumption) | exact Keep.refl _ | assumption))))⟩
theorem spec_l02Sorted (A : Option Addr) (l : List Cd) (c : Nat) (s : ByteArray) (k st sz : Int) (g o : Nat) (w : World) (hm : l.length ≤ 9223372036854775807) (hR : Rd w A (cds l)) (hz : okSz k sz) (h0 : 0 ≤ st) (h2 : st + widthN k sz ≤ 96)
    (c0 : w.cell? ⟨g, o, none⟩ = some (.string s)) (c1 : w.cell? ⟨g, o + 1, none⟩ = some (.int .i8 k)) (c2 : w.cell? ⟨g, o + 2, none⟩ = some (.int .i16 st)) (c3 : w.cell? ⟨g, o + 3, none⟩ = some (.int .i16 sz)) :
    Calls Tryd.prog 111 #[.slice A l.length c, .pointer (some ⟨g, o, none⟩)] w fun e w' => e = .returned (.bool (srtB l (ltC (k, st, sz)))) ∧ Keep w w' := by
  go_enter Tryd.func111, Tryd.ntmps111
  go_wp2_with fail
  go_loopg [5] l.length (fun kk s5 wr => ∃ i m : Nat, i = m + 1 ∧ m + kk = l.length ∧ s5 = .int .i64 i ∧ (List.range m).all (fun j => !badAt l (ltC (k, st, sz)) j) = true ∧ Keep w wr)
  case atStart => exact ⟨1, 0, rfl, by omega, rfl, rfl, (by ((repeat (first | (with_reducible assumption) | ((with_reducible refine Keep.setCell ?_ ?_ _); rotate_left; focus (first | omega | (simp; done) | (simp; omega))) | (with_reducible refine Keep.alloc ?_ _) | (with_reducible refine Keep.drewN ?_ _) | (with_reducible refine Keep.drew ?_) | (with_reducible exact Keep.refl _) | refine Keep.trans ?_ (by with_reducible assumption) | exact Keep.refl _ | assumption))))⟩
  case round =>
    obtain ⟨i, m, him, hi, rfl, hal, hk0⟩ := hrel
    have HL := Aside.mk hal
    clear hal
    by_cases hlt : i < l.length
    · have hml : m < l.length := by omega
      obtain ⟨bb, o', rfl, hc⟩ := (hR.keep hk0).at (k := i) (by rw [cds_len]; omega)
      obtain ⟨r1, r2, r3⟩ := cds_at l i hlt
      obtain ⟨t1, t2, t3⟩ := cds_at l m hml
      have p2 := hc _ _ r2
      have p3 := hc _ _ r3
      have q2 := hc _ _ t2
      have q3 := hc _ _ t3
      rw [← Nat.add_assoc] at p2 p3 q2 q3
      have d0 := hk0.cell c0
      have d1 := hk0.cell c1
      have d2 := hk0.cell c2
      have d3 := hk0.cell c3
      have hB : Aside (badAt l (ltC (k, st, sz)) m = ltC (k, st, sz) l[i] l[m]) := Aside.mk (by subst him; exact badAt_at (l := l) (ltC (k, st, sz)) hlt)
      have HN := Aside.mk (fun h => srtB_no (l := l) (lt := ltC (k, st, sz)) (j := m) (by omega) h)
      have HS := Aside.mk (rall_succ (fun j => !badAt l (ltC (k, st, sz)) j) m)
      have hsub : ((i : Int) - 1) = (m : Int) := by omega
      have hwm : IntKind.i64.wrap (m : Int) = m := wrapI64 ⟨by omega, by omega⟩
      have HM1 := Aside.mk him
      clear him
      clear hc r1 r2 r3 t1 t2 t3
      generalize l[i] = x at *
      generalize l[m] = y at *
      obtain ⟨xs, xa, xb⟩ := x
      obtain ⟨ys, ya, yb⟩ := y
      simp only [ltC] at p2 p3 q2 q3 hB
      have hK1 := fun W e0 e1 e2 e3 => spec_l02Key s k st sz xa xb g o W hz h0 h2 e0 e1 e2 e3
      have hK2 := fun W e0 e1 e2 e3 => spec_l02Key s k st sz ya yb g o W hz h0 h2 e0 e1 e2 e3
      obtain ⟨k1, ek1⟩ : ∃ n, keyC (k, st, sz) ⟨xs, xa, xb⟩ = n := ⟨_, rfl⟩
      obtain ⟨k2, ek2⟩ : ∃ n, keyC (k, st, sz) ⟨ys, ya, yb⟩ = n := ⟨_, rfl⟩
      have fk1 : kv xa xb (sortL k st sz) = k1 := ek1
      have fk2 : kv ya yb (sortL k st sz) = k2 := ek2
      rw [ek1, ek2] at hB
      rw [fk1] at hK1
      rw [fk2] at hK2
      clear ek1 ek2 fk1 fk2
      replace hK1 := Aside.mk hK1
      replace hK2 := Aside.mk hK2
      go_wp2_with fail
      refine wp_region_keep (by kernel_rfl) (by kernel_rfl) ?_
      repeat
        first
          | (apply QuietL.run
             focus go_simp
             focus
               intro w2 hk
               have p2' := hk.cell p2
               have p3' := hk.cell p3
               have q2' := hk.cell q2
               have q3' := hk.cell q3
               have d0' := hk.cell d0
               have d1' := hk.cell d1
               have d2' := hk.cell d2
               have d3' := hk.cell d3
               apply QAt.mk
               go_simp
               first
                 | done
                 | exact rfl
                 | (go_at_call 146; with_reducible exact quiet_call hk (hK1.out _ d0' d1' d2' d3'))
                 | (go_at_call 146; with_reducible exact quiet_call hk (hK2.out _ d0' d1' d2' d3'))
             simp only [Act.put, List.setIfInBounds_toArray, List.set_cons_succ, List.set_cons_zero])
          | (apply QuietL.skip
             focus go_simp
             simp only [Act.put, List.setIfInBounds_toArray, List.set_cons_succ, List.set_cons_zero])
      apply QuietL.nil
      intro w2 hk
      have p2' := hk.cell p2
      have p3' := hk.cell p3
      have q2' := hk.cell q2
      have q3' := hk.cell q3
      have d0' := hk.cell d0
      have d1' := hk.cell d1
      have d2' := hk.cell d2
      have d3' := hk.cell d3
      have kk := hk0.trans hk
      by_cases hn : k1 < k2
      · have hbad : badAt l (ltC (k, st, sz)) m = true := by rw [hB.out]; simpa using hn
        have HA := Aside.mk (HN.out hbad)
        clear hbad HN hB HL
        go_wp2
        go_ret; exact ⟨rb HA.out.symm, (by ((repeat (first | (with_reducible assumption) | ((with_reducible refine Keep.setCell ?_ ?_ _); rotate_left; focus (first | omega | (simp; done) | (simp; omega))) | (with_reducible refine Keep.alloc ?_ _) | (with_reducible refine Keep.drewN ?_ _) | (with_reducible refine Keep.drew ?_) | (with_reducible exact Keep.refl _) | refine Keep.trans ?_ (by with_reducible assumption) | exact Keep.refl _ | assumption))))⟩
      · have hbad : badAt l (ltC (k, st, sz)) m = false := by rw [hB.out]; simpa using hn
        have HA := Aside.mk (show (List.range (m + 1)).all (fun j => !badAt l (ltC (k, st, sz)) j) = true by rw [HS.out, HL.out, hbad]; rfl)
        clear hbad HN hB
        go_wp2
        go_roundg (l.length - (m + 1))
        case measure => omega
        case rel => exact ⟨i + 1, m + 1, by have := HM1.out; omega, by omega, by go_num, HA.out, kk⟩
    · have hal : srtB l (ltC (k, st, sz)) = true := by
        unfold srtB
        rw [List.all_eq_true]
        intro j hj
        have h3 := HL.out
        rw [List.all_eq_true] at h3
        exact h3 j (List.mem_range.2 (by have := List.mem_range.1 hj; omega))
      have HA := Aside.mk hal
      clear hal
      go_wp2
      go_ret; exact ⟨rb HA.out.symm, (by ((repeat (first | (with_reducible assumption) | ((with_reducible refine Keep.setCell ?_ ?_ _); rotate_left; focus (first | omega | (simp; done) | (simp; omega))) | (with_reducible refine Keep.alloc ?_ _) | (with_reducible refine Keep.drewN ?_ _) | (with_reducible refine Keep.drew ?_) | (with_reducible exact Keep.refl _) | refine Keep.trans ?_ (by with_reducible assumption) | exact Keep.refl _ | assumption))))⟩
end Go.Proofs.YtpmilcfppcmodaaDoor

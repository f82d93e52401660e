/- Cards and fields: validity, sizes, greatest values. -/
import Derived.Test.YtpmilcfppcmodaaDoorN3
import Derived.Test.YtpmilcfppcmodaaDoorM6
import Derived.Test.YtpmilcfppcmodaaDoorS2
import Derived.Test.YtpmilcfppcmodaaDoorAu
set_option linter.unusedVariables false
set_option linter.unusedSimpArgs false
namespace Go.Proofs.YtpmilcfppcmodaaDoor
open Go.RowKit
set_option maxHeartbeats 2000000
def cardB (s : ByteArray) (b : Wd) : Bool := nameB s && okB b
theorem impl_isCard (s : ByteArray) (a b : Wd) (w : World) (hs : s.size ≤ 9223372036854775807) :
    Calls Tryd.prog 128 #[.agg #[.string s, .int .u64 (U a), .int .u64 (U b)]] w fun e w' => e = .returned (.bool (cardB s b)) ∧ Keep w w' := by
  cases h1 : nameB s
  · go_enter Tryd.func128, Tryd.ntmps128
    (go_wp2_with fail); (go_at_call 147); (refine (impl_isName _ _ hs).mono ?_); rintro e w1 ⟨rfl, hk1⟩
    rw [h1]
    obtain ⟨hk1c, hk1f⟩ := hk1.cells; have hk1z0 : w.heap.size < w1.heap.size := (by have := hk1.size; (try simp at this); omega)
    go_wp2
    go_ret; exact ⟨rb (by simp [cardB, h1]), (by ((repeat (first | (with_reducible assumption) | ((with_reducible refine Keep.setCell ?_ ?_ _); rotate_left; focus (first | omega | (simp; done) | (simp; omega))) | (with_reducible refine Keep.alloc ?_ _) | (with_reducible refine Keep.drewN ?_ _) | (with_reducible refine Keep.drew ?_) | (with_reducible exact Keep.refl _) | refine Keep.trans ?_ (by with_reducible assumption) | exact Keep.refl _ | assumption))))⟩
  · go_enter Tryd.func128, Tryd.ntmps128
    (go_wp2_with fail); (go_at_call 147); (refine (impl_isName _ _ hs).mono ?_); rintro e w1 ⟨rfl, hk1⟩
    rw [h1]
    obtain ⟨hk1c, hk1f⟩ := hk1.cells; have hk1z0 : w.heap.size < w1.heap.size := (by have := hk1.size; (try simp at this); omega)
    (go_wp2_with fail); (go_at_call 81); (refine (impl_isMask _ _ _).mono ?_); rintro e w2 ⟨rfl, hk2⟩
    go_wp2
    go_ret; exact ⟨rb (by simp [cardB, h1]), (by ((repeat (first | (with_reducible assumption) | ((with_reducible refine Keep.setCell ?_ ?_ _); rotate_left; focus (first | omega | (simp; done) | (simp; omega))) | (with_reducible refine Keep.alloc ?_ _) | (with_reducible refine Keep.drewN ?_ _) | (with_reducible refine Keep.drew ?_) | (with_reducible exact Keep.refl _) | refine Keep.trans ?_ (by with_reducible assumption) | exact Keep.refl _ | assumption))))⟩
theorem spec_l01Ok (s : ByteArray) (a b : Wd) (g o : Nat) (w : World) (hs : s.size ≤ 9223372036854775807)
    (c0 : w.cell? ⟨g, o, none⟩ = some (.string s)) (c1 : w.cell? ⟨g, o + 1, none⟩ = some (.int .u64 (U a))) (c2 : w.cell? ⟨g, o + 2, none⟩ = some (.int .u64 (U b))) :
    Calls Tryd.prog 124 #[.pointer (some ⟨g, o, none⟩)] w fun e w' => e = .returned (.bool (cardB s b)) ∧ Keep w w' := by
  cases h1 : nameB s
  · go_enter Tryd.func124, Tryd.ntmps124
    (go_wp2_with fail); (go_at_call 145); (refine (spec_l01Name _ _ hs).mono ?_); rintro e w1 ⟨rfl, hk1⟩
    rw [h1]
    go_wp2
    go_ret; exact ⟨rb (by simp [cardB, h1]), (by ((repeat (first | (with_reducible assumption) | ((with_reducible refine Keep.setCell ?_ ?_ _); rotate_left; focus (first | omega | (simp; done) | (simp; omega))) | (with_reducible refine Keep.alloc ?_ _) | (with_reducible refine Keep.drewN ?_ _) | (with_reducible refine Keep.drew ?_) | (with_reducible exact Keep.refl _) | refine Keep.trans ?_ (by with_reducible assumption) | exact Keep.refl _ | assumption))))⟩
  · go_enter Tryd.func124, Tryd.ntmps124
    (go_wp2_with fail); (go_at_call 145); (refine (spec_l01Name _ _ hs).mono ?_); rintro e w1 ⟨rfl, hk1⟩
    rw [h1]
    have d0 := hk1.cell c0
    have d1 := hk1.cell c1
    have d2 := hk1.cell c2
    (go_wp2_with fail); (go_at_call 125); (refine (spec_l01Mask _ _ _).mono ?_); rintro e w2 ⟨rfl, hk2⟩
    go_wp2
    go_ret; exact ⟨rb (by simp [cardB, h1]), (by ((repeat (first | (with_reducible assumption) | ((with_reducible refine Keep.setCell ?_ ?_ _); rotate_left; focus (first | omega | (simp; done) | (simp; omega))) | (with_reducible refine Keep.alloc ?_ _) | (with_reducible refine Keep.drewN ?_ _) | (with_reducible refine Keep.drew ?_) | (with_reducible exact Keep.refl _) | refine Keep.trans ?_ (by with_reducible assumption) | exact Keep.refl _ | assumption))))⟩
/-- What is known of a valid field. -/
theorem fieldB_iff {s : ByteArray} {k st sz : Int} : fieldB s k st sz = true ↔ nameB s = true ∧ 1 ≤ sz ∧ sz ≤ mostW k ∧ 0 ≤ st ∧ st + widthN k sz ≤ 96 := by
  unfold fieldB; simp [inB]; omega
theorem fieldB_use {s : ByteArray} {k st sz : Int} (h : fieldB s k st sz = true) : 1 ≤ sz ∧ 0 ≤ st ∧ st + widthN k sz ≤ 96 ∧ 1 ≤ widthN k sz ∧ ((k = 0 ∧ sz ≤ 24) ∨ (k = 1 ∧ sz ≤ 4) ∨ (k = 2 ∧ sz ≤ 4) ∨ (k = 3 ∧ sz ≤ 12)) := by
  obtain ⟨_, h1, h2, h3, h4⟩ := fieldB_iff.1 h
  unfold mostW at h2
  unfold widthN at *
  by_cases k0 : k = 0
  · subst k0; simp at *; omega
  by_cases k1 : k = 1
  · subst k1; simp at *; omega
  by_cases k2 : k = 2
  · subst k2; simp at *; omega
  by_cases k3 : k = 3
  · subst k3; simp at *; omega
  · simp [k0, k1, k2, k3] at *; omega
def fE (s : ByteArray) (k st sz : Int) : Int := cond (fieldB s k st sz) 0 1
def widthM (s : ByteArray) (k st sz : Int) : Int := cond (fieldB s k st sz) (widthN k sz) 0
/-! ### The part of a field -/
def paLo (k st sz : Int) : Wd := rlo st (widthN k sz).toNat
def paHi (k st sz : Int) : Wd := rhi st (widthN k sz).toNat
def partLo (s : ByteArray) (k st sz : Int) : Wd := cond (fieldB s k st sz) (paLo k st sz) 0#64
def partHi (s : ByteArray) (k st sz : Int) : Wd := cond (fieldB s k st sz) (paHi k st sz) 0#64
theorem impl_part (s : ByteArray) (k st sz : Int) (w : World) (hz : I16 sz) (ht : I16 st) (h0 : 0 ≤ st) (h1 : 1 ≤ widthN k sz) (h2 : st + widthN k sz ≤ 96) :
    Calls Tryd.prog 100 #[.agg #[.string s, .int .i8 k, .int .i16 st, .int .i16 sz]] w fun e w' => e = .returned (.agg #[.int .u64 (U (paLo k st sz)), .int .u64 (U (paHi k st sz))]) ∧ Keep w w' := by
  unfold paLo paHi
  have es : IntKind.i64.wrap st = st := wrapI64 ⟨by omega, by omega⟩
  go_enter Tryd.func100, Tryd.ntmps100
  go_wp2_with fail
  refine wp_gen (fun W => Bx W w.heap.size #[.string s, .int .i8 k, .int .i16 st, .int .i16 sz] 89 ∧ Bx W (w.heap.size + 1) #[.int .u64 0, .int .u64 0] 33 ∧ Keep w W) ⟨(Bx.new _ _ _).alloc _, Bx.new1 _ _ _ _, (by ((repeat (first | (with_reducible assumption) | ((with_reducible refine Keep.setCell ?_ ?_ _); rotate_left; focus (first | omega | (simp; done) | (simp; omega))) | (with_reducible refine Keep.alloc ?_ _) | (with_reducible refine Keep.drewN ?_ _) | (with_reducible refine Keep.drew ?_) | (with_reducible exact Keep.refl _) | refine Keep.trans ?_ (by with_reducible assumption) | exact Keep.refl _ | assumption))))⟩ ?_
  rintro W ⟨hA, hR, hW⟩
  apply wp_region_mono 6 [Fx _, Fx _, Fx _, Fx _, Fx _, Fx _] (by kernel_rfl) (by kernel_rfl) (mono_of ⟨Fx.mono _, Fx.mono _, Fx.mono _, Fx.mono _, Fx.mono _, Fx.mono _, trivial⟩) ?st3 ?tl3
  case st3 =>
    simp only [List.take_succ_cons, List.take_zero, List.drop_succ_cons, List.drop_zero, putAll, Act.put, List.setIfInBounds_toArray, List.set_cons_succ, List.set_cons_zero, Nat.zero_add, Nat.reduceAdd]
    refine steps_cons ?_ (steps_cons ?_ (steps_cons ?_ (steps_cons ?_ (steps_cons ?_ (steps_cons ?_ steps_nil)))))
    all_goals
      intro v w2 hk hd
      obtain ⟨hA_0, hA_1, hA_2, hA_3, hA_4, hA_5, hA_6, hA_7, hA_8⟩ := (hA.keep hk).four
      obtain ⟨hR_0, hR_1, hR_2, hR_3, hR_4⟩ := (hR.keep hk).two
      have hkz := hk.size
      simp [DepsOf, factAt, Fx, Region.binds] at hd
      simp only [factAt, List.getD_cons_zero, List.getD_cons_succ]
      refine Gives.mk ?_
      go_simp
      first | exact ⟨Keep.refl _, Fx.self _ _⟩ | exact ⟨(Keep.refl _).alloc _, _, rfl, Bx.new _ _ _, by first | omega | (simp; omega)⟩ | (go_at_call 142; exact gives_fx (impl_many _ _ _ _ _ hz)) | (go_at_call 141; exact gives_fx (impl_rangeMask st (widthN k sz) _ h0 (by omega) h2))
  simp only [List.take_succ_cons, List.take_zero, List.drop_succ_cons, List.drop_zero, putAll, Act.put, List.setIfInBounds_toArray, List.set_cons_succ, List.set_cons_zero, Nat.zero_add, Nat.reduceAdd]
  intro v w2 hk hh
  obtain ⟨hA_0, hA_1, hA_2, hA_3, hA_4, hA_5, hA_6, hA_7, hA_8⟩ := (hA.keep hk).four
  obtain ⟨hR_0, hR_1, hR_2, hR_3, hR_4⟩ := (hR.keep hk).two
  have hkz := hk.size
  simp only [Held, factAt, List.getD_cons_zero, List.getD_cons_succ, Fx, true_and] at hh
  obtain ⟨⟨⟨⟨⟨v_0, v_1⟩, v_2⟩, v_3⟩, v_4⟩, v_5⟩ := hh
  simp only [v_0, v_1, v_2, v_3, v_4, v_5]
  go_wp2
  (apply bodyPost_ret; rotate_left; rfl; exact ⟨rfl, (by ((repeat (first | (with_reducible assumption) | ((with_reducible refine Keep.setCell ?_ ?_ _); rotate_left; focus (first | omega | (simp; done) | (simp; omega))) | (with_reducible refine Keep.alloc ?_ _) | (with_reducible refine Keep.drewN ?_ _) | (with_reducible refine Keep.drew ?_) | (with_reducible exact Keep.refl _) | refine Keep.trans ?_ (by with_reducible assumption) | exact Keep.refl _ | assumption))))⟩; simp [results, Tryd.results100, go_sem, U_zero, *])
theorem spec_l01Part (s : ByteArray) (k st sz : Int) (g o : Nat) (w : World) (hz : I16 sz) (ht : I16 st) (h0 : 0 ≤ st) (h1 : 1 ≤ widthN k sz) (h2 : st + widthN k sz ≤ 96)
    (c0 : w.cell? ⟨g, o, none⟩ = some (.string s)) (c1 : w.cell? ⟨g, o + 1, none⟩ = some (.int .i8 k)) (c2 : w.cell? ⟨g, o + 2, none⟩ = some (.int .i16 st)) (c3 : w.cell? ⟨g, o + 3, none⟩ = some (.int .i16 sz)) :
    Calls Tryd.prog 99 #[.pointer (some ⟨g, o, none⟩)] w fun e w' => e = .returned (.agg #[.int .u64 (U (paLo k st sz)), .int .u64 (U (paHi k st sz))]) ∧ Keep w w' := by
  unfold paLo paHi
  have es : IntKind.i64.wrap st = st := wrapI64 ⟨by omega, by omega⟩
  go_enter Tryd.func99, Tryd.ntmps99
  go_wp2_with fail
  go_loopg [4] (widthN k sz).toNat (fun m s1 wr => ∃ i : Nat, i + m = (widthN k sz).toNat ∧ s1 = .int .i64 i ∧ Bx wr w.heap.size #[.int .u64 0, .int .u64 0] 33 ∧ Bx wr (w.heap.size + 1) #[.int .u64 (U (rlo st i)), .int .u64 (U (rhi st i))] 33 ∧ Keep w wr)
  case atStart => exact ⟨0, by omega, by simp, (Bx.new _ _ _).alloc _, Bx.new1 _ _ _ _, (by ((repeat (first | (with_reducible assumption) | ((with_reducible refine Keep.setCell ?_ ?_ _); rotate_left; focus (first | omega | (simp; done) | (simp; omega))) | (with_reducible refine Keep.alloc ?_ _) | (with_reducible refine Keep.drewN ?_ _) | (with_reducible refine Keep.drew ?_) | (with_reducible exact Keep.refl _) | refine Keep.trans ?_ (by with_reducible assumption) | exact Keep.refl _ | assumption))))⟩
  case round =>
    obtain ⟨i, hi, rfl, hA, hB, hk⟩ := hrel
    (go_wp2_with fail); (go_at_call 117); (refine (spec_l01Width s k st sz _ _ _ hz (hk.cell c0) (hk.cell c1) (hk.cell c2) (hk.cell c3)).mono ?_); rintro e w1 ⟨rfl, hk1⟩
    have hA1 := hA.keep hk1
    have hB1 := hB.keep hk1
    have k1 : Keep w w1 := (by ((repeat (first | (with_reducible assumption) | ((with_reducible refine Keep.setCell ?_ ?_ _); rotate_left; focus (first | omega | (simp; done) | (simp; omega))) | (with_reducible refine Keep.alloc ?_ _) | (with_reducible refine Keep.drewN ?_ _) | (with_reducible refine Keep.drew ?_) | (with_reducible exact Keep.refl _) | refine Keep.trans ?_ (by with_reducible assumption) | exact Keep.refl _ | assumption))))
    clear hA hB hk1 hk
    have hAs := hA1.two
    have hBs := hB1.two
    have d2 : CellAt w1 g (o + 2) (.int .i16 st) := ⟨k1.cell c2⟩
    by_cases hlt : (i : Int) < widthN k sz
    · have e1 : IntKind.i64.wrap (st + i) = st + i := wrapI64 ⟨by omega, by omega⟩
      go_wp2_with fail
      apply wp_region_mono 10 [Fx _, Fx _, Fx _, Fx _, Fx _, Fx _, Fx _, Fx _, Fx _, Fx _] (by kernel_rfl) (by kernel_rfl) (mono_of ⟨Fx.mono _, Fx.mono _, Fx.mono _, Fx.mono _, Fx.mono _, Fx.mono _, Fx.mono _, Fx.mono _, Fx.mono _, Fx.mono _, trivial⟩) ?st4 ?tl4
      case st4 =>
        simp only [List.take_succ_cons, List.take_zero, List.drop_succ_cons, List.drop_zero, putAll, Act.put, List.setIfInBounds_toArray, List.set_cons_succ, List.set_cons_zero, Nat.zero_add, Nat.reduceAdd]
        refine steps_cons ?_ (steps_cons ?_ (steps_cons ?_ (steps_cons ?_ (steps_cons ?_ (steps_cons ?_ (steps_cons ?_ (steps_cons ?_ (steps_cons ?_ (steps_cons ?_ steps_nil)))))))))
        all_goals
          intro v w2 hk hd
          obtain ⟨hA1_0, hA1_1, hA1_2, hA1_3, hA1_4⟩ := (hA1.keep hk).two
          obtain ⟨hB1_0, hB1_1, hB1_2, hB1_3, hB1_4⟩ := (hB1.keep hk).two
          obtain ⟨d2_0, d2_1⟩ := (d2.keep hk).at2
          have hkz := hk.size
          simp [DepsOf, factAt, Fx, Region.binds] at hd
          simp only [factAt, List.getD_cons_zero, List.getD_cons_succ]
          refine Gives.mk ?_
          go_simp
          first | exact ⟨Keep.refl _, Fx.self _ _⟩ | exact ⟨(Keep.refl _).alloc _, _, rfl, Bx.new _ _ _, by first | omega | (simp; omega)⟩ | (go_at_call 123; exact gives_fx (spec_l01Bit _ (by omega) (by omega) _)) | (go_at_call 120; exact gives_fx (spec_l01Join _ _ _ _ _))
      simp only [List.take_succ_cons, List.take_zero, List.drop_succ_cons, List.drop_zero, putAll, Act.put, List.setIfInBounds_toArray, List.set_cons_succ, List.set_cons_zero, Nat.zero_add, Nat.reduceAdd]
      intro v w2 hk hh
      obtain ⟨hA1_0, hA1_1, hA1_2, hA1_3, hA1_4⟩ := (hA1.keep hk).two
      obtain ⟨hB1_0, hB1_1, hB1_2, hB1_3, hB1_4⟩ := (hB1.keep hk).two
      obtain ⟨d2_0, d2_1⟩ := (d2.keep hk).at2
      have hkz := hk.size
      simp only [Held, factAt, List.getD_cons_zero, List.getD_cons_succ, Fx, true_and] at hh
      obtain ⟨⟨⟨⟨⟨⟨⟨⟨⟨v_0, v_1⟩, v_2⟩, v_3⟩, v_4⟩, v_5⟩, v_6⟩, v_7⟩, v_8⟩, v_9⟩ := hh
      simp only [v_0, v_1, v_2, v_3, v_4, v_5, v_6, v_7, v_8, v_9]
      have HA := Aside.mk (hA1.keep hk)
      have HB := Aside.mk (hB1.keep hk)
      clear hA1 hB1
      go_wp2
      go_roundg ((widthN k sz).toNat - (i + 1))
      case measure => omega
      case rel => exact ⟨i + 1, by omega, by go_num, (HA.out.set' (by simp) _).set' (by simp) _, (HB.out.set _).set _, (by ((repeat (first | (with_reducible assumption) | ((with_reducible refine Keep.setCell ?_ ?_ _); rotate_left; focus (first | omega | (simp; done) | (simp; omega))) | (with_reducible refine Keep.alloc ?_ _) | (with_reducible refine Keep.drewN ?_ _) | (with_reducible refine Keep.drew ?_) | (with_reducible exact Keep.refl _) | refine Keep.trans ?_ (by with_reducible assumption) | exact Keep.refl _ | assumption))))⟩
    · have e2 : i = (widthN k sz).toNat := by omega
      obtain rfl : i = (widthN k sz).toNat := e2
      go_wp2
      (apply bodyPost_ret; rotate_left; rfl; exact ⟨rfl, (by ((repeat (first | (with_reducible assumption) | ((with_reducible refine Keep.setCell ?_ ?_ _); rotate_left; focus (first | omega | (simp; done) | (simp; omega))) | (with_reducible refine Keep.alloc ?_ _) | (with_reducible refine Keep.drewN ?_ _) | (with_reducible refine Keep.drew ?_) | (with_reducible exact Keep.refl _) | refine Keep.trans ?_ (by with_reducible assumption) | exact Keep.refl _ | assumption))))⟩; simp [results, Tryd.results99, go_sem, U_zero, *])
end Go.Proofs.YtpmilcfppcmodaaDoor

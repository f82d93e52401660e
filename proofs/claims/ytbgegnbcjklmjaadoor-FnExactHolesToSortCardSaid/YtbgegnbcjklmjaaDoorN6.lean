/- Cards with an emptied field; the part of a field with a code. -/
import Derived.Test.YtbgegnbcjklmjaaDoorN5
import Derived.Test.YtbgegnbcjklmjaaDoorLate
set_option linter.unusedVariables false
set_option linter.unusedSimpArgs false
namespace Go.Proofs.YtbgegnbcjklmjaaDoor
open Go.RowKit
set_option maxHeartbeats 2000000
theorem I8_of_ok {k sz : Int} (h : okSz k sz) : I16 sz := by obtain ⟨h1, h2⟩ := h; unfold I16; omega
theorem impl_PartOf (s : ByteArray) (k st sz : Int) (w : World) (hw : s.size ≤ 9223372036854775807 ∧ I8 k ∧ I16 st ∧ I16 sz) :
    Calls Tryd.prog 28 #[.agg #[.string s, .int .i8 k, .int .i16 st, .int .i16 sz]] w fun e w' => e = .returned (.tuple #[.agg #[.int .u64 (U (partLo s k st sz)), .int .u64 (U (partHi s k st sz))], .int .i64 (fE s k st sz)]) ∧ Keep w w' := by
  cases h1 : fieldB s k st sz <;> simp only [partLo, partHi, fE, h1, cond_true, cond_false]
  · go_enter Tryd.func28, Tryd.ntmps28
    (go_wp2_with fail); (go_at_call 53); (refine (impl_isField _ _ _ _ _ hw.1 hw.2.1 hw.2.2.1 hw.2.2.2).mono ?_); rintro e w1 ⟨rfl, hk1⟩
    rw [h1]
    obtain ⟨hk1c, hk1f⟩ := hk1.cells; have hk1z0 : w.heap.size < w1.heap.size := (by have := hk1.size; (try simp at this); omega); have hk1z1 : w.heap.size + 1 < w1.heap.size := (by have := hk1.size; (try simp at this); omega)
    go_wp2
    (apply bodyPost_ret; rotate_left; rfl; exact ⟨rfl, (by ((repeat (first | (with_reducible assumption) | ((with_reducible refine Keep.setCell ?_ ?_ _); rotate_left; focus (first | omega | (simp; done) | (simp; omega))) | (with_reducible refine Keep.alloc ?_ _) | (with_reducible refine Keep.drewN ?_ _) | (with_reducible refine Keep.drew ?_) | (with_reducible exact Keep.refl _) | refine Keep.trans ?_ (by with_reducible assumption) | exact Keep.refl _ | assumption))))⟩; simp [results, Tryd.results28, go_sem, U_zero, *])
  · obtain ⟨u1, u2, u3, u4, u5⟩ := fieldB_use h1
    go_enter Tryd.func28, Tryd.ntmps28
    (go_wp2_with fail); (go_at_call 53); (refine (impl_isField _ _ _ _ _ hw.1 hw.2.1 hw.2.2.1 hw.2.2.2).mono ?_); rintro e w1 ⟨rfl, hk1⟩
    rw [h1]
    obtain ⟨hk1c, hk1f⟩ := hk1.cells; have hk1z0 : w.heap.size < w1.heap.size := (by have := hk1.size; (try simp at this); omega); have hk1z1 : w.heap.size + 1 < w1.heap.size := (by have := hk1.size; (try simp at this); omega)
    (go_wp2_with fail); (go_at_call 59); (refine (impl_part _ _ _ _ _ hw.2.2.2 hw.2.2.1 u2 u4 u3).mono ?_); rintro e w2 ⟨rfl, hk2⟩
    obtain ⟨hk2c, hk2f⟩ := hk2.cells; have hk2z0 : w.heap.size < w2.heap.size := (by have := hk2.size; (try simp at this); omega); have hk2z1 : w.heap.size + 1 < w2.heap.size := (by have := hk2.size; (try simp at this); omega)
    go_wp2
    (apply bodyPost_ret; rotate_left; rfl; exact ⟨rfl, (by ((repeat (first | (with_reducible assumption) | ((with_reducible refine Keep.setCell ?_ ?_ _); rotate_left; focus (first | omega | (simp; done) | (simp; omega))) | (with_reducible refine Keep.alloc ?_ _) | (with_reducible refine Keep.drewN ?_ _) | (with_reducible refine Keep.drew ?_) | (with_reducible exact Keep.refl _) | refine Keep.trans ?_ (by with_reducible assumption) | exact Keep.refl _ | assumption))))⟩; simp [results, Tryd.results28, go_sem, U_zero, *])
theorem spec_PartOf (s : ByteArray) (k st sz : Int) (w : World) (hw : s.size ≤ 9223372036854775807 ∧ I8 k ∧ I16 st ∧ I16 sz) :
    Calls Tryd.prog 27 #[.agg #[.string s, .int .i8 k, .int .i16 st, .int .i16 sz]] w fun e w' => e = .returned (.tuple #[.agg #[.int .u64 (U (partLo s k st sz)), .int .u64 (U (partHi s k st sz))], .int .i64 (fE s k st sz)]) ∧ Keep w w' := by
  have hB := ((Bx.new w #[.string s, .int .i8 k, .int .i16 st, .int .i16 sz] 39).alloc (Obj.cells #[.int .u64 0, .int .u64 0] 28))
  obtain ⟨b0, b1, b2, b3, _, _, _, _, bz⟩ := hB.four
  cases h1 : fieldB s k st sz <;> simp only [partLo, partHi, fE, h1, cond_true, cond_false]
  · go_enter Tryd.func27, Tryd.ntmps27
    (go_wp2_with fail); (go_at_call 52); (refine (spec_l01Field _ _ _ _ _ _ _ hw.1 hw.2.1 hw.2.2.1 hw.2.2.2 b0 b1 b2 b3).mono ?_); rintro e w1 ⟨rfl, hk1⟩
    rw [h1]
    obtain ⟨hk1c, hk1f⟩ := hk1.cells; have hk1z0 : w.heap.size < w1.heap.size := (by have := hk1.size; (try simp at this); omega); have hk1z1 : w.heap.size + 1 < w1.heap.size := (by have := hk1.size; (try simp at this); omega)
    go_wp2
    (apply bodyPost_ret; rotate_left; rfl; exact ⟨rfl, (by ((repeat (first | (with_reducible assumption) | ((with_reducible refine Keep.setCell ?_ ?_ _); rotate_left; focus (first | omega | (simp; done) | (simp; omega))) | (with_reducible refine Keep.alloc ?_ _) | (with_reducible refine Keep.drewN ?_ _) | (with_reducible refine Keep.drew ?_) | (with_reducible exact Keep.refl _) | refine Keep.trans ?_ (by with_reducible assumption) | exact Keep.refl _ | assumption))))⟩; simp [results, Tryd.results27, go_sem, U_zero, *])
  · obtain ⟨u1, u2, u3, u4, u5⟩ := fieldB_use h1
    go_enter Tryd.func27, Tryd.ntmps27
    (go_wp2_with fail); (go_at_call 52); (refine (spec_l01Field _ _ _ _ _ _ _ hw.1 hw.2.1 hw.2.2.1 hw.2.2.2 b0 b1 b2 b3).mono ?_); rintro e w1 ⟨rfl, hk1⟩
    rw [h1]
    obtain ⟨hk1c, hk1f⟩ := hk1.cells; have hk1z0 : w.heap.size < w1.heap.size := (by have := hk1.size; (try simp at this); omega); have hk1z1 : w.heap.size + 1 < w1.heap.size := (by have := hk1.size; (try simp at this); omega)
    (go_wp2_with fail); (go_at_call 58); (refine (spec_l01Part s k st sz _ _ _ hw.2.2.2 hw.2.2.1 u2 u4 u3 (hk1.cell b0) (hk1.cell b1) (hk1.cell b2) (hk1.cell b3)).mono ?_); rintro e w2 ⟨rfl, hk2⟩
    obtain ⟨hk2c, hk2f⟩ := hk2.cells; have hk2z0 : w.heap.size < w2.heap.size := (by have := hk2.size; (try simp at this); omega); have hk2z1 : w.heap.size + 1 < w2.heap.size := (by have := hk2.size; (try simp at this); omega)
    go_wp2
    (apply bodyPost_ret; rotate_left; rfl; exact ⟨rfl, (by ((repeat (first | (with_reducible assumption) | ((with_reducible refine Keep.setCell ?_ ?_ _); rotate_left; focus (first | omega | (simp; done) | (simp; omega))) | (with_reducible refine Keep.alloc ?_ _) | (with_reducible refine Keep.drewN ?_ _) | (with_reducible refine Keep.drew ?_) | (with_reducible exact Keep.refl _) | refine Keep.trans ?_ (by with_reducible assumption) | exact Keep.refl _ | assumption))))⟩; simp [results, Tryd.results27, go_sem, U_zero, *])
/-! ### Cards and fields at once -/
def cfB (s : ByteArray) (b : Wd) (t : ByteArray) (k st sz : Int) : Bool := cardB s b && fieldB t k st sz
def cfE (s : ByteArray) (b : Wd) (t : ByteArray) (k st sz : Int) : Int := cond (cfB s b t k st sz) 0 1
def nilS : ByteArray := ⟨#[]⟩
def clS (s : ByteArray) (b : Wd) (t : ByteArray) (k st sz : Int) : ByteArray := cond (cfB s b t k st sz) s (⟨#[]⟩ : ByteArray)
def clLo (s : ByteArray) (a b : Wd) (t : ByteArray) (k st sz : Int) : Wd := cond (cfB s b t k st sz) (a &&& ~~~paLo k st sz) 0#64
def clHi (s : ByteArray) (a b : Wd) (t : ByteArray) (k st sz : Int) : Wd := cond (cfB s b t k st sz) (b &&& ~~~paHi k st sz) 0#64
theorem impl_ClearField (s : ByteArray) (a b : Wd) (t : ByteArray) (k st sz : Int) (w : World) (hs : s.size ≤ 9223372036854775807) (hw : t.size ≤ 9223372036854775807 ∧ I8 k ∧ I16 st ∧ I16 sz) :
    Calls Tryd.prog 31 #[.agg #[.string s, .int .u64 (U a), .int .u64 (U b)], .agg #[.string t, .int .i8 k, .int .i16 st, .int .i16 sz]] w fun e w' => e = .returned (.tuple #[.agg #[.string (clS s b t k st sz), .int .u64 (U (clLo s a b t k st sz)), .int .u64 (U (clHi s a b t k st sz))], .int .i64 (cfE s b t k st sz)]) ∧ Keep w w' := by
  cases h1 : cardB s b
  · have hc : cfB s b t k st sz = false := by simp [cfB, h1]
    simp only [clS, clLo, clHi, cfE, hc, cond_true, cond_false]
    go_enter Tryd.func31, Tryd.ntmps31
    (go_wp2_with fail); (go_at_call 51); (refine (impl_isCard _ _ _ _ hs).mono ?_); rintro e w1 ⟨rfl, hk1⟩
    rw [h1]
    obtain ⟨hk1c, hk1f⟩ := hk1.cells; have hk1z0 : w.heap.size < w1.heap.size := (by have := hk1.size; (try simp at this); omega); have hk1z1 : w.heap.size + 1 < w1.heap.size := (by have := hk1.size; (try simp at this); omega); have hk1z2 : w.heap.size + 1 + 1 < w1.heap.size := (by have := hk1.size; (try simp at this); omega)
    go_wp2
    (apply bodyPost_ret; rotate_left; rfl; exact ⟨rfl, (by ((repeat (first | (with_reducible assumption) | ((with_reducible refine Keep.setCell ?_ ?_ _); rotate_left; focus (first | omega | (simp; done) | (simp; omega))) | (with_reducible refine Keep.alloc ?_ _) | (with_reducible refine Keep.drewN ?_ _) | (with_reducible refine Keep.drew ?_) | (with_reducible exact Keep.refl _) | refine Keep.trans ?_ (by with_reducible assumption) | exact Keep.refl _ | assumption))))⟩; simp [results, Tryd.results31, go_sem, U_zero, *])
  · cases h2 : fieldB t k st sz
    · have hc : cfB s b t k st sz = false := by simp [cfB, h1, h2]
      simp only [clS, clLo, clHi, cfE, hc, cond_true, cond_false]
      go_enter Tryd.func31, Tryd.ntmps31
      (go_wp2_with fail); (go_at_call 51); (refine (impl_isCard _ _ _ _ hs).mono ?_); rintro e w1 ⟨rfl, hk1⟩
      rw [h1]
      obtain ⟨hk1c, hk1f⟩ := hk1.cells; have hk1z0 : w.heap.size < w1.heap.size := (by have := hk1.size; (try simp at this); omega); have hk1z1 : w.heap.size + 1 < w1.heap.size := (by have := hk1.size; (try simp at this); omega); have hk1z2 : w.heap.size + 1 + 1 < w1.heap.size := (by have := hk1.size; (try simp at this); omega)
      (go_wp2_with fail); (go_at_call 53); (refine (impl_isField _ _ _ _ _ hw.1 hw.2.1 hw.2.2.1 hw.2.2.2).mono ?_); rintro e w2 ⟨rfl, hk2⟩
      rw [h2]
      obtain ⟨hk2c, hk2f⟩ := hk2.cells; have hk2z0 : w.heap.size < w2.heap.size := (by have := hk2.size; (try simp at this); omega); have hk2z1 : w.heap.size + 1 < w2.heap.size := (by have := hk2.size; (try simp at this); omega); have hk2z2 : w.heap.size + 1 + 1 < w2.heap.size := (by have := hk2.size; (try simp at this); omega)
      go_wp2
      (apply bodyPost_ret; rotate_left; rfl; exact ⟨rfl, (by ((repeat (first | (with_reducible assumption) | ((with_reducible refine Keep.setCell ?_ ?_ _); rotate_left; focus (first | omega | (simp; done) | (simp; omega))) | (with_reducible refine Keep.alloc ?_ _) | (with_reducible refine Keep.drewN ?_ _) | (with_reducible refine Keep.drew ?_) | (with_reducible exact Keep.refl _) | refine Keep.trans ?_ (by with_reducible assumption) | exact Keep.refl _ | assumption))))⟩; simp [results, Tryd.results31, go_sem, U_zero, *])
    · have hc : cfB s b t k st sz = true := by simp [cfB, h1, h2]
      simp only [clS, clLo, clHi, cfE, hc, cond_true, cond_false]
      obtain ⟨u1, u2, u3, u4, u5⟩ := fieldB_use h2
      go_enter Tryd.func31, Tryd.ntmps31
      (go_wp2_with fail); (go_at_call 51); (refine (impl_isCard _ _ _ _ hs).mono ?_); rintro e w1 ⟨rfl, hk1⟩
      rw [h1]
      obtain ⟨hk1c, hk1f⟩ := hk1.cells; have hk1z0 : w.heap.size < w1.heap.size := (by have := hk1.size; (try simp at this); omega); have hk1z1 : w.heap.size + 1 < w1.heap.size := (by have := hk1.size; (try simp at this); omega); have hk1z2 : w.heap.size + 1 + 1 < w1.heap.size := (by have := hk1.size; (try simp at this); omega)
      (go_wp2_with fail); (go_at_call 53); (refine (impl_isField _ _ _ _ _ hw.1 hw.2.1 hw.2.2.1 hw.2.2.2).mono ?_); rintro e w2 ⟨rfl, hk2⟩
      rw [h2]
      have hA : Bx w2 w.heap.size #[.string s, .int .u64 (U a), .int .u64 (U b)] 30 := ((((Bx.new _ _ _).alloc _).alloc _).keep hk1).keep hk2
      have hF : Bx w2 (w.heap.size + 1) #[.string t, .int .i8 k, .int .i16 st, .int .i16 sz] 39 := (((Bx.new1 _ _ _ _).alloc _).keep hk1).keep hk2
      have hR : Bx w2 (w.heap.size + 1 + 1) #[.string ByteArray.empty, .int .u64 0, .int .u64 0] 30 := ((Bx.new2 _ _ _ _ _).keep hk1).keep hk2
      have hW : Keep w w2 := (by ((repeat (first | (with_reducible assumption) | ((with_reducible refine Keep.setCell ?_ ?_ _); rotate_left; focus (first | omega | (simp; done) | (simp; omega))) | (with_reducible refine Keep.alloc ?_ _) | (with_reducible refine Keep.drewN ?_ _) | (with_reducible refine Keep.drew ?_) | (with_reducible exact Keep.refl _) | refine Keep.trans ?_ (by with_reducible assumption) | exact Keep.refl _ | assumption))))
      clear hk1 hk2 hk1c hk1f hk1z0 hk1z1 hk1z2
      go_wp2_with fail
      apply wp_region_mono 5 [Fx _, Fx _, Fx _, Fx _, Fx _] (by kernel_rfl) (by kernel_rfl) (mono_of ⟨Fx.mono _, Fx.mono _, Fx.mono _, Fx.mono _, Fx.mono _, trivial⟩) ?st3 ?tl3
      case st3 =>
        simp only [List.take_succ_cons, List.take_zero, List.drop_succ_cons, List.drop_zero, putAll, Act.put, List.setIfInBounds_toArray, List.set_cons_succ, List.set_cons_zero, Nat.zero_add, Nat.reduceAdd]
        refine steps_cons ?_ (steps_cons ?_ (steps_cons ?_ (steps_cons ?_ (steps_cons ?_ steps_nil))))
        all_goals
          intro v w2 hk hd
          obtain ⟨hA_0, hA_1, hA_2, hA_3, hA_4, hA_5, hA_6⟩ := (hA.keep hk).three
          obtain ⟨hF_0, hF_1, hF_2, hF_3, hF_4, hF_5, hF_6, hF_7, hF_8⟩ := (hF.keep hk).four
          obtain ⟨hR_0, hR_1, hR_2, hR_3, hR_4, hR_5, hR_6⟩ := (hR.keep hk).three
          have hkz := hk.size
          simp [DepsOf, factAt, Fx, Region.binds] at hd
          simp only [factAt, List.getD_cons_zero, List.getD_cons_succ]
          refine Gives.mk ?_
          go_simp
          first | exact ⟨Keep.refl _, Fx.self _ _⟩ | exact ⟨(Keep.refl _).alloc _, _, rfl, Bx.new _ _ _, by first | omega | (simp; omega)⟩ | (go_at_call 59; exact gives_fx (impl_part _ _ _ _ _ hw.2.2.2 hw.2.2.1 u2 u4 u3)) | (go_at_call 61; exact gives_fx (impl_LessMask _ _ _ _ _))
      simp only [List.take_succ_cons, List.take_zero, List.drop_succ_cons, List.drop_zero, putAll, Act.put, List.setIfInBounds_toArray, List.set_cons_succ, List.set_cons_zero, Nat.zero_add, Nat.reduceAdd]
      intro v w2 hk hh
      obtain ⟨hA_0, hA_1, hA_2, hA_3, hA_4, hA_5, hA_6⟩ := (hA.keep hk).three
      obtain ⟨hF_0, hF_1, hF_2, hF_3, hF_4, hF_5, hF_6, hF_7, hF_8⟩ := (hF.keep hk).four
      obtain ⟨hR_0, hR_1, hR_2, hR_3, hR_4, hR_5, hR_6⟩ := (hR.keep hk).three
      have hkz := hk.size
      simp only [Held, factAt, List.getD_cons_zero, List.getD_cons_succ, Fx, true_and] at hh
      obtain ⟨⟨⟨⟨v_0, v_1⟩, v_2⟩, v_3⟩, v_4⟩ := hh
      simp only [v_0, v_1, v_2, v_3, v_4]
      go_wp2
      (apply bodyPost_ret; rotate_left; rfl; exact ⟨rfl, (by ((repeat (first | (with_reducible assumption) | ((with_reducible refine Keep.setCell ?_ ?_ _); rotate_left; focus (first | omega | (simp; done) | (simp; omega))) | (with_reducible refine Keep.alloc ?_ _) | (with_reducible refine Keep.drewN ?_ _) | (with_reducible refine Keep.drew ?_) | (with_reducible exact Keep.refl _) | refine Keep.trans ?_ (by with_reducible assumption) | exact Keep.refl _ | assumption))))⟩; simp [results, Tryd.results31, go_sem, U_zero, *])
theorem spec_ClearField (s : ByteArray) (a b : Wd) (t : ByteArray) (k st sz : Int) (w : World) (hs : s.size ≤ 9223372036854775807) (hw : t.size ≤ 9223372036854775807 ∧ I8 k ∧ I16 st ∧ I16 sz) :
    Calls Tryd.prog 30 #[.agg #[.string s, .int .u64 (U a), .int .u64 (U b)], .agg #[.string t, .int .i8 k, .int .i16 st, .int .i16 sz]] w fun e w' => e = .returned (.tuple #[.agg #[.string (clS s b t k st sz), .int .u64 (U (clLo s a b t k st sz)), .int .u64 (U (clHi s a b t k st sz))], .int .i64 (cfE s b t k st sz)]) ∧ Keep w w' := by
  have hA0 : Bx _ w.heap.size #[.string s, .int .u64 (U a), .int .u64 (U b)] 30 := ((Bx.new w #[.string s, .int .u64 (U a), .int .u64 (U b)] 30).alloc (Obj.cells #[.string t, .int .i8 k, .int .i16 st, .int .i16 sz] 39)).alloc (Obj.cells #[.string ByteArray.empty, .int .u64 0, .int .u64 0] 30)
  have hF0 := (Bx.new1 w (Obj.cells #[.string s, .int .u64 (U a), .int .u64 (U b)] 30) #[.string t, .int .i8 k, .int .i16 st, .int .i16 sz] 39).alloc (Obj.cells #[.string ByteArray.empty, .int .u64 0, .int .u64 0] 30)
  obtain ⟨a0, a1, a2, _, _, _, az⟩ := hA0.three
  obtain ⟨b0, b1, b2, b3, _, _, _, _, bz⟩ := hF0.four
  cases h1 : cardB s b
  · have hc : cfB s b t k st sz = false := by simp [cfB, h1]
    simp only [clS, clLo, clHi, cfE, hc, cond_true, cond_false]
    go_enter Tryd.func30, Tryd.ntmps30
    (go_wp2_with fail); (go_at_call 50); (refine (spec_l01Ok s a b _ _ _ hs a0 a1 a2).mono ?_); rintro e w1 ⟨rfl, hk1⟩
    rw [h1]
    obtain ⟨hk1c, hk1f⟩ := hk1.cells; have hk1z0 : w.heap.size < w1.heap.size := (by have := hk1.size; (try simp at this); omega); have hk1z1 : w.heap.size + 1 < w1.heap.size := (by have := hk1.size; (try simp at this); omega); have hk1z2 : w.heap.size + 1 + 1 < w1.heap.size := (by have := hk1.size; (try simp at this); omega)
    go_wp2
    (apply bodyPost_ret; rotate_left; rfl; exact ⟨rfl, (by ((repeat (first | (with_reducible assumption) | ((with_reducible refine Keep.setCell ?_ ?_ _); rotate_left; focus (first | omega | (simp; done) | (simp; omega))) | (with_reducible refine Keep.alloc ?_ _) | (with_reducible refine Keep.drewN ?_ _) | (with_reducible refine Keep.drew ?_) | (with_reducible exact Keep.refl _) | refine Keep.trans ?_ (by with_reducible assumption) | exact Keep.refl _ | assumption))))⟩; simp [results, Tryd.results30, go_sem, U_zero, *])
  · cases h2 : fieldB t k st sz
    · have hc : cfB s b t k st sz = false := by simp [cfB, h1, h2]
      simp only [clS, clLo, clHi, cfE, hc, cond_true, cond_false]
      go_enter Tryd.func30, Tryd.ntmps30
      (go_wp2_with fail); (go_at_call 50); (refine (spec_l01Ok s a b _ _ _ hs a0 a1 a2).mono ?_); rintro e w1 ⟨rfl, hk1⟩
      rw [h1]
      obtain ⟨hk1c, hk1f⟩ := hk1.cells; have hk1z0 : w.heap.size < w1.heap.size := (by have := hk1.size; (try simp at this); omega); have hk1z1 : w.heap.size + 1 < w1.heap.size := (by have := hk1.size; (try simp at this); omega); have hk1z2 : w.heap.size + 1 + 1 < w1.heap.size := (by have := hk1.size; (try simp at this); omega)
      (go_wp2_with fail); (go_at_call 52); (refine (spec_l01Field t k st sz _ _ _ hw.1 hw.2.1 hw.2.2.1 hw.2.2.2 (hk1.cell b0) (hk1.cell b1) (hk1.cell b2) (hk1.cell b3)).mono ?_); rintro e w2 ⟨rfl, hk2⟩
      rw [h2]
      obtain ⟨hk2c, hk2f⟩ := hk2.cells; have hk2z0 : w.heap.size < w2.heap.size := (by have := hk2.size; (try simp at this); omega); have hk2z1 : w.heap.size + 1 < w2.heap.size := (by have := hk2.size; (try simp at this); omega); have hk2z2 : w.heap.size + 1 + 1 < w2.heap.size := (by have := hk2.size; (try simp at this); omega)
      go_wp2
      (apply bodyPost_ret; rotate_left; rfl; exact ⟨rfl, (by ((repeat (first | (with_reducible assumption) | ((with_reducible refine Keep.setCell ?_ ?_ _); rotate_left; focus (first | omega | (simp; done) | (simp; omega))) | (with_reducible refine Keep.alloc ?_ _) | (with_reducible refine Keep.drewN ?_ _) | (with_reducible refine Keep.drew ?_) | (with_reducible exact Keep.refl _) | refine Keep.trans ?_ (by with_reducible assumption) | exact Keep.refl _ | assumption))))⟩; simp [results, Tryd.results30, go_sem, U_zero, *])
    · have hc : cfB s b t k st sz = true := by simp [cfB, h1, h2]
      simp only [clS, clLo, clHi, cfE, hc, cond_true, cond_false]
      obtain ⟨u1, u2, u3, u4, u5⟩ := fieldB_use h2
      go_enter Tryd.func30, Tryd.ntmps30
      (go_wp2_with fail); (go_at_call 50); (refine (spec_l01Ok s a b _ _ _ hs a0 a1 a2).mono ?_); rintro e w1 ⟨rfl, hk1⟩
      rw [h1]
      obtain ⟨hk1c, hk1f⟩ := hk1.cells; have hk1z0 : w.heap.size < w1.heap.size := (by have := hk1.size; (try simp at this); omega); have hk1z1 : w.heap.size + 1 < w1.heap.size := (by have := hk1.size; (try simp at this); omega); have hk1z2 : w.heap.size + 1 + 1 < w1.heap.size := (by have := hk1.size; (try simp at this); omega)
      (go_wp2_with fail); (go_at_call 52); (refine (spec_l01Field t k st sz _ _ _ hw.1 hw.2.1 hw.2.2.1 hw.2.2.2 (hk1.cell b0) (hk1.cell b1) (hk1.cell b2) (hk1.cell b3)).mono ?_); rintro e w2 ⟨rfl, hk2⟩
      rw [h2]
      have hA := (hA0.keep hk1).keep hk2
      have hF := (hF0.keep hk1).keep hk2
      have hR : Bx w2 (w.heap.size + 1 + 1) #[.string ByteArray.empty, .int .u64 0, .int .u64 0] 30 := ((Bx.new2 _ _ _ _ _).keep hk1).keep hk2
      have hW : Keep w w2 := (by ((repeat (first | (with_reducible assumption) | ((with_reducible refine Keep.setCell ?_ ?_ _); rotate_left; focus (first | omega | (simp; done) | (simp; omega))) | (with_reducible refine Keep.alloc ?_ _) | (with_reducible refine Keep.drewN ?_ _) | (with_reducible refine Keep.drew ?_) | (with_reducible exact Keep.refl _) | refine Keep.trans ?_ (by with_reducible assumption) | exact Keep.refl _ | assumption))))
      clear hk1 hk2 hk1c hk1f hk1z0 hk1z1 hk1z2 hA0 hF0 a0 a1 a2 az b0 b1 b2 b3 bz
      go_wp2_with fail
      apply wp_region_mono 4 [Fx _, Fx _, Fx _, Fx _] (by kernel_rfl) (by kernel_rfl) (mono_of ⟨Fx.mono _, Fx.mono _, Fx.mono _, Fx.mono _, trivial⟩) ?st4 ?tl4
      case st4 =>
        simp only [List.take_succ_cons, List.take_zero, List.drop_succ_cons, List.drop_zero, putAll, Act.put, List.setIfInBounds_toArray, List.set_cons_succ, List.set_cons_zero, Nat.zero_add, Nat.reduceAdd]
        refine steps_cons ?_ (steps_cons ?_ (steps_cons ?_ (steps_cons ?_ steps_nil)))
        all_goals
          intro v w2 hk hd
          obtain ⟨hA_0, hA_1, hA_2, hA_3, hA_4, hA_5, hA_6⟩ := (hA.keep hk).three
          obtain ⟨hF_0, hF_1, hF_2, hF_3, hF_4, hF_5, hF_6, hF_7, hF_8⟩ := (hF.keep hk).four
          obtain ⟨hR_0, hR_1, hR_2, hR_3, hR_4, hR_5, hR_6⟩ := (hR.keep hk).three
          have hkz := hk.size
          simp [DepsOf, factAt, Fx, Region.binds] at hd
          simp only [factAt, List.getD_cons_zero, List.getD_cons_succ]
          refine Gives.mk ?_
          go_simp
          first | exact ⟨Keep.refl _, Fx.self _ _⟩ | exact ⟨(Keep.refl _).alloc _, _, rfl, Bx.new _ _ _, by first | omega | (simp; omega)⟩ | (go_at_call 58; exact gives_fx (spec_l01Part t k st sz _ _ _ hw.2.2.2 hw.2.2.1 u2 u4 u3 hF_0 hF_1 hF_2 hF_3)) | (go_at_call 60; exact gives_fx (spec_l01Less _ _ _ _ _))
      simp only [List.take_succ_cons, List.take_zero, List.drop_succ_cons, List.drop_zero, putAll, Act.put, List.setIfInBounds_toArray, List.set_cons_succ, List.set_cons_zero, Nat.zero_add, Nat.reduceAdd]
      intro v w2 hk hh
      obtain ⟨hA_0, hA_1, hA_2, hA_3, hA_4, hA_5, hA_6⟩ := (hA.keep hk).three
      obtain ⟨hF_0, hF_1, hF_2, hF_3, hF_4, hF_5, hF_6, hF_7, hF_8⟩ := (hF.keep hk).four
      obtain ⟨hR_0, hR_1, hR_2, hR_3, hR_4, hR_5, hR_6⟩ := (hR.keep hk).three
      have hkz := hk.size
      simp only [Held, factAt, List.getD_cons_zero, List.getD_cons_succ, Fx, true_and] at hh
      obtain ⟨⟨⟨v_0, v_1⟩, v_2⟩, v_3⟩ := hh
      simp only [v_0, v_1, v_2, v_3]
      go_wp2
      (apply bodyPost_ret; rotate_left; rfl; exact ⟨rfl, (by ((repeat (first | (with_reducible assumption) | ((with_reducible refine Keep.setCell ?_ ?_ _); rotate_left; focus (first | omega | (simp; done) | (simp; omega))) | (with_reducible refine Keep.alloc ?_ _) | (with_reducible refine Keep.drewN ?_ _) | (with_reducible refine Keep.drew ?_) | (with_reducible exact Keep.refl _) | refine Keep.trans ?_ (by with_reducible assumption) | exact Keep.refl _ | assumption))))⟩; simp [results, Tryd.results30, go_sem, U_zero, *])
end Go.Proofs.YtbgegnbcjklmjaaDoor

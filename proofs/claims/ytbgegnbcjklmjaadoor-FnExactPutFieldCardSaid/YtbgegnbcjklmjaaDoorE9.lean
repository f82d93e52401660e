/- A value put into a card. -/
import Derived.Test.YtbgegnbcjklmjaaDoorE8
set_option linter.unusedVariables false
set_option linter.unusedSimpArgs false
namespace Go.Proofs.YtbgegnbcjklmjaaDoor
open Go.RowKit
set_option maxHeartbeats 4000000
set_option maxRecDepth 20000
theorem impl_PutField (s : ByteArray) (a b : Wd) (t : ByteArray) (k st sz v : Int) (w : World) (hs : s.size ≤ 9223372036854775807) (hw : FieldW t k st sz) :
    Calls Tryd.prog 49 #[.agg #[.string s, .int .u64 (U a), .int .u64 (U b)], .agg #[.string t, .int .i8 k, .int .i16 st, .int .i16 sz], .int .i64 v] w fun e w' => e = .returned (.tuple #[.agg #[.string (puS s b t k st sz v), .int .u64 (U (puLo s a b t k st sz v)), .int .u64 (U (puHi s a b t k st sz v))], .int .i64 (puE s b t k st sz v)]) ∧ Keep w w' := by
  cases h1 : cardB s b
  · have hc : cfB s b t k st sz = false := by simp [cfB, h1]
    simp only [puS, puLo, puHi, puE, puB, hc, Bool.false_and, cond_true, cond_false]
    go_enter Tryd.func49, Tryd.ntmps49
    (go_wp2_with fail); (go_at_call 51); (refine (impl_isCard _ _ _ _ hs).mono ?_); rintro e w1 ⟨rfl, hk1⟩
    rw [h1]
    obtain ⟨hk1c, hk1f⟩ := hk1.cells; have hk1z0 : w.heap.size < w1.heap.size := (by have := hk1.size; (try simp at this); omega); have hk1z1 : w.heap.size + 1 < w1.heap.size := (by have := hk1.size; (try simp at this); omega); have hk1z2 : w.heap.size + 1 + 1 < w1.heap.size := (by have := hk1.size; (try simp at this); omega)
    go_wp2
    (apply bodyPost_ret; rotate_left; rfl; exact ⟨rfl, (by ((repeat (first | (with_reducible assumption) | ((with_reducible refine Keep.setCell ?_ ?_ _); rotate_left; focus (first | omega | (simp; done) | (simp; omega))) | (with_reducible refine Keep.alloc ?_ _) | (with_reducible refine Keep.drewN ?_ _) | (with_reducible refine Keep.drew ?_) | (with_reducible exact Keep.refl _) | refine Keep.trans ?_ (by with_reducible assumption) | exact Keep.refl _ | assumption))))⟩; simp [results, Tryd.results49, go_sem, U_zero, *])
  · cases h2 : fieldB t k st sz
    · have hc : cfB s b t k st sz = false := by simp [cfB, h1, h2]
      simp only [puS, puLo, puHi, puE, puB, hc, Bool.false_and, cond_true, cond_false]
      go_enter Tryd.func49, Tryd.ntmps49
      (go_wp2_with fail); (go_at_call 51); (refine (impl_isCard _ _ _ _ hs).mono ?_); rintro e w1 ⟨rfl, hk1⟩
      rw [h1]
      obtain ⟨hk1c, hk1f⟩ := hk1.cells; have hk1z0 : w.heap.size < w1.heap.size := (by have := hk1.size; (try simp at this); omega); have hk1z1 : w.heap.size + 1 < w1.heap.size := (by have := hk1.size; (try simp at this); omega); have hk1z2 : w.heap.size + 1 + 1 < w1.heap.size := (by have := hk1.size; (try simp at this); omega)
      (go_wp2_with fail); (go_at_call 53); (refine (impl_isField _ _ _ _ _ hw.1 hw.2.1 hw.2.2.1 hw.2.2.2).mono ?_); rintro e w2 ⟨rfl, hk2⟩
      rw [h2]
      obtain ⟨hk2c, hk2f⟩ := hk2.cells; have hk2z0 : w.heap.size < w2.heap.size := (by have := hk2.size; (try simp at this); omega); have hk2z1 : w.heap.size + 1 < w2.heap.size := (by have := hk2.size; (try simp at this); omega); have hk2z2 : w.heap.size + 1 + 1 < w2.heap.size := (by have := hk2.size; (try simp at this); omega)
      go_wp2
      (apply bodyPost_ret; rotate_left; rfl; exact ⟨rfl, (by ((repeat (first | (with_reducible assumption) | ((with_reducible refine Keep.setCell ?_ ?_ _); rotate_left; focus (first | omega | (simp; done) | (simp; omega))) | (with_reducible refine Keep.alloc ?_ _) | (with_reducible refine Keep.drewN ?_ _) | (with_reducible refine Keep.drew ?_) | (with_reducible exact Keep.refl _) | refine Keep.trans ?_ (by with_reducible assumption) | exact Keep.refl _ | assumption))))⟩; simp [results, Tryd.results49, go_sem, U_zero, *])
    · have hc : cfB s b t k st sz = true := by simp [cfB, h1, h2]
      obtain ⟨u1, u2, u3, u4, u5⟩ := fieldB_use h2
      have hz := okSz_of h2
      by_cases hv0 : v < 0
      · have hv : inB v 0 (mostN k sz) = false := inB_not.2 (by omega)
        simp only [puS, puLo, puHi, puE, puB, hc, hv, Bool.and_false, cond_true, cond_false]
        go_enter Tryd.func49, Tryd.ntmps49
        (go_wp2_with fail); (go_at_call 51); (refine (impl_isCard _ _ _ _ hs).mono ?_); rintro e w1 ⟨rfl, hk1⟩
        rw [h1]
        obtain ⟨hk1c, hk1f⟩ := hk1.cells; have hk1z0 : w.heap.size < w1.heap.size := (by have := hk1.size; (try simp at this); omega); have hk1z1 : w.heap.size + 1 < w1.heap.size := (by have := hk1.size; (try simp at this); omega); have hk1z2 : w.heap.size + 1 + 1 < w1.heap.size := (by have := hk1.size; (try simp at this); omega)
        (go_wp2_with fail); (go_at_call 53); (refine (impl_isField _ _ _ _ _ hw.1 hw.2.1 hw.2.2.1 hw.2.2.2).mono ?_); rintro e w2 ⟨rfl, hk2⟩
        rw [h2]
        obtain ⟨hk2c, hk2f⟩ := hk2.cells; have hk2z0 : w.heap.size < w2.heap.size := (by have := hk2.size; (try simp at this); omega); have hk2z1 : w.heap.size + 1 < w2.heap.size := (by have := hk2.size; (try simp at this); omega); have hk2z2 : w.heap.size + 1 + 1 < w2.heap.size := (by have := hk2.size; (try simp at this); omega)
        go_wp2
        (apply bodyPost_ret; rotate_left; rfl; exact ⟨rfl, (by ((repeat (first | (with_reducible assumption) | ((with_reducible refine Keep.setCell ?_ ?_ _); rotate_left; focus (first | omega | (simp; done) | (simp; omega))) | (with_reducible refine Keep.alloc ?_ _) | (with_reducible refine Keep.drewN ?_ _) | (with_reducible refine Keep.drew ?_) | (with_reducible exact Keep.refl _) | refine Keep.trans ?_ (by with_reducible assumption) | exact Keep.refl _ | assumption))))⟩; simp [results, Tryd.results49, go_sem, U_zero, *])
      · by_cases hv1 : v ≤ mostN k sz
        · have hv : inB v 0 (mostN k sz) = true := inB_iff.2 (by omega)
          simp only [puS, puLo, puHi, puE, puB, hc, hv, Bool.and_true, cond_true, cond_false]
          go_enter Tryd.func49, Tryd.ntmps49
          (go_wp2_with fail); (go_at_call 51); (refine (impl_isCard _ _ _ _ hs).mono ?_); rintro e w1 ⟨rfl, hk1⟩
          rw [h1]
          obtain ⟨hk1c, hk1f⟩ := hk1.cells; have hk1z0 : w.heap.size < w1.heap.size := (by have := hk1.size; (try simp at this); omega); have hk1z1 : w.heap.size + 1 < w1.heap.size := (by have := hk1.size; (try simp at this); omega); have hk1z2 : w.heap.size + 1 + 1 < w1.heap.size := (by have := hk1.size; (try simp at this); omega)
          (go_wp2_with fail); (go_at_call 53); (refine (impl_isField _ _ _ _ _ hw.1 hw.2.1 hw.2.2.1 hw.2.2.2).mono ?_); rintro e w2 ⟨rfl, hk2⟩
          rw [h2]
          obtain ⟨hk2c, hk2f⟩ := hk2.cells; have hk2z0 : w.heap.size < w2.heap.size := (by have := hk2.size; (try simp at this); omega); have hk2z1 : w.heap.size + 1 < w2.heap.size := (by have := hk2.size; (try simp at this); omega); have hk2z2 : w.heap.size + 1 + 1 < w2.heap.size := (by have := hk2.size; (try simp at this); omega)
          (go_wp2_with fail); (go_at_call 57); (refine (impl_most _ _ _ _ _ hz).mono ?_); rintro e w3 ⟨rfl, hk3⟩
          have hA : Bx w3 w.heap.size #[.string s, .int .u64 (U a), .int .u64 (U b)] 30 := (((((Bx.new _ _ _).alloc _).alloc _).keep hk1).keep hk2).keep hk3
          have hF : Bx w3 (w.heap.size + 1) #[.string t, .int .i8 k, .int .i16 st, .int .i16 sz] 39 := ((((Bx.new1 _ _ _ _).alloc _).keep hk1).keep hk2).keep hk3
          have hR : Bx w3 (w.heap.size + 1 + 1) #[.string ByteArray.empty, .int .u64 0, .int .u64 0] 30 := (((Bx.new2 _ _ _ _ _).keep hk1).keep hk2).keep hk3
          have hW : Keep w w3 := (by ((repeat (first | (with_reducible assumption) | ((with_reducible refine Keep.setCell ?_ ?_ _); rotate_left; focus (first | omega | (simp; done) | (simp; omega))) | (with_reducible refine Keep.alloc ?_ _) | (with_reducible refine Keep.drewN ?_ _) | (with_reducible refine Keep.drew ?_) | (with_reducible exact Keep.refl _) | refine Keep.trans ?_ (by with_reducible assumption) | exact Keep.refl _ | assumption))))
          clear hk1 hk2 hk3 hk1c hk1f hk1z0 hk1z1 hk1z2 hk2c hk2f hk2z0 hk2z1 hk2z2
          go_wp2_with fail
          apply wp_region_mono 9 [Fx _, Fx _, Fx _, Fx _, Fx _, Fx _, Fx _, Fx _, Fx _] (by kernel_rfl) (by kernel_rfl) (mono_of ⟨Fx.mono _, Fx.mono _, Fx.mono _, Fx.mono _, Fx.mono _, Fx.mono _, Fx.mono _, Fx.mono _, Fx.mono _, trivial⟩) ?st17 ?tl17
          case st17 =>
            simp only [List.take_succ_cons, List.take_zero, List.drop_succ_cons, List.drop_zero, putAll, Act.put, List.setIfInBounds_toArray, List.set_cons_succ, List.set_cons_zero, Nat.zero_add, Nat.reduceAdd]
            refine steps_cons ?_ (steps_cons ?_ (steps_cons ?_ (steps_cons ?_ (steps_cons ?_ (steps_cons ?_ (steps_cons ?_ (steps_cons ?_ (steps_cons ?_ steps_nil))))))))
            all_goals
              intro v w2 hk hd
              obtain ⟨hA_0, hA_1, hA_2, hA_3, hA_4, hA_5, hA_6⟩ := (hA.keep hk).three
              obtain ⟨hF_0, hF_1, hF_2, hF_3, hF_4, hF_5, hF_6, hF_7, hF_8⟩ := (hF.keep hk).four
              obtain ⟨hR_0, hR_1, hR_2, hR_3, hR_4, hR_5, hR_6⟩ := (hR.keep hk).three
              have hkz := hk.size
              simp [DepsOf, factAt, Fx, Region.binds] at hd
              simp only [factAt, List.getD_cons_zero, List.getD_cons_succ]
              refine Gives.mk ?_
              go_simp
              first | exact ⟨Keep.refl _, Fx.self _ _⟩ | exact ⟨(Keep.refl _).alloc _, _, rfl, Bx.new _ _ _, by first | omega | (simp; omega)⟩ | (go_at_call 59; exact gives_fx (impl_part _ _ _ _ _ hw.2.2.2 hw.2.2.1 u2 u4 u3)) | (go_at_call 61; exact gives_fx (impl_LessMask _ _ _ _ _)) | (go_at_call 70; exact gives_fx (impl_encode _ _ _ _ _ _ hz u2 u3 (by omega) hv1)) | (go_at_call 74; exact gives_fx (impl_JoinMasks _ _ _ _ _))
          simp only [List.take_succ_cons, List.take_zero, List.drop_succ_cons, List.drop_zero, putAll, Act.put, List.setIfInBounds_toArray, List.set_cons_succ, List.set_cons_zero, Nat.zero_add, Nat.reduceAdd]
          intro v w2 hk hh
          obtain ⟨hA_0, hA_1, hA_2, hA_3, hA_4, hA_5, hA_6⟩ := (hA.keep hk).three
          obtain ⟨hF_0, hF_1, hF_2, hF_3, hF_4, hF_5, hF_6, hF_7, hF_8⟩ := (hF.keep hk).four
          obtain ⟨hR_0, hR_1, hR_2, hR_3, hR_4, hR_5, hR_6⟩ := (hR.keep hk).three
          have hkz := hk.size
          simp only [Held, factAt, List.getD_cons_zero, List.getD_cons_succ, Fx, true_and] at hh
          obtain ⟨⟨⟨⟨⟨⟨⟨⟨v_0, v_1⟩, v_2⟩, v_3⟩, v_4⟩, v_5⟩, v_6⟩, v_7⟩, v_8⟩ := hh
          simp only [v_0, v_1, v_2, v_3, v_4, v_5, v_6, v_7, v_8]
          go_wp2
          (apply bodyPost_ret; rotate_left; rfl; exact ⟨rfl, (by ((repeat (first | (with_reducible assumption) | ((with_reducible refine Keep.setCell ?_ ?_ _); rotate_left; focus (first | omega | (simp; done) | (simp; omega))) | (with_reducible refine Keep.alloc ?_ _) | (with_reducible refine Keep.drewN ?_ _) | (with_reducible refine Keep.drew ?_) | (with_reducible exact Keep.refl _) | refine Keep.trans ?_ (by with_reducible assumption) | exact Keep.refl _ | assumption))))⟩; simp [results, Tryd.results49, go_sem, U_zero, *])
        · have hv : inB v 0 (mostN k sz) = false := inB_not.2 (by omega)
          simp only [puS, puLo, puHi, puE, puB, hc, hv, Bool.and_false, cond_true, cond_false]
          go_enter Tryd.func49, Tryd.ntmps49
          (go_wp2_with fail); (go_at_call 51); (refine (impl_isCard _ _ _ _ hs).mono ?_); rintro e w1 ⟨rfl, hk1⟩
          rw [h1]
          obtain ⟨hk1c, hk1f⟩ := hk1.cells; have hk1z0 : w.heap.size < w1.heap.size := (by have := hk1.size; (try simp at this); omega); have hk1z1 : w.heap.size + 1 < w1.heap.size := (by have := hk1.size; (try simp at this); omega); have hk1z2 : w.heap.size + 1 + 1 < w1.heap.size := (by have := hk1.size; (try simp at this); omega)
          (go_wp2_with fail); (go_at_call 53); (refine (impl_isField _ _ _ _ _ hw.1 hw.2.1 hw.2.2.1 hw.2.2.2).mono ?_); rintro e w2 ⟨rfl, hk2⟩
          rw [h2]
          obtain ⟨hk2c, hk2f⟩ := hk2.cells; have hk2z0 : w.heap.size < w2.heap.size := (by have := hk2.size; (try simp at this); omega); have hk2z1 : w.heap.size + 1 < w2.heap.size := (by have := hk2.size; (try simp at this); omega); have hk2z2 : w.heap.size + 1 + 1 < w2.heap.size := (by have := hk2.size; (try simp at this); omega)
          (go_wp2_with fail); (go_at_call 57); (refine (impl_most _ _ _ _ _ hz).mono ?_); rintro e w3 ⟨rfl, hk3⟩
          obtain ⟨hk3c, hk3f⟩ := hk3.cells; have hk3z0 : w.heap.size < w3.heap.size := (by have := hk3.size; (try simp at this); omega); have hk3z1 : w.heap.size + 1 < w3.heap.size := (by have := hk3.size; (try simp at this); omega); have hk3z2 : w.heap.size + 1 + 1 < w3.heap.size := (by have := hk3.size; (try simp at this); omega)
          go_wp2
          (apply bodyPost_ret; rotate_left; rfl; exact ⟨rfl, (by ((repeat (first | (with_reducible assumption) | ((with_reducible refine Keep.setCell ?_ ?_ _); rotate_left; focus (first | omega | (simp; done) | (simp; omega))) | (with_reducible refine Keep.alloc ?_ _) | (with_reducible refine Keep.drewN ?_ _) | (with_reducible refine Keep.drew ?_) | (with_reducible exact Keep.refl _) | refine Keep.trans ?_ (by with_reducible assumption) | exact Keep.refl _ | assumption))))⟩; simp [results, Tryd.results49, go_sem, U_zero, *])
theorem spec_PutField (s : ByteArray) (a b : Wd) (t : ByteArray) (k st sz v : Int) (w : World) (hs : s.size ≤ 9223372036854775807) (hw : FieldW t k st sz) :
    Calls Tryd.prog 48 #[.agg #[.string s, .int .u64 (U a), .int .u64 (U b)], .agg #[.string t, .int .i8 k, .int .i16 st, .int .i16 sz], .int .i64 v] w fun e w' => e = .returned (.tuple #[.agg #[.string (puS s b t k st sz v), .int .u64 (U (puLo s a b t k st sz v)), .int .u64 (U (puHi s a b t k st sz v))], .int .i64 (puE s b t k st sz v)]) ∧ Keep w w' := by
  have hA0 : Bx _ w.heap.size #[.string s, .int .u64 (U a), .int .u64 (U b)] 30 := ((Bx.new w #[.string s, .int .u64 (U a), .int .u64 (U b)] 30).alloc (Obj.cells #[.string t, .int .i8 k, .int .i16 st, .int .i16 sz] 39)).alloc (Obj.cells #[.string ByteArray.empty, .int .u64 0, .int .u64 0] 30)
  have hF0 := (Bx.new1 w (Obj.cells #[.string s, .int .u64 (U a), .int .u64 (U b)] 30) #[.string t, .int .i8 k, .int .i16 st, .int .i16 sz] 39).alloc (Obj.cells #[.string ByteArray.empty, .int .u64 0, .int .u64 0] 30)
  obtain ⟨a0, a1, a2, _, _, _, az⟩ := hA0.three
  obtain ⟨b0, b1, b2, b3, _, _, _, _, bz⟩ := hF0.four
  cases h1 : cardB s b
  · have hc : cfB s b t k st sz = false := by simp [cfB, h1]
    simp only [puS, puLo, puHi, puE, puB, hc, Bool.false_and, cond_true, cond_false]
    go_enter Tryd.func48, Tryd.ntmps48
    (go_wp2_with fail); (go_at_call 50); (refine (spec_l01Ok s a b _ _ _ hs a0 a1 a2).mono ?_); rintro e w1 ⟨rfl, hk1⟩
    rw [h1]
    obtain ⟨hk1c, hk1f⟩ := hk1.cells; have hk1z0 : w.heap.size < w1.heap.size := (by have := hk1.size; (try simp at this); omega); have hk1z1 : w.heap.size + 1 < w1.heap.size := (by have := hk1.size; (try simp at this); omega); have hk1z2 : w.heap.size + 1 + 1 < w1.heap.size := (by have := hk1.size; (try simp at this); omega)
    go_wp2
    (apply bodyPost_ret; rotate_left; rfl; exact ⟨rfl, (by ((repeat (first | (with_reducible assumption) | ((with_reducible refine Keep.setCell ?_ ?_ _); rotate_left; focus (first | omega | (simp; done) | (simp; omega))) | (with_reducible refine Keep.alloc ?_ _) | (with_reducible refine Keep.drewN ?_ _) | (with_reducible refine Keep.drew ?_) | (with_reducible exact Keep.refl _) | refine Keep.trans ?_ (by with_reducible assumption) | exact Keep.refl _ | assumption))))⟩; simp [results, Tryd.results48, go_sem, U_zero, *])
  · cases h2 : fieldB t k st sz
    · have hc : cfB s b t k st sz = false := by simp [cfB, h1, h2]
      simp only [puS, puLo, puHi, puE, puB, hc, Bool.false_and, cond_true, cond_false]
      go_enter Tryd.func48, Tryd.ntmps48
      (go_wp2_with fail); (go_at_call 50); (refine (spec_l01Ok s a b _ _ _ hs a0 a1 a2).mono ?_); rintro e w1 ⟨rfl, hk1⟩
      rw [h1]
      obtain ⟨hk1c, hk1f⟩ := hk1.cells; have hk1z0 : w.heap.size < w1.heap.size := (by have := hk1.size; (try simp at this); omega); have hk1z1 : w.heap.size + 1 < w1.heap.size := (by have := hk1.size; (try simp at this); omega); have hk1z2 : w.heap.size + 1 + 1 < w1.heap.size := (by have := hk1.size; (try simp at this); omega)
      (go_wp2_with fail); (go_at_call 52); (refine (spec_l01Field t k st sz _ _ _ hw.1 hw.2.1 hw.2.2.1 hw.2.2.2 (hk1.cell b0) (hk1.cell b1) (hk1.cell b2) (hk1.cell b3)).mono ?_); rintro e w2 ⟨rfl, hk2⟩
      rw [h2]
      obtain ⟨hk2c, hk2f⟩ := hk2.cells; have hk2z0 : w.heap.size < w2.heap.size := (by have := hk2.size; (try simp at this); omega); have hk2z1 : w.heap.size + 1 < w2.heap.size := (by have := hk2.size; (try simp at this); omega); have hk2z2 : w.heap.size + 1 + 1 < w2.heap.size := (by have := hk2.size; (try simp at this); omega)
      go_wp2
      (apply bodyPost_ret; rotate_left; rfl; exact ⟨rfl, (by ((repeat (first | (with_reducible assumption) | ((with_reducible refine Keep.setCell ?_ ?_ _); rotate_left; focus (first | omega | (simp; done) | (simp; omega))) | (with_reducible refine Keep.alloc ?_ _) | (with_reducible refine Keep.drewN ?_ _) | (with_reducible refine Keep.drew ?_) | (with_reducible exact Keep.refl _) | refine Keep.trans ?_ (by with_reducible assumption) | exact Keep.refl _ | assumption))))⟩; simp [results, Tryd.results48, go_sem, U_zero, *])
    · have hc : cfB s b t k st sz = true := by simp [cfB, h1, h2]
      obtain ⟨u1, u2, u3, u4, u5⟩ := fieldB_use h2
      have hz := okSz_of h2
      cases hv : inB v 0 (mostN k sz) <;> simp only [puS, puLo, puHi, puE, puB, hc, hv, Bool.and_true, Bool.and_false, cond_true, cond_false]
      · go_enter Tryd.func48, Tryd.ntmps48
        (go_wp2_with fail); (go_at_call 50); (refine (spec_l01Ok s a b _ _ _ hs a0 a1 a2).mono ?_); rintro e w1 ⟨rfl, hk1⟩
        rw [h1]
        obtain ⟨hk1c, hk1f⟩ := hk1.cells; have hk1z0 : w.heap.size < w1.heap.size := (by have := hk1.size; (try simp at this); omega); have hk1z1 : w.heap.size + 1 < w1.heap.size := (by have := hk1.size; (try simp at this); omega); have hk1z2 : w.heap.size + 1 + 1 < w1.heap.size := (by have := hk1.size; (try simp at this); omega)
        (go_wp2_with fail); (go_at_call 52); (refine (spec_l01Field t k st sz _ _ _ hw.1 hw.2.1 hw.2.2.1 hw.2.2.2 (hk1.cell b0) (hk1.cell b1) (hk1.cell b2) (hk1.cell b3)).mono ?_); rintro e w2 ⟨rfl, hk2⟩
        rw [h2]
        obtain ⟨hk2c, hk2f⟩ := hk2.cells; have hk2z0 : w.heap.size < w2.heap.size := (by have := hk2.size; (try simp at this); omega); have hk2z1 : w.heap.size + 1 < w2.heap.size := (by have := hk2.size; (try simp at this); omega); have hk2z2 : w.heap.size + 1 + 1 < w2.heap.size := (by have := hk2.size; (try simp at this); omega)
        have k12 := hk1.trans hk2
        (go_wp2_with fail); (go_at_call 56); (refine (spec_l01Most t k st sz _ _ _ hz (k12.cell b0) (k12.cell b1) (k12.cell b2) (k12.cell b3)).mono ?_); rintro e w3 ⟨rfl, hk3⟩
        obtain ⟨hk3c, hk3f⟩ := hk3.cells; have hk3z0 : w.heap.size < w3.heap.size := (by have := hk3.size; (try simp at this); omega); have hk3z1 : w.heap.size + 1 < w3.heap.size := (by have := hk3.size; (try simp at this); omega); have hk3z2 : w.heap.size + 1 + 1 < w3.heap.size := (by have := hk3.size; (try simp at this); omega)
        (go_wp2_with fail); (go_at_call 68); (refine (spec_l00In _ _ _ _).mono ?_); rintro e w4 ⟨rfl, hk4⟩
        rw [hv]
        obtain ⟨hk4c, hk4f⟩ := hk4.cells; have hk4z0 : w.heap.size < w4.heap.size := (by have := hk4.size; (try simp at this); omega); have hk4z1 : w.heap.size + 1 < w4.heap.size := (by have := hk4.size; (try simp at this); omega); have hk4z2 : w.heap.size + 1 + 1 < w4.heap.size := (by have := hk4.size; (try simp at this); omega)
        go_wp2
        (apply bodyPost_ret; rotate_left; rfl; exact ⟨rfl, (by ((repeat (first | (with_reducible assumption) | ((with_reducible refine Keep.setCell ?_ ?_ _); rotate_left; focus (first | omega | (simp; done) | (simp; omega))) | (with_reducible refine Keep.alloc ?_ _) | (with_reducible refine Keep.drewN ?_ _) | (with_reducible refine Keep.drew ?_) | (with_reducible exact Keep.refl _) | refine Keep.trans ?_ (by with_reducible assumption) | exact Keep.refl _ | assumption))))⟩; simp [results, Tryd.results48, go_sem, U_zero, *])
      · obtain ⟨hv0, hv1⟩ := inB_iff.1 hv
        go_enter Tryd.func48, Tryd.ntmps48
        (go_wp2_with fail); (go_at_call 50); (refine (spec_l01Ok s a b _ _ _ hs a0 a1 a2).mono ?_); rintro e w1 ⟨rfl, hk1⟩
        rw [h1]
        obtain ⟨hk1c, hk1f⟩ := hk1.cells; have hk1z0 : w.heap.size < w1.heap.size := (by have := hk1.size; (try simp at this); omega); have hk1z1 : w.heap.size + 1 < w1.heap.size := (by have := hk1.size; (try simp at this); omega); have hk1z2 : w.heap.size + 1 + 1 < w1.heap.size := (by have := hk1.size; (try simp at this); omega)
        (go_wp2_with fail); (go_at_call 52); (refine (spec_l01Field t k st sz _ _ _ hw.1 hw.2.1 hw.2.2.1 hw.2.2.2 (hk1.cell b0) (hk1.cell b1) (hk1.cell b2) (hk1.cell b3)).mono ?_); rintro e w2 ⟨rfl, hk2⟩
        rw [h2]
        obtain ⟨hk2c, hk2f⟩ := hk2.cells; have hk2z0 : w.heap.size < w2.heap.size := (by have := hk2.size; (try simp at this); omega); have hk2z1 : w.heap.size + 1 < w2.heap.size := (by have := hk2.size; (try simp at this); omega); have hk2z2 : w.heap.size + 1 + 1 < w2.heap.size := (by have := hk2.size; (try simp at this); omega)
        have k12 := hk1.trans hk2
        (go_wp2_with fail); (go_at_call 56); (refine (spec_l01Most t k st sz _ _ _ hz (k12.cell b0) (k12.cell b1) (k12.cell b2) (k12.cell b3)).mono ?_); rintro e w3 ⟨rfl, hk3⟩
        obtain ⟨hk3c, hk3f⟩ := hk3.cells; have hk3z0 : w.heap.size < w3.heap.size := (by have := hk3.size; (try simp at this); omega); have hk3z1 : w.heap.size + 1 < w3.heap.size := (by have := hk3.size; (try simp at this); omega); have hk3z2 : w.heap.size + 1 + 1 < w3.heap.size := (by have := hk3.size; (try simp at this); omega)
        (go_wp2_with fail); (go_at_call 68); (refine (spec_l00In _ _ _ _).mono ?_); rintro e w4 ⟨rfl, hk4⟩
        rw [hv]
        have k14 := (k12.trans hk3).trans hk4
        have hA := hA0.keep k14
        have hF := hF0.keep k14
        have hR : Bx w4 (w.heap.size + 1 + 1) #[.string ByteArray.empty, .int .u64 0, .int .u64 0] 30 := (Bx.new2 _ _ _ _ _).keep k14
        have hW : Keep w w4 := (by ((repeat (first | (with_reducible assumption) | ((with_reducible refine Keep.setCell ?_ ?_ _); rotate_left; focus (first | omega | (simp; done) | (simp; omega))) | (with_reducible refine Keep.alloc ?_ _) | (with_reducible refine Keep.drewN ?_ _) | (with_reducible refine Keep.drew ?_) | (with_reducible exact Keep.refl _) | refine Keep.trans ?_ (by with_reducible assumption) | exact Keep.refl _ | assumption))))
        clear hk1 hk2 hk3 hk4 k12 k14 hk1c hk1f hk1z0 hk1z1 hk1z2 hk2c hk2f hk2z0 hk2z1 hk2z2 hk3c hk3f hk3z0 hk3z1 hk3z2 hA0 hF0 a0 a1 a2 az b0 b1 b2 b3 bz
        go_wp2_with fail
        apply wp_region_mono 7 [Fx _, Fx _, Fx _, Fx _, Fx _, Fx _, Fx _] (by kernel_rfl) (by kernel_rfl) (mono_of ⟨Fx.mono _, Fx.mono _, Fx.mono _, Fx.mono _, Fx.mono _, Fx.mono _, Fx.mono _, trivial⟩) ?st18 ?tl18
        case st18 =>
          simp only [List.take_succ_cons, List.take_zero, List.drop_succ_cons, List.drop_zero, putAll, Act.put, List.setIfInBounds_toArray, List.set_cons_succ, List.set_cons_zero, Nat.zero_add, Nat.reduceAdd]
          refine steps_cons ?_ (steps_cons ?_ (steps_cons ?_ (steps_cons ?_ (steps_cons ?_ (steps_cons ?_ (steps_cons ?_ steps_nil))))))
          all_goals
            intro v w2 hk hd
            obtain ⟨hA_0, hA_1, hA_2, hA_3, hA_4, hA_5, hA_6⟩ := (hA.keep hk).three
            obtain ⟨hF_0, hF_1, hF_2, hF_3, hF_4, hF_5, hF_6, hF_7, hF_8⟩ := (hF.keep hk).four
            obtain ⟨hR_0, hR_1, hR_2, hR_3, hR_4, hR_5, hR_6⟩ := (hR.keep hk).three
            have hkz := hk.size
            simp [DepsOf, factAt, Fx, Region.binds] at hd
            simp only [factAt, List.getD_cons_zero, List.getD_cons_succ]
            refine Gives.mk ?_
            go_simp
            first | exact ⟨Keep.refl _, Fx.self _ _⟩ | exact ⟨(Keep.refl _).alloc _, _, rfl, Bx.new _ _ _, by first | omega | (simp; omega)⟩ | (go_at_call 58; exact gives_fx (spec_l01Part t k st sz _ _ _ hw.2.2.2 hw.2.2.1 u2 u4 u3 hF_0 hF_1 hF_2 hF_3)) | (go_at_call 60; exact gives_fx (spec_l01Less _ _ _ _ _)) | (go_at_call 69; exact gives_fx (spec_l01Code t k st sz _ _ _ _ hz u2 u3 hv0 hv1 hF_0 hF_1 hF_2 hF_3)) | (go_at_call 73; exact gives_fx (spec_l01Join _ _ _ _ _))
        simp only [List.take_succ_cons, List.take_zero, List.drop_succ_cons, List.drop_zero, putAll, Act.put, List.setIfInBounds_toArray, List.set_cons_succ, List.set_cons_zero, Nat.zero_add, Nat.reduceAdd]
        intro v w2 hk hh
        obtain ⟨hA_0, hA_1, hA_2, hA_3, hA_4, hA_5, hA_6⟩ := (hA.keep hk).three
        obtain ⟨hF_0, hF_1, hF_2, hF_3, hF_4, hF_5, hF_6, hF_7, hF_8⟩ := (hF.keep hk).four
        obtain ⟨hR_0, hR_1, hR_2, hR_3, hR_4, hR_5, hR_6⟩ := (hR.keep hk).three
        have hkz := hk.size
        simp only [Held, factAt, List.getD_cons_zero, List.getD_cons_succ, Fx, true_and] at hh
        obtain ⟨⟨⟨⟨⟨⟨v_0, v_1⟩, v_2⟩, v_3⟩, v_4⟩, v_5⟩, v_6⟩ := hh
        simp only [v_0, v_1, v_2, v_3, v_4, v_5, v_6]
        go_wp2
        (apply bodyPost_ret; rotate_left; rfl; exact ⟨rfl, (by ((repeat (first | (with_reducible assumption) | ((with_reducible refine Keep.setCell ?_ ?_ _); rotate_left; focus (first | omega | (simp; done) | (simp; omega))) | (with_reducible refine Keep.alloc ?_ _) | (with_reducible refine Keep.drewN ?_ _) | (with_reducible refine Keep.drew ?_) | (with_reducible exact Keep.refl _) | refine Keep.trans ?_ (by with_reducible assumption) | exact Keep.refl _ | assumption))))⟩; simp [results, Tryd.results48, go_sem, U_zero, *])
end Go.Proofs.YtbgegnbcjklmjaaDoor

/- Decoding with a code; the query for a value; a value put into a card. -/
import Derived.Test.YtbgegnbcjklmjaaDoorE7
set_option linter.unusedVariables false
set_option linter.unusedSimpArgs false
namespace Go.Proofs.YtbgegnbcjklmjaaDoor
open Go.RowKit
set_option maxHeartbeats 4000000
set_option maxRecDepth 20000
def dfN (s : ByteArray) (k st sz : Int) (a b : Wd) : Int := cond (fieldB s k st sz) (cond (okB b) (deN k st sz a b) 0) 0
def dfE (s : ByteArray) (k st sz : Int) (a b : Wd) : Int := cond (fieldB s k st sz) (cond (okB b) (deE k st sz a b) 1) 1
theorem impl_DecodeField (s : ByteArray) (k st sz : Int) (a b : Wd) (w : World) (hw : FieldW s k st sz) :
    Calls Tryd.prog 44 #[.agg #[.string s, .int .i8 k, .int .i16 st, .int .i16 sz], .agg #[.int .u64 (U a), .int .u64 (U b)]] w fun e w' => e = .returned (.tuple #[.int .i64 (dfN s k st sz a b), .int .i64 (dfE s k st sz a b)]) ∧ Keep w w' := by
  cases h1 : fieldB s k st sz
  · simp only [dfN, dfE, h1, cond_true, cond_false]
    go_enter Tryd.func44, Tryd.ntmps44
    (go_wp2_with fail); (go_at_call 53); (refine (impl_isField _ _ _ _ _ hw.1 hw.2.1 hw.2.2.1 hw.2.2.2).mono ?_); rintro e w1 ⟨rfl, hk1⟩
    rw [h1]
    obtain ⟨hk1c, hk1f⟩ := hk1.cells; have hk1z0 : w.heap.size < w1.heap.size := (by have := hk1.size; (try simp at this); omega); have hk1z1 : w.heap.size + 1 < w1.heap.size := (by have := hk1.size; (try simp at this); omega)
    go_wp2
    go_ret2; exact ⟨rfl, (by ((repeat (first | (with_reducible assumption) | ((with_reducible refine Keep.setCell ?_ ?_ _); rotate_left; focus (first | omega | (simp; done) | (simp; omega))) | (with_reducible refine Keep.alloc ?_ _) | (with_reducible refine Keep.drewN ?_ _) | (with_reducible refine Keep.drew ?_) | (with_reducible exact Keep.refl _) | refine Keep.trans ?_ (by with_reducible assumption) | exact Keep.refl _ | assumption))))⟩
  · obtain ⟨u1, u2, u3, u4, u5⟩ := fieldB_use h1
    have hz := okSz_of h1
    cases h2 : okB b <;> simp only [dfN, dfE, h1, h2, cond_true, cond_false]
    · go_enter Tryd.func44, Tryd.ntmps44
      (go_wp2_with fail); (go_at_call 53); (refine (impl_isField _ _ _ _ _ hw.1 hw.2.1 hw.2.2.1 hw.2.2.2).mono ?_); rintro e w1 ⟨rfl, hk1⟩
      rw [h1]
      obtain ⟨hk1c, hk1f⟩ := hk1.cells; have hk1z0 : w.heap.size < w1.heap.size := (by have := hk1.size; (try simp at this); omega); have hk1z1 : w.heap.size + 1 < w1.heap.size := (by have := hk1.size; (try simp at this); omega)
      (go_wp2_with fail); (go_at_call 66); (refine (impl_isMask _ _ _).mono ?_); rintro e w2 ⟨rfl, hk2⟩
      rw [h2]
      obtain ⟨hk2c, hk2f⟩ := hk2.cells; have hk2z0 : w.heap.size < w2.heap.size := (by have := hk2.size; (try simp at this); omega); have hk2z1 : w.heap.size + 1 < w2.heap.size := (by have := hk2.size; (try simp at this); omega)
      go_wp2
      go_ret2; exact ⟨rfl, (by ((repeat (first | (with_reducible assumption) | ((with_reducible refine Keep.setCell ?_ ?_ _); rotate_left; focus (first | omega | (simp; done) | (simp; omega))) | (with_reducible refine Keep.alloc ?_ _) | (with_reducible refine Keep.drewN ?_ _) | (with_reducible refine Keep.drew ?_) | (with_reducible exact Keep.refl _) | refine Keep.trans ?_ (by with_reducible assumption) | exact Keep.refl _ | assumption))))⟩
    · go_enter Tryd.func44, Tryd.ntmps44
      (go_wp2_with fail); (go_at_call 53); (refine (impl_isField _ _ _ _ _ hw.1 hw.2.1 hw.2.2.1 hw.2.2.2).mono ?_); rintro e w1 ⟨rfl, hk1⟩
      rw [h1]
      obtain ⟨hk1c, hk1f⟩ := hk1.cells; have hk1z0 : w.heap.size < w1.heap.size := (by have := hk1.size; (try simp at this); omega); have hk1z1 : w.heap.size + 1 < w1.heap.size := (by have := hk1.size; (try simp at this); omega)
      (go_wp2_with fail); (go_at_call 66); (refine (impl_isMask _ _ _).mono ?_); rintro e w2 ⟨rfl, hk2⟩
      rw [h2]
      obtain ⟨hk2c, hk2f⟩ := hk2.cells; have hk2z0 : w.heap.size < w2.heap.size := (by have := hk2.size; (try simp at this); omega); have hk2z1 : w.heap.size + 1 < w2.heap.size := (by have := hk2.size; (try simp at this); omega)
      (go_wp2_with fail); (go_at_call 72); (refine (impl_decode _ _ _ _ _ _ _ hz hw.2.2.1 u2 u4 u3).mono ?_); rintro e w3 ⟨rfl, hk3⟩
      go_wp2
      go_ret2; exact ⟨rfl, (by ((repeat (first | (with_reducible assumption) | ((with_reducible refine Keep.setCell ?_ ?_ _); rotate_left; focus (first | omega | (simp; done) | (simp; omega))) | (with_reducible refine Keep.alloc ?_ _) | (with_reducible refine Keep.drewN ?_ _) | (with_reducible refine Keep.drew ?_) | (with_reducible exact Keep.refl _) | refine Keep.trans ?_ (by with_reducible assumption) | exact Keep.refl _ | assumption))))⟩
theorem spec_DecodeField (s : ByteArray) (k st sz : Int) (a b : Wd) (w : World) (hw : FieldW s k st sz) :
    Calls Tryd.prog 43 #[.agg #[.string s, .int .i8 k, .int .i16 st, .int .i16 sz], .agg #[.int .u64 (U a), .int .u64 (U b)]] w fun e w' => e = .returned (.tuple #[.int .i64 (dfN s k st sz a b), .int .i64 (dfE s k st sz a b)]) ∧ Keep w w' := by
  have hB := ((Bx.new w #[.string s, .int .i8 k, .int .i16 st, .int .i16 sz] 39).alloc (Obj.cells #[.int .u64 (U a), .int .u64 (U b)] 28))
  obtain ⟨b0, b1, b2, b3, _, _, _, _, bz⟩ := hB.four
  cases h1 : fieldB s k st sz
  · simp only [dfN, dfE, h1, cond_true, cond_false]
    go_enter Tryd.func43, Tryd.ntmps43
    (go_wp2_with fail); (go_at_call 52); (refine (spec_l01Field _ _ _ _ _ _ _ hw.1 hw.2.1 hw.2.2.1 hw.2.2.2 b0 b1 b2 b3).mono ?_); rintro e w1 ⟨rfl, hk1⟩
    rw [h1]
    obtain ⟨hk1c, hk1f⟩ := hk1.cells; have hk1z0 : w.heap.size < w1.heap.size := (by have := hk1.size; (try simp at this); omega); have hk1z1 : w.heap.size + 1 < w1.heap.size := (by have := hk1.size; (try simp at this); omega)
    go_wp2
    go_ret2; exact ⟨rfl, (by ((repeat (first | (with_reducible assumption) | ((with_reducible refine Keep.setCell ?_ ?_ _); rotate_left; focus (first | omega | (simp; done) | (simp; omega))) | (with_reducible refine Keep.alloc ?_ _) | (with_reducible refine Keep.drewN ?_ _) | (with_reducible refine Keep.drew ?_) | (with_reducible exact Keep.refl _) | refine Keep.trans ?_ (by with_reducible assumption) | exact Keep.refl _ | assumption))))⟩
  · obtain ⟨u1, u2, u3, u4, u5⟩ := fieldB_use h1
    have hz := okSz_of h1
    cases h2 : okB b <;> simp only [dfN, dfE, h1, h2, cond_true, cond_false]
    · go_enter Tryd.func43, Tryd.ntmps43
      (go_wp2_with fail); (go_at_call 52); (refine (spec_l01Field _ _ _ _ _ _ _ hw.1 hw.2.1 hw.2.2.1 hw.2.2.2 b0 b1 b2 b3).mono ?_); rintro e w1 ⟨rfl, hk1⟩
      rw [h1]
      obtain ⟨hk1c, hk1f⟩ := hk1.cells; have hk1z0 : w.heap.size < w1.heap.size := (by have := hk1.size; (try simp at this); omega); have hk1z1 : w.heap.size + 1 < w1.heap.size := (by have := hk1.size; (try simp at this); omega)
      (go_wp2_with fail); (go_at_call 64); (refine (spec_l01Mask _ _ _).mono ?_); rintro e w2 ⟨rfl, hk2⟩
      rw [h2]
      obtain ⟨hk2c, hk2f⟩ := hk2.cells; have hk2z0 : w.heap.size < w2.heap.size := (by have := hk2.size; (try simp at this); omega); have hk2z1 : w.heap.size + 1 < w2.heap.size := (by have := hk2.size; (try simp at this); omega)
      go_wp2
      go_ret2; exact ⟨rfl, (by ((repeat (first | (with_reducible assumption) | ((with_reducible refine Keep.setCell ?_ ?_ _); rotate_left; focus (first | omega | (simp; done) | (simp; omega))) | (with_reducible refine Keep.alloc ?_ _) | (with_reducible refine Keep.drewN ?_ _) | (with_reducible refine Keep.drew ?_) | (with_reducible exact Keep.refl _) | refine Keep.trans ?_ (by with_reducible assumption) | exact Keep.refl _ | assumption))))⟩
    · go_enter Tryd.func43, Tryd.ntmps43
      (go_wp2_with fail); (go_at_call 52); (refine (spec_l01Field _ _ _ _ _ _ _ hw.1 hw.2.1 hw.2.2.1 hw.2.2.2 b0 b1 b2 b3).mono ?_); rintro e w1 ⟨rfl, hk1⟩
      rw [h1]
      obtain ⟨hk1c, hk1f⟩ := hk1.cells; have hk1z0 : w.heap.size < w1.heap.size := (by have := hk1.size; (try simp at this); omega); have hk1z1 : w.heap.size + 1 < w1.heap.size := (by have := hk1.size; (try simp at this); omega)
      (go_wp2_with fail); (go_at_call 64); (refine (spec_l01Mask _ _ _).mono ?_); rintro e w2 ⟨rfl, hk2⟩
      rw [h2]
      obtain ⟨hk2c, hk2f⟩ := hk2.cells; have hk2z0 : w.heap.size < w2.heap.size := (by have := hk2.size; (try simp at this); omega); have hk2z1 : w.heap.size + 1 < w2.heap.size := (by have := hk2.size; (try simp at this); omega)
      have k12 := hk1.trans hk2
      (go_wp2_with fail); (go_at_call 71); (refine (spec_l01Value s k st sz _ _ _ _ _ hz hw.2.2.1 u2 u4 u3 (k12.cell b0) (k12.cell b1) (k12.cell b2) (k12.cell b3)).mono ?_); rintro e w3 ⟨rfl, hk3⟩
      go_wp2
      go_ret2; exact ⟨rfl, (by ((repeat (first | (with_reducible assumption) | ((with_reducible refine Keep.setCell ?_ ?_ _); rotate_left; focus (first | omega | (simp; done) | (simp; omega))) | (with_reducible refine Keep.alloc ?_ _) | (with_reducible refine Keep.drewN ?_ _) | (with_reducible refine Keep.drew ?_) | (with_reducible exact Keep.refl _) | refine Keep.trans ?_ (by with_reducible assumption) | exact Keep.refl _ | assumption))))⟩
/-! ### The query for a value -/
def qnLo (s : ByteArray) (k st sz v : Int) : Wd := cond (okV s k st sz v) (paLo k st sz &&& ~~~encLo k st sz v) 0#64
def qnHi (s : ByteArray) (k st sz v : Int) : Wd := cond (okV s k st sz v) (paHi k st sz &&& ~~~encHi k st sz v) 0#64
theorem impl_QueryFor (s : ByteArray) (k st sz v : Int) (w : World) (hw : FieldW s k st sz) :
    Calls Tryd.prog 46 #[.agg #[.string s, .int .i8 k, .int .i16 st, .int .i16 sz], .int .i64 v] w fun e w' => e = .returned (.tuple #[.agg #[.int .u64 (U (enLo s k st sz v)), .int .u64 (U (enHi s k st sz v)), .int .u64 (U (qnLo s k st sz v)), .int .u64 (U (qnHi s k st sz v))], .int .i64 (enE s k st sz v)]) ∧ Keep w w' := by
  have hE := impl_EncodeField s k st sz v
  cases h1 : okV s k st sz v
  · have e1 : enE s k st sz v ≠ 0 := by
      unfold enE okV at *
      cases h2 : fieldB s k st sz
      · simp
      · rw [h2] at h1
        simp at h1
        simp [h1]
    simp only [enLo, enHi, qnLo, qnHi, h1, cond_true, cond_false] at hE ⊢
    generalize enE s k st sz v = E at *
    go_enter Tryd.func46, Tryd.ntmps46
    (go_wp2_with fail); (go_at_call 42); (refine (hE _ hw).mono ?_); rintro e w1 ⟨rfl, hk1⟩
    have hF := (((Bx.new w #[.string s, .int .i8 k, .int .i16 st, .int .i16 sz] 39).alloc (Obj.cells #[.int .u64 0, .int .u64 0, .int .u64 0, .int .u64 0] 62))).keep hk1
    have hR := (Bx.new1 w (Obj.cells #[.string s, .int .i8 k, .int .i16 st, .int .i16 sz] 39) #[.int .u64 0, .int .u64 0, .int .u64 0, .int .u64 0] 62).keep hk1
    have k1 : Keep w w1 := (by ((repeat (first | (with_reducible assumption) | ((with_reducible refine Keep.setCell ?_ ?_ _); rotate_left; focus (first | omega | (simp; done) | (simp; omega))) | (with_reducible refine Keep.alloc ?_ _) | (with_reducible refine Keep.drewN ?_ _) | (with_reducible refine Keep.drew ?_) | (with_reducible exact Keep.refl _) | refine Keep.trans ?_ (by with_reducible assumption) | exact Keep.refl _ | assumption))))
    clear hk1
    have hRs := hR.four
    go_wp2
    (apply bodyPost_ret; rotate_left; rfl; exact ⟨rfl, (by ((repeat (first | (with_reducible assumption) | ((with_reducible refine Keep.setCell ?_ ?_ _); rotate_left; focus (first | omega | (simp; done) | (simp; omega))) | (with_reducible refine Keep.alloc ?_ _) | (with_reducible refine Keep.drewN ?_ _) | (with_reducible refine Keep.drew ?_) | (with_reducible exact Keep.refl _) | refine Keep.trans ?_ (by with_reducible assumption) | exact Keep.refl _ | assumption))))⟩; simp [results, Tryd.results46, go_sem, U_zero, *])
  · have h2 : fieldB s k st sz = true := by unfold okV at h1; simp at h1; exact h1.1
    have h3 : inB v 0 (mostN k sz) = true := by unfold okV at h1; simp at h1; exact h1.2
    have e1 : enE s k st sz v = 0 := by unfold enE; rw [h2, h3]; rfl
    obtain ⟨u1, u2, u3, u4, u5⟩ := fieldB_use h2
    have hz := okSz_of h2
    rw [e1] at hE ⊢
    simp only [enLo, enHi, qnLo, qnHi, h1, cond_true, cond_false] at hE ⊢
    generalize encLo k st sz v = eL at *
    generalize encHi k st sz v = eH at *
    go_enter Tryd.func46, Tryd.ntmps46
    (go_wp2_with fail); (go_at_call 42); (refine (hE _ hw).mono ?_); rintro e w1 ⟨rfl, hk1⟩
    have hF := (((Bx.new w #[.string s, .int .i8 k, .int .i16 st, .int .i16 sz] 39).alloc (Obj.cells #[.int .u64 0, .int .u64 0, .int .u64 0, .int .u64 0] 62))).keep hk1
    have hR := (Bx.new1 w (Obj.cells #[.string s, .int .i8 k, .int .i16 st, .int .i16 sz] 39) #[.int .u64 0, .int .u64 0, .int .u64 0, .int .u64 0] 62).keep hk1
    have k1 : Keep w w1 := (by ((repeat (first | (with_reducible assumption) | ((with_reducible refine Keep.setCell ?_ ?_ _); rotate_left; focus (first | omega | (simp; done) | (simp; omega))) | (with_reducible refine Keep.alloc ?_ _) | (with_reducible refine Keep.drewN ?_ _) | (with_reducible refine Keep.drew ?_) | (with_reducible exact Keep.refl _) | refine Keep.trans ?_ (by with_reducible assumption) | exact Keep.refl _ | assumption))))
    clear hk1
    go_wp2_with fail
    refine wp_gen (fun W => Bx W w.heap.size #[.string s, .int .i8 k, .int .i16 st, .int .i16 sz] 39 ∧ Bx W (w.heap.size + 1) #[.int .u64 0, .int .u64 0, .int .u64 0, .int .u64 0] 62 ∧ Bx W w1.heap.size #[.int .u64 (U eL), .int .u64 (U eH)] 28 ∧ Keep w W ∧ w.heap.size + 1 < w1.heap.size) ⟨hF.alloc _, hR.alloc _, Bx.new _ _ _, (by ((repeat (first | (with_reducible assumption) | ((with_reducible refine Keep.setCell ?_ ?_ _); rotate_left; focus (first | omega | (simp; done) | (simp; omega))) | (with_reducible refine Keep.alloc ?_ _) | (with_reducible refine Keep.drewN ?_ _) | (with_reducible refine Keep.drew ?_) | (with_reducible exact Keep.refl _) | refine Keep.trans ?_ (by with_reducible assumption) | exact Keep.refl _ | assumption)))), hR.lt⟩ ?_
    clear hF hR k1
    rintro W ⟨hF, hR, hM, hW, hz1⟩
    apply wp_region_mono 6 [Fx _, Fx _, Fx _, Fx _, Fx _, Fx _] (by kernel_rfl) (by kernel_rfl) (mono_of ⟨Fx.mono _, Fx.mono _, Fx.mono _, Fx.mono _, Fx.mono _, Fx.mono _, trivial⟩) ?st15 ?tl15
    case st15 =>
      simp only [List.take_succ_cons, List.take_zero, List.drop_succ_cons, List.drop_zero, putAll, Act.put, List.setIfInBounds_toArray, List.set_cons_succ, List.set_cons_zero, Nat.zero_add, Nat.reduceAdd]
      refine steps_cons ?_ (steps_cons ?_ (steps_cons ?_ (steps_cons ?_ (steps_cons ?_ (steps_cons ?_ steps_nil)))))
      all_goals
        intro v w2 hk hd
        obtain ⟨hF_0, hF_1, hF_2, hF_3, hF_4, hF_5, hF_6, hF_7, hF_8⟩ := (hF.keep hk).four
        obtain ⟨hR_0, hR_1, hR_2, hR_3, hR_4, hR_5, hR_6, hR_7, hR_8⟩ := (hR.keep hk).four
        obtain ⟨hM_0, hM_1, hM_2, hM_3, hM_4⟩ := (hM.keep hk).two
        have hkz := hk.size
        simp [DepsOf, factAt, Fx, Region.binds] at hd
        simp only [factAt, List.getD_cons_zero, List.getD_cons_succ]
        refine Gives.mk ?_
        go_simp
        first | exact ⟨Keep.refl _, Fx.self _ _⟩ | exact ⟨(Keep.refl _).alloc _, _, rfl, Bx.new _ _ _, by first | omega | (simp; omega)⟩ | (go_at_call 59; exact gives_fx (impl_part _ _ _ _ _ hw.2.2.2 hw.2.2.1 u2 u4 u3)) | (go_at_call 61; exact gives_fx (impl_LessMask _ _ _ _ _))
    simp only [List.take_succ_cons, List.take_zero, List.drop_succ_cons, List.drop_zero, putAll, Act.put, List.setIfInBounds_toArray, List.set_cons_succ, List.set_cons_zero, Nat.zero_add, Nat.reduceAdd]
    intro v w2 hk hh
    obtain ⟨hF_0, hF_1, hF_2, hF_3, hF_4, hF_5, hF_6, hF_7, hF_8⟩ := (hF.keep hk).four
    obtain ⟨hR_0, hR_1, hR_2, hR_3, hR_4, hR_5, hR_6, hR_7, hR_8⟩ := (hR.keep hk).four
    obtain ⟨hM_0, hM_1, hM_2, hM_3, hM_4⟩ := (hM.keep hk).two
    have hkz := hk.size
    simp only [Held, factAt, List.getD_cons_zero, List.getD_cons_succ, Fx, true_and] at hh
    obtain ⟨⟨⟨⟨⟨v_0, v_1⟩, v_2⟩, v_3⟩, v_4⟩, v_5⟩ := hh
    simp only [v_0, v_1, v_2, v_3, v_4, v_5]
    go_wp2
    (apply bodyPost_ret; rotate_left; rfl; exact ⟨rfl, (by ((repeat (first | (with_reducible assumption) | ((with_reducible refine Keep.setCell ?_ ?_ _); rotate_left; focus (first | omega | (simp; done) | (simp; omega))) | (with_reducible refine Keep.alloc ?_ _) | (with_reducible refine Keep.drewN ?_ _) | (with_reducible refine Keep.drew ?_) | (with_reducible exact Keep.refl _) | refine Keep.trans ?_ (by with_reducible assumption) | exact Keep.refl _ | assumption))))⟩; simp [results, Tryd.results46, go_sem, U_zero, *])
theorem spec_QueryFor (s : ByteArray) (k st sz v : Int) (w : World) (hw : FieldW s k st sz) :
    Calls Tryd.prog 45 #[.agg #[.string s, .int .i8 k, .int .i16 st, .int .i16 sz], .int .i64 v] w fun e w' => e = .returned (.tuple #[.agg #[.int .u64 (U (enLo s k st sz v)), .int .u64 (U (enHi s k st sz v)), .int .u64 (U (qnLo s k st sz v)), .int .u64 (U (qnHi s k st sz v))], .int .i64 (enE s k st sz v)]) ∧ Keep w w' := by
  have hE := spec_EncodeField s k st sz v
  cases h1 : okV s k st sz v
  · have e1 : enE s k st sz v ≠ 0 := by
      unfold enE okV at *
      cases h2 : fieldB s k st sz
      · simp
      · rw [h2] at h1
        simp at h1
        simp [h1]
    simp only [enLo, enHi, qnLo, qnHi, h1, cond_true, cond_false] at hE ⊢
    generalize enE s k st sz v = E at *
    go_enter Tryd.func45, Tryd.ntmps45
    (go_wp2_with fail); (go_at_call 41); (refine (hE _ hw).mono ?_); rintro e w1 ⟨rfl, hk1⟩
    have hF := (((Bx.new w #[.string s, .int .i8 k, .int .i16 st, .int .i16 sz] 39).alloc (Obj.cells #[.int .u64 0, .int .u64 0, .int .u64 0, .int .u64 0] 62))).keep hk1
    have hR := (Bx.new1 w (Obj.cells #[.string s, .int .i8 k, .int .i16 st, .int .i16 sz] 39) #[.int .u64 0, .int .u64 0, .int .u64 0, .int .u64 0] 62).keep hk1
    have k1 : Keep w w1 := (by ((repeat (first | (with_reducible assumption) | ((with_reducible refine Keep.setCell ?_ ?_ _); rotate_left; focus (first | omega | (simp; done) | (simp; omega))) | (with_reducible refine Keep.alloc ?_ _) | (with_reducible refine Keep.drewN ?_ _) | (with_reducible refine Keep.drew ?_) | (with_reducible exact Keep.refl _) | refine Keep.trans ?_ (by with_reducible assumption) | exact Keep.refl _ | assumption))))
    clear hk1
    have hRs := hR.four
    go_wp2
    (apply bodyPost_ret; rotate_left; rfl; exact ⟨rfl, (by ((repeat (first | (with_reducible assumption) | ((with_reducible refine Keep.setCell ?_ ?_ _); rotate_left; focus (first | omega | (simp; done) | (simp; omega))) | (with_reducible refine Keep.alloc ?_ _) | (with_reducible refine Keep.drewN ?_ _) | (with_reducible refine Keep.drew ?_) | (with_reducible exact Keep.refl _) | refine Keep.trans ?_ (by with_reducible assumption) | exact Keep.refl _ | assumption))))⟩; simp [results, Tryd.results45, go_sem, U_zero, *])
  · have h2 : fieldB s k st sz = true := by unfold okV at h1; simp at h1; exact h1.1
    have h3 : inB v 0 (mostN k sz) = true := by unfold okV at h1; simp at h1; exact h1.2
    have e1 : enE s k st sz v = 0 := by unfold enE; rw [h2, h3]; rfl
    obtain ⟨u1, u2, u3, u4, u5⟩ := fieldB_use h2
    have hz := okSz_of h2
    rw [e1] at hE ⊢
    simp only [enLo, enHi, qnLo, qnHi, h1, cond_true, cond_false] at hE ⊢
    generalize encLo k st sz v = eL at *
    generalize encHi k st sz v = eH at *
    go_enter Tryd.func45, Tryd.ntmps45
    (go_wp2_with fail); (go_at_call 41); (refine (hE _ hw).mono ?_); rintro e w1 ⟨rfl, hk1⟩
    have hF := (((Bx.new w #[.string s, .int .i8 k, .int .i16 st, .int .i16 sz] 39).alloc (Obj.cells #[.int .u64 0, .int .u64 0, .int .u64 0, .int .u64 0] 62))).keep hk1
    have hR := (Bx.new1 w (Obj.cells #[.string s, .int .i8 k, .int .i16 st, .int .i16 sz] 39) #[.int .u64 0, .int .u64 0, .int .u64 0, .int .u64 0] 62).keep hk1
    have k1 : Keep w w1 := (by ((repeat (first | (with_reducible assumption) | ((with_reducible refine Keep.setCell ?_ ?_ _); rotate_left; focus (first | omega | (simp; done) | (simp; omega))) | (with_reducible refine Keep.alloc ?_ _) | (with_reducible refine Keep.drewN ?_ _) | (with_reducible refine Keep.drew ?_) | (with_reducible exact Keep.refl _) | refine Keep.trans ?_ (by with_reducible assumption) | exact Keep.refl _ | assumption))))
    clear hk1
    go_wp2_with fail
    refine wp_gen (fun W => Bx W w.heap.size #[.string s, .int .i8 k, .int .i16 st, .int .i16 sz] 39 ∧ Bx W (w.heap.size + 1) #[.int .u64 0, .int .u64 0, .int .u64 0, .int .u64 0] 62 ∧ Bx W w1.heap.size #[.int .u64 (U eL), .int .u64 (U eH)] 28 ∧ Keep w W ∧ w.heap.size + 1 < w1.heap.size) ⟨hF.alloc _, hR.alloc _, Bx.new _ _ _, (by ((repeat (first | (with_reducible assumption) | ((with_reducible refine Keep.setCell ?_ ?_ _); rotate_left; focus (first | omega | (simp; done) | (simp; omega))) | (with_reducible refine Keep.alloc ?_ _) | (with_reducible refine Keep.drewN ?_ _) | (with_reducible refine Keep.drew ?_) | (with_reducible exact Keep.refl _) | refine Keep.trans ?_ (by with_reducible assumption) | exact Keep.refl _ | assumption)))), hR.lt⟩ ?_
    clear hF hR k1
    rintro W ⟨hF, hR, hM, hW, hz1⟩
    apply wp_region_mono 5 [Fx _, Fx _, Fx _, Fx _, Fx _] (by kernel_rfl) (by kernel_rfl) (mono_of ⟨Fx.mono _, Fx.mono _, Fx.mono _, Fx.mono _, Fx.mono _, trivial⟩) ?st16 ?tl16
    case st16 =>
      simp only [List.take_succ_cons, List.take_zero, List.drop_succ_cons, List.drop_zero, putAll, Act.put, List.setIfInBounds_toArray, List.set_cons_succ, List.set_cons_zero, Nat.zero_add, Nat.reduceAdd]
      refine steps_cons ?_ (steps_cons ?_ (steps_cons ?_ (steps_cons ?_ (steps_cons ?_ steps_nil))))
      all_goals
        intro v w2 hk hd
        obtain ⟨hF_0, hF_1, hF_2, hF_3, hF_4, hF_5, hF_6, hF_7, hF_8⟩ := (hF.keep hk).four
        obtain ⟨hR_0, hR_1, hR_2, hR_3, hR_4, hR_5, hR_6, hR_7, hR_8⟩ := (hR.keep hk).four
        obtain ⟨hM_0, hM_1, hM_2, hM_3, hM_4⟩ := (hM.keep hk).two
        have hkz := hk.size
        simp [DepsOf, factAt, Fx, Region.binds] at hd
        simp only [factAt, List.getD_cons_zero, List.getD_cons_succ]
        refine Gives.mk ?_
        go_simp
        first | exact ⟨Keep.refl _, Fx.self _ _⟩ | exact ⟨(Keep.refl _).alloc _, _, rfl, Bx.new _ _ _, by first | omega | (simp; omega)⟩ | (go_at_call 58; exact gives_fx (spec_l01Part s k st sz _ _ _ hw.2.2.2 hw.2.2.1 u2 u4 u3 hF_0 hF_1 hF_2 hF_3)) | (go_at_call 60; exact gives_fx (spec_l01Less _ _ _ _ _))
    simp only [List.take_succ_cons, List.take_zero, List.drop_succ_cons, List.drop_zero, putAll, Act.put, List.setIfInBounds_toArray, List.set_cons_succ, List.set_cons_zero, Nat.zero_add, Nat.reduceAdd]
    intro v w2 hk hh
    obtain ⟨hF_0, hF_1, hF_2, hF_3, hF_4, hF_5, hF_6, hF_7, hF_8⟩ := (hF.keep hk).four
    obtain ⟨hR_0, hR_1, hR_2, hR_3, hR_4, hR_5, hR_6, hR_7, hR_8⟩ := (hR.keep hk).four
    obtain ⟨hM_0, hM_1, hM_2, hM_3, hM_4⟩ := (hM.keep hk).two
    have hkz := hk.size
    simp only [Held, factAt, List.getD_cons_zero, List.getD_cons_succ, Fx, true_and] at hh
    obtain ⟨⟨⟨⟨v_0, v_1⟩, v_2⟩, v_3⟩, v_4⟩ := hh
    simp only [v_0, v_1, v_2, v_3, v_4]
    go_wp2
    (apply bodyPost_ret; rotate_left; rfl; exact ⟨rfl, (by ((repeat (first | (with_reducible assumption) | ((with_reducible refine Keep.setCell ?_ ?_ _); rotate_left; focus (first | omega | (simp; done) | (simp; omega))) | (with_reducible refine Keep.alloc ?_ _) | (with_reducible refine Keep.drewN ?_ _) | (with_reducible refine Keep.drew ?_) | (with_reducible exact Keep.refl _) | refine Keep.trans ?_ (by with_reducible assumption) | exact Keep.refl _ | assumption))))⟩; simp [results, Tryd.results45, go_sem, U_zero, *])
/-! ### A value put into a card -/
def puB (s : ByteArray) (b : Wd) (t : ByteArray) (k st sz v : Int) : Bool := cfB s b t k st sz && inB v 0 (mostN k sz)
def puE (s : ByteArray) (b : Wd) (t : ByteArray) (k st sz v : Int) : Int := cond (cfB s b t k st sz) (cond (inB v 0 (mostN k sz)) 0 2) 1
def puS (s : ByteArray) (b : Wd) (t : ByteArray) (k st sz v : Int) : ByteArray := cond (puB s b t k st sz v) s (⟨#[]⟩ : ByteArray)
def puLo (s : ByteArray) (a b : Wd) (t : ByteArray) (k st sz v : Int) : Wd := cond (puB s b t k st sz v) (a &&& ~~~paLo k st sz ||| encLo k st sz v) 0#64
def puHi (s : ByteArray) (a b : Wd) (t : ByteArray) (k st sz v : Int) : Wd := cond (puB s b t k st sz v) (b &&& ~~~paHi k st sz ||| encHi k st sz v) 0#64
end Go.Proofs.YtbgegnbcjklmjaaDoor

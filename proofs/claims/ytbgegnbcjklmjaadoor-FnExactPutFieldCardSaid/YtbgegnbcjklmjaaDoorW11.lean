/- The law of a value put into a card. -/
import Derived.Test.YtbgegnbcjklmjaaDoorW9
import Derived.Test.YtbgegnbcjklmjaaDoorE9
set_option linter.unusedVariables false
set_option linter.unusedSimpArgs false
namespace Go.Proofs.YtbgegnbcjklmjaaDoor
open Go.RowKit
set_option maxHeartbeats 4000000
set_option maxRecDepth 20000
theorem laws_FnExactPutField (s : ByteArray) (a b : Wd) (t : ByteArray) (k st sz v : Int) (w : World) (hs : s.size ≤ 9223372036854775807) (hw : FieldW t k st sz) (hv : (Lit.int .i64 v).wf = true) :
    Calls Tryd.prog 14 #[.agg #[.string s, .int .u64 (U a), .int .u64 (U b)], .agg #[.string t, .int .i8 k, .int .i16 st, .int .i16 sz], .int .i64 v] w fun e w' => e = .returned (.bool true) ∧ Keep w w' := by
  by_cases hn : s.size ≤ 1048576
  · have e1 := szN_le (left := 1048576) (n := s.size) (by omega)
    by_cases hm : s.size + t.size ≤ 1048576
    · have e2 := szN_le (left := 1048576 - s.size) (n := t.size) (by omega)
      obtain ⟨S', hS⟩ : ∃ x, puS s b t k st sz v = x := ⟨_, rfl⟩
      obtain ⟨X, hX⟩ : ∃ x, puLo s a b t k st sz v = x := ⟨_, rfl⟩
      obtain ⟨Y, hY⟩ : ∃ x, puHi s a b t k st sz v = x := ⟨_, rfl⟩
      obtain ⟨E, hE⟩ : ∃ x, puE s b t k st sz v = x := ⟨_, rfl⟩
      have hI := impl_PutField s a b t k st sz v
      have hJ := spec_PutField s a b t k st sz v
      rw [hS, hX, hY, hE] at hI hJ
      clear hS hX hY hE hv
      go_enter Tryd.func14, Tryd.ntmps14
      (go_wp2_with fail); (go_at_call 15); (refine (laws_szCard _ _ _ 1048576 _ (by decide) hs).mono ?_); rintro e w1 ⟨rfl, hk1⟩
      rw [e1]
      obtain ⟨hk1c, hk1f⟩ := hk1.cells; have hk1z0 : w.heap.size < w1.heap.size := (by have := hk1.size; (try simp at this); omega); have hk1z1 : w.heap.size + 1 < w1.heap.size := (by have := hk1.size; (try simp at this); omega)
      (go_wp2_with fail); (go_at_call 19); (refine (laws_szField _ _ _ _ (1048576 - s.size) _ (by omega) hw.1).mono ?_); rintro e w2 ⟨rfl, hk2⟩
      rw [e2]
      go_wp2_with fail
      refine wp_gen (fun W => Bx W w.heap.size #[.string s, .int .u64 (U a), .int .u64 (U b)] 25 ∧ Bx W (w.heap.size + 1) #[.string t, .int .i8 k, .int .i16 st, .int .i16 sz] 36 ∧ Keep w W) ⟨(((Bx.new _ _ _).alloc _).keep hk1).keep hk2, ((Bx.new1 _ _ _ _).keep hk1).keep hk2, (by ((repeat (first | (with_reducible assumption) | ((with_reducible refine Keep.setCell ?_ ?_ _); rotate_left; focus (first | omega | (simp; done) | (simp; omega))) | (with_reducible refine Keep.alloc ?_ _) | (with_reducible refine Keep.drewN ?_ _) | (with_reducible refine Keep.drew ?_) | (with_reducible exact Keep.refl _) | refine Keep.trans ?_ (by with_reducible assumption) | exact Keep.refl _ | assumption))))⟩ ?_
      clear hk1 hk2 hk1c hk1f hk1z0 hk1z1
      rintro W ⟨hA, hB, hW⟩
      apply wp_region_late 10 8 [Fx _, Fx _, Fx _, Fx _, Fx _, Fx _, Fx _, Fx _, Fx _] (Al (W.heap.size) #[.string ByteArray.empty, .int .u64 0, .int .u64 0] 30) (Al (W.heap.size) #[.string S', .int .u64 (U X), .int .u64 (U Y)] 30) (by kernel_rfl) (by kernel_rfl) rfl (by simp) ⟨Fx.free _, Fx.free _, Fx.free _, Fx.free _, Fx.free _, Fx.free _, Fx.free _, Fx.free _, Fx.free _, trivial⟩ (Al.mono _ _ _) (Al.mono _ _ _) ?st19 ?so19 ?la19 ?tl19
      case st19 =>
        simp only [List.take_succ_cons, List.take_zero, List.drop_succ_cons, List.drop_zero, putAll, Act.put, List.setIfInBounds_toArray, List.set_cons_succ, List.set_cons_zero, Nat.zero_add, Nat.reduceAdd]
        simp only [List.cons_append, List.nil_append]
        refine steps_cons ?_ (steps_cons ?_ (steps_cons ?_ (steps_cons ?_ (steps_cons ?_ (steps_cons ?_ (steps_cons ?_ (steps_cons ?_ (steps_cons ?_ (steps_cons ?_ steps_nil)))))))))
        all_goals
          intro v w2 hk hd
          obtain ⟨hA_0, hA_1, hA_2, hA_3, hA_4, hA_5, hA_6⟩ := (hA.keep hk).three
          obtain ⟨hB_0, hB_1, hB_2, hB_3, hB_4, hB_5, hB_6, hB_7, hB_8⟩ := (hB.keep hk).four
          have hkz := hk.size
          simp [DepsOf, factAt, Fx, Region.binds] at hd
          simp only [factAt, List.getD_cons_zero, List.getD_cons_succ]
          refine Gives.mk ?_
          go_simp
          first | exact ⟨Keep.refl _, Fx.self _ _⟩ | exact ⟨(Keep.refl _).alloc _, _, rfl, Bx.new _ _ _, by first | omega | (simp; omega)⟩ | (go_at_call 17; exact gives_fx (laws_toCard _ _ _ _)) | (go_at_call 21; exact gives_fx (laws_toField _ _ _ _ _)) | (go_at_call 48; exact gives_fx (hJ _ hs hw))
      case so19 =>
        intro v w2 hk hd o ho
        obtain ⟨hA_0, hA_1, hA_2, hA_3, hA_4, hA_5, hA_6⟩ := (hA.keep hk).three
        obtain ⟨hB_0, hB_1, hB_2, hB_3, hB_4, hB_5, hB_6, hB_7, hB_8⟩ := (hB.keep hk).four
        have hkz := hk.size
        have v_0 := hd 0 (by decide) (by decide)
        have v_1 := hd 1 (by decide) (by decide)
        have v_2 := hd 2 (by decide) (by decide)
        have v_3 := hd 3 (by decide) (by decide)
        have v_4 := hd 4 (by decide) (by decide)
        have v_5 := hd 5 (by decide) (by decide)
        have v_6 := hd 6 (by decide) (by decide)
        have v_7 := hd 7 (by decide) (by decide)
        simp only [List.cons_append, List.nil_append, factAt, List.getD_cons_zero, List.getD_cons_succ, Fx] at v_0 v_1 v_2 v_3 v_4 v_5 v_6 v_7
        obtain ⟨g, v_9, hG, hg⟩ := hd 9 (by decide) (by decide)
        obtain ⟨hG_0, hG_1, hG_2, hG_3, hG_4, hG_5, hG_6⟩ := hG.three
        obtain rfl := Option.some.inj ho
        simp only [List.take_succ_cons, List.take_zero, List.drop_succ_cons, List.drop_zero, putAll, Act.put, List.setIfInBounds_toArray, List.set_cons_succ, List.set_cons_zero, Nat.zero_add, Nat.reduceAdd]
        refine Gives.mk ?_
        go_simp
        exact ⟨(by ((repeat (first | (with_reducible assumption) | ((with_reducible refine Keep.setCell ?_ ?_ _); rotate_left; focus (first | omega | (simp; done) | (simp; omega))) | (with_reducible refine Keep.alloc ?_ _) | (with_reducible refine Keep.drewN ?_ _) | (with_reducible refine Keep.drew ?_) | (with_reducible exact Keep.refl _) | refine Keep.trans ?_ (by with_reducible assumption) | exact Keep.refl _ | assumption)))), g, (by first | rfl | assumption), (((hG).set _).set _).set _, hg⟩
      case la19 =>
        intro v w2 hk hd o ho
        obtain ⟨hA_0, hA_1, hA_2, hA_3, hA_4, hA_5, hA_6⟩ := (hA.keep hk).three
        obtain ⟨hB_0, hB_1, hB_2, hB_3, hB_4, hB_5, hB_6, hB_7, hB_8⟩ := (hB.keep hk).four
        have hkz := hk.size
        have v_0 := hd 0 (by decide) (by decide)
        have v_1 := hd 1 (by decide) (by decide)
        have v_2 := hd 2 (by decide) (by decide)
        have v_3 := hd 3 (by decide) (by decide)
        have v_4 := hd 4 (by decide) (by decide)
        have v_5 := hd 5 (by decide) (by decide)
        have v_6 := hd 6 (by decide) (by decide)
        have v_7 := hd 7 (by decide) (by decide)
        simp only [List.cons_append, List.nil_append, factAt, List.getD_cons_zero, List.getD_cons_succ, Fx] at v_0 v_1 v_2 v_3 v_4 v_5 v_6 v_7
        obtain ⟨g, v_9, hG, hg⟩ := hd 9 (by decide) (by decide)
        obtain ⟨hG_0, hG_1, hG_2, hG_3, hG_4, hG_5, hG_6⟩ := hG.three
        obtain rfl := Option.some.inj ho
        simp only [List.take_succ_cons, List.take_zero, List.drop_succ_cons, List.drop_zero, putAll, Act.put, List.setIfInBounds_toArray, List.set_cons_succ, List.set_cons_zero, Nat.zero_add, Nat.reduceAdd]
        refine Gives.mk ?_
        go_simp
        exact ⟨Keep.refl _, rfl⟩
      simp only [List.take_succ_cons, List.take_zero, List.drop_succ_cons, List.drop_zero, putAll, Act.put, List.setIfInBounds_toArray, List.set_cons_succ, List.set_cons_zero, Nat.zero_add, Nat.reduceAdd]
      simp only [List.cons_append, List.nil_append]
      intro v w2 hk hh
      obtain ⟨hA_0, hA_1, hA_2, hA_3, hA_4, hA_5, hA_6⟩ := (hA.keep hk).three
      obtain ⟨hB_0, hB_1, hB_2, hB_3, hB_4, hB_5, hB_6, hB_7, hB_8⟩ := (hB.keep hk).four
      have hkz := hk.size
      simp only [Held, factAt, List.getD_cons_zero, List.getD_cons_succ, Fx, true_and] at hh
      obtain ⟨⟨⟨⟨⟨⟨⟨⟨⟨v_0, v_1⟩, v_2⟩, v_3⟩, v_4⟩, v_5⟩, v_6⟩, v_7⟩, v_8⟩, g, v_9, hG, hg⟩ := hh
      obtain ⟨hG_0, hG_1, hG_2, hG_3, hG_4, hG_5, hG_6⟩ := hG.three
      simp only [v_0, v_1, v_2, v_3, v_4, v_5, v_6, v_7, v_8, v_9]
      go_wp2_with fail
      have zW := hW.size
      refine wp_gen (fun W => Bx W (w.heap.size) #[.string s, .int .u64 (U a), .int .u64 (U b)] 25 ∧ Bx W (w.heap.size + 1) #[.string t, .int .i8 k, .int .i16 st, .int .i16 sz] 36 ∧ Bx W g #[.string S', .int .u64 (U X), .int .u64 (U Y)] 30 ∧ w.heap.size ≤ g ∧ Keep w W) ⟨hA.keep hk, hB.keep hk, hG, by omega, (by ((repeat (first | (with_reducible assumption) | ((with_reducible refine Keep.setCell ?_ ?_ _); rotate_left; focus (first | omega | (simp; done) | (simp; omega))) | (with_reducible refine Keep.alloc ?_ _) | (with_reducible refine Keep.drewN ?_ _) | (with_reducible refine Keep.drew ?_) | (with_reducible exact Keep.refl _) | refine Keep.trans ?_ (by with_reducible assumption) | exact Keep.refl _ | assumption))))⟩ ?_
      clear v_0 v_1 v_2 v_3 v_4 v_5 v_6 v_7 v_8 v_9 hA_0 hA_1 hA_2 hA_3 hA_4 hA_5 hA_6 hA hB_0 hB_1 hB_2 hB_3 hB_4 hB_5 hB_6 hB_7 hB_8 hB hG_0 hG_1 hG_2 hG_3 hG_4 hG_5 hG_6 hG hg hk hkz zW hW v
      rintro W ⟨hA, hB, hC, hzhC, hW⟩
      apply wp_region_late 10 8 [Fx _, Fx _, Fx _, Fx _, Fx _, Fx _, Fx _, Fx _, Fx _] (Al (W.heap.size) #[.string ByteArray.empty, .int .u64 0, .int .u64 0] 30) (Al (W.heap.size) #[.string S', .int .u64 (U X), .int .u64 (U Y)] 30) (by kernel_rfl) (by kernel_rfl) rfl (by simp) ⟨Fx.free _, Fx.free _, Fx.free _, Fx.free _, Fx.free _, Fx.free _, Fx.free _, Fx.free _, Fx.free _, trivial⟩ (Al.mono _ _ _) (Al.mono _ _ _) ?st20 ?so20 ?la20 ?tl20
      case st20 =>
        simp only [List.take_succ_cons, List.take_zero, List.drop_succ_cons, List.drop_zero, putAll, Act.put, List.setIfInBounds_toArray, List.set_cons_succ, List.set_cons_zero, Nat.zero_add, Nat.reduceAdd]
        simp only [List.cons_append, List.nil_append]
        refine steps_cons ?_ (steps_cons ?_ (steps_cons ?_ (steps_cons ?_ (steps_cons ?_ (steps_cons ?_ (steps_cons ?_ (steps_cons ?_ (steps_cons ?_ (steps_cons ?_ steps_nil)))))))))
        all_goals
          intro v w2 hk hd
          obtain ⟨hA_0, hA_1, hA_2, hA_3, hA_4, hA_5, hA_6⟩ := (hA.keep hk).three
          obtain ⟨hB_0, hB_1, hB_2, hB_3, hB_4, hB_5, hB_6, hB_7, hB_8⟩ := (hB.keep hk).four
          obtain ⟨hC_0, hC_1, hC_2, hC_3, hC_4, hC_5, hC_6⟩ := (hC.keep hk).three
          have hkz := hk.size
          simp [DepsOf, factAt, Fx, Region.binds] at hd
          simp only [factAt, List.getD_cons_zero, List.getD_cons_succ]
          refine Gives.mk ?_
          go_simp
          first | exact ⟨Keep.refl _, Fx.self _ _⟩ | exact ⟨(Keep.refl _).alloc _, _, rfl, Bx.new _ _ _, by first | omega | (simp; omega)⟩ | (go_at_call 17; exact gives_fx (laws_toCard _ _ _ _)) | (go_at_call 21; exact gives_fx (laws_toField _ _ _ _ _)) | (go_at_call 49; exact gives_fx (hI _ hs hw))
      case so20 =>
        intro v w2 hk hd o ho
        obtain ⟨hA_0, hA_1, hA_2, hA_3, hA_4, hA_5, hA_6⟩ := (hA.keep hk).three
        obtain ⟨hB_0, hB_1, hB_2, hB_3, hB_4, hB_5, hB_6, hB_7, hB_8⟩ := (hB.keep hk).four
        obtain ⟨hC_0, hC_1, hC_2, hC_3, hC_4, hC_5, hC_6⟩ := (hC.keep hk).three
        have hkz := hk.size
        have v_0 := hd 0 (by decide) (by decide)
        have v_1 := hd 1 (by decide) (by decide)
        have v_2 := hd 2 (by decide) (by decide)
        have v_3 := hd 3 (by decide) (by decide)
        have v_4 := hd 4 (by decide) (by decide)
        have v_5 := hd 5 (by decide) (by decide)
        have v_6 := hd 6 (by decide) (by decide)
        have v_7 := hd 7 (by decide) (by decide)
        simp only [List.cons_append, List.nil_append, factAt, List.getD_cons_zero, List.getD_cons_succ, Fx] at v_0 v_1 v_2 v_3 v_4 v_5 v_6 v_7
        obtain ⟨g, v_9, hG, hg⟩ := hd 9 (by decide) (by decide)
        obtain ⟨hG_0, hG_1, hG_2, hG_3, hG_4, hG_5, hG_6⟩ := hG.three
        obtain rfl := Option.some.inj ho
        simp only [List.take_succ_cons, List.take_zero, List.drop_succ_cons, List.drop_zero, putAll, Act.put, List.setIfInBounds_toArray, List.set_cons_succ, List.set_cons_zero, Nat.zero_add, Nat.reduceAdd]
        refine Gives.mk ?_
        go_simp
        exact ⟨(by ((repeat (first | (with_reducible assumption) | ((with_reducible refine Keep.setCell ?_ ?_ _); rotate_left; focus (first | omega | (simp; done) | (simp; omega))) | (with_reducible refine Keep.alloc ?_ _) | (with_reducible refine Keep.drewN ?_ _) | (with_reducible refine Keep.drew ?_) | (with_reducible exact Keep.refl _) | refine Keep.trans ?_ (by with_reducible assumption) | exact Keep.refl _ | assumption)))), g, (by first | rfl | assumption), (((hG).set _).set _).set _, hg⟩
      case la20 =>
        intro v w2 hk hd o ho
        obtain ⟨hA_0, hA_1, hA_2, hA_3, hA_4, hA_5, hA_6⟩ := (hA.keep hk).three
        obtain ⟨hB_0, hB_1, hB_2, hB_3, hB_4, hB_5, hB_6, hB_7, hB_8⟩ := (hB.keep hk).four
        obtain ⟨hC_0, hC_1, hC_2, hC_3, hC_4, hC_5, hC_6⟩ := (hC.keep hk).three
        have hkz := hk.size
        have v_0 := hd 0 (by decide) (by decide)
        have v_1 := hd 1 (by decide) (by decide)
        have v_2 := hd 2 (by decide) (by decide)
        have v_3 := hd 3 (by decide) (by decide)
        have v_4 := hd 4 (by decide) (by decide)
        have v_5 := hd 5 (by decide) (by decide)
        have v_6 := hd 6 (by decide) (by decide)
        have v_7 := hd 7 (by decide) (by decide)
        simp only [List.cons_append, List.nil_append, factAt, List.getD_cons_zero, List.getD_cons_succ, Fx] at v_0 v_1 v_2 v_3 v_4 v_5 v_6 v_7
        obtain ⟨g, v_9, hG, hg⟩ := hd 9 (by decide) (by decide)
        obtain ⟨hG_0, hG_1, hG_2, hG_3, hG_4, hG_5, hG_6⟩ := hG.three
        obtain rfl := Option.some.inj ho
        simp only [List.take_succ_cons, List.take_zero, List.drop_succ_cons, List.drop_zero, putAll, Act.put, List.setIfInBounds_toArray, List.set_cons_succ, List.set_cons_zero, Nat.zero_add, Nat.reduceAdd]
        refine Gives.mk ?_
        go_simp
        exact ⟨Keep.refl _, rfl⟩
      simp only [List.take_succ_cons, List.take_zero, List.drop_succ_cons, List.drop_zero, putAll, Act.put, List.setIfInBounds_toArray, List.set_cons_succ, List.set_cons_zero, Nat.zero_add, Nat.reduceAdd]
      simp only [List.cons_append, List.nil_append]
      intro v w2 hk hh
      obtain ⟨hA_0, hA_1, hA_2, hA_3, hA_4, hA_5, hA_6⟩ := (hA.keep hk).three
      obtain ⟨hB_0, hB_1, hB_2, hB_3, hB_4, hB_5, hB_6, hB_7, hB_8⟩ := (hB.keep hk).four
      obtain ⟨hC_0, hC_1, hC_2, hC_3, hC_4, hC_5, hC_6⟩ := (hC.keep hk).three
      have hkz := hk.size
      simp only [Held, factAt, List.getD_cons_zero, List.getD_cons_succ, Fx, true_and] at hh
      obtain ⟨⟨⟨⟨⟨⟨⟨⟨⟨v_0, v_1⟩, v_2⟩, v_3⟩, v_4⟩, v_5⟩, v_6⟩, v_7⟩, v_8⟩, g, v_9, hG, hg⟩ := hh
      obtain ⟨hG_0, hG_1, hG_2, hG_3, hG_4, hG_5, hG_6⟩ := hG.three
      simp only [v_0, v_1, v_2, v_3, v_4, v_5, v_6, v_7, v_8, v_9]
      (go_wp2_with fail); (go_at_call 32); (refine (laws_eqCard_self _ _ _ _).mono ?_); rintro e w3 ⟨rfl, hk3⟩
      go_wp2
      go_ret; exact ⟨rfl, (by ((repeat (first | (with_reducible assumption) | ((with_reducible refine Keep.setCell ?_ ?_ _); rotate_left; focus (first | omega | (simp; done) | (simp; omega))) | (with_reducible refine Keep.alloc ?_ _) | (with_reducible refine Keep.drewN ?_ _) | (with_reducible refine Keep.drew ?_) | (with_reducible exact Keep.refl _) | refine Keep.trans ?_ (by with_reducible assumption) | exact Keep.refl _ | assumption))))⟩
    · have e2 := szN_gt (left := 1048576 - s.size) (n := t.size) (by omega)
      go_enter Tryd.func14, Tryd.ntmps14
      (go_wp2_with fail); (go_at_call 15); (refine (laws_szCard _ _ _ 1048576 _ (by decide) hs).mono ?_); rintro e w1 ⟨rfl, hk1⟩
      rw [e1]
      obtain ⟨hk1c, hk1f⟩ := hk1.cells; have hk1z0 : w.heap.size < w1.heap.size := (by have := hk1.size; (try simp at this); omega); have hk1z1 : w.heap.size + 1 < w1.heap.size := (by have := hk1.size; (try simp at this); omega)
      (go_wp2_with fail); (go_at_call 19); (refine (laws_szField _ _ _ _ (1048576 - s.size) _ (by omega) hw.1).mono ?_); rintro e w2 ⟨rfl, hk2⟩
      rw [e2]
      go_wp2
      go_ret; exact ⟨rfl, (by ((repeat (first | (with_reducible assumption) | ((with_reducible refine Keep.setCell ?_ ?_ _); rotate_left; focus (first | omega | (simp; done) | (simp; omega))) | (with_reducible refine Keep.alloc ?_ _) | (with_reducible refine Keep.drewN ?_ _) | (with_reducible refine Keep.drew ?_) | (with_reducible exact Keep.refl _) | refine Keep.trans ?_ (by with_reducible assumption) | exact Keep.refl _ | assumption))))⟩
  · have e1 := szN_gt (left := 1048576) (n := s.size) (by omega)
    go_enter Tryd.func14, Tryd.ntmps14
    (go_wp2_with fail); (go_at_call 15); (refine (laws_szCard _ _ _ 1048576 _ (by decide) hs).mono ?_); rintro e w1 ⟨rfl, hk1⟩
    rw [e1]
    go_wp2
    go_ret; exact ⟨rfl, (by ((repeat (first | (with_reducible assumption) | ((with_reducible refine Keep.setCell ?_ ?_ _); rotate_left; focus (first | omega | (simp; done) | (simp; omega))) | (with_reducible refine Keep.alloc ?_ _) | (with_reducible refine Keep.drewN ?_ _) | (with_reducible refine Keep.drew ?_) | (with_reducible exact Keep.refl _) | refine Keep.trans ?_ (by with_reducible assumption) | exact Keep.refl _ | assumption))))⟩
end Go.Proofs.YtbgegnbcjklmjaaDoor

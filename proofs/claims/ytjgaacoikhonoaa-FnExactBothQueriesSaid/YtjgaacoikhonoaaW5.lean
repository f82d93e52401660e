/- The law of two queries at once. -/
import Derived.Test.YtjgaacoikhonoaaW4
import Derived.Test.YtjgaacoikhonoaaLate
set_option linter.unusedVariables false
set_option linter.unusedSimpArgs false
namespace Go.Proofs.Ytjgaacoikhonoaa
open Go.RowKit
set_option maxHeartbeats 1000000
theorem laws_FnExactBothQueries (a b c d x y z u : Wd) (w : World) :
    Calls Try.prog 10 #[.agg #[.int .u64 (U a), .int .u64 (U b), .int .u64 (U c), .int .u64 (U d)], .agg #[.int .u64 (U x), .int .u64 (U y), .int .u64 (U z), .int .u64 (U u)]] w fun e w' => e = .returned (.bool true) ∧ Keep w w' := by
  go_enter Try.func10, Try.ntmps10
  go_wp2_with fail
  refine wp_gen (fun W => Bx W w.heap.size #[.int .u64 (U a), .int .u64 (U b), .int .u64 (U c), .int .u64 (U d)] 30 ∧ Bx W (w.heap.size + 1) #[.int .u64 (U x), .int .u64 (U y), .int .u64 (U z), .int .u64 (U u)] 30 ∧ Keep w W) ⟨by simpa using (Bx.new _ _ _).alloc _, by simpa using Bx.new (w.alloc _) _ _, (by ((repeat (first | (with_reducible assumption) | ((with_reducible refine Keep.setCell ?_ ?_ _); rotate_left; focus (first | omega | (simp; done) | (simp; omega))) | (with_reducible refine Keep.alloc ?_ _) | (with_reducible refine Keep.drewN ?_ _) | (with_reducible refine Keep.drew ?_) | (with_reducible exact Keep.refl _) | refine Keep.trans ?_ (by with_reducible assumption) | exact Keep.refl _ | assumption))))⟩ ?_
  rintro W ⟨hA, hB, hW⟩
  refine wp_region_late 9 7 [Fx (.agg #[.int .u64 (U a), .int .u64 (U b), .int .u64 (U c), .int .u64 (U d)]), Fx (.agg #[.int .u64 (U a), .int .u64 (U b), .int .u64 (U c), .int .u64 (U d)]), Fx (.agg #[.int .u64 (U x), .int .u64 (U y), .int .u64 (U z), .int .u64 (U u)]), Fx (.agg #[.int .u64 (U x), .int .u64 (U y), .int .u64 (U z), .int .u64 (U u)]), Fx (.tuple #[.agg #[.int .u64 (U (bothV a b c d x y z u (a ||| x))), .int .u64 (U (bothV a b c d x y z u (b ||| y))), .int .u64 (U (bothV a b c d x y z u (c ||| z))), .int .u64 (U (bothV a b c d x y z u (d ||| u)))], .int .i64 (bothE a b c d x y z u)]), Fx (.tuple #[.agg #[.int .u64 (U (bothV a b c d x y z u (a ||| x))), .int .u64 (U (bothV a b c d x y z u (b ||| y))), .int .u64 (U (bothV a b c d x y z u (c ||| z))), .int .u64 (U (bothV a b c d x y z u (d ||| u)))], .int .i64 (bothE a b c d x y z u)]), Fx (.agg #[.int .u64 (U (bothV a b c d x y z u (a ||| x))), .int .u64 (U (bothV a b c d x y z u (b ||| y))), .int .u64 (U (bothV a b c d x y z u (c ||| z))), .int .u64 (U (bothV a b c d x y z u (d ||| u)))]), Fx (.int .i64 (bothE a b c d x y z u))] (Al (W.heap.size) #[.int .u64 0, .int .u64 0, .int .u64 0, .int .u64 0] 33) (Al (W.heap.size) #[.int .u64 (U (bothV a b c d x y z u (a ||| x))), .int .u64 (U (bothV a b c d x y z u (b ||| y))), .int .u64 (U (bothV a b c d x y z u (c ||| z))), .int .u64 (U (bothV a b c d x y z u (d ||| u)))] 33) (by kernel_rfl) (by kernel_rfl) rfl (by simp) ⟨Fx.free _, Fx.free _, Fx.free _, Fx.free _, Fx.free _, Fx.free _, Fx.free _, Fx.free _, trivial⟩ (Al.mono _ _ _) (Al.mono _ _ _) ?_ ?_ ?_ ?_
  focus
    simp only [List.take_succ_cons, List.take_zero, List.drop_succ_cons, List.drop_zero, putAll, Act.put, List.setIfInBounds_toArray, List.set_cons_succ, List.set_cons_zero, Nat.zero_add, Nat.reduceAdd]
    simp only [List.cons_append, List.nil_append]
    refine steps_cons ?_ (steps_cons ?_ (steps_cons ?_ (steps_cons ?_ (steps_cons ?_ (steps_cons ?_ (steps_cons ?_ (steps_cons ?_ (steps_cons ?_ steps_nil))))))))
    all_goals
      intro v w2 hk hd
      obtain ⟨hA_0, hA_1, hA_2, hA_3, hA_4, hA_5, hA_6, hA_7, hA_8⟩ := (hA.keep hk).four
      obtain ⟨hB_0, hB_1, hB_2, hB_3, hB_4, hB_5, hB_6, hB_7, hB_8⟩ := (hB.keep hk).four
      have hkz := hk.size
      simp [DepsOf, factAt, Fx, Region.binds] at hd ⊢
      refine Gives.mk ?_
      go_simp
      first | exact Keep.refl _ | exact ⟨(Keep.refl _).alloc _, _, rfl, Bx.new _ _ _, by first | omega | (simp; omega)⟩ | (exact laws_toQuery _ _ _ _ _) | (exact spec_BothQueries _ _ _ _ _ _ _ _ _)
  focus
    intro v w2 hk hd o ho
    obtain ⟨hA_0, hA_1, hA_2, hA_3, hA_4, hA_5, hA_6, hA_7, hA_8⟩ := (hA.keep hk).four
    obtain ⟨hB_0, hB_1, hB_2, hB_3, hB_4, hB_5, hB_6, hB_7, hB_8⟩ := (hB.keep hk).four
    have hkz := hk.size
    have v_0 := hd 0 (by decide) (by decide)
    have v_1 := hd 1 (by decide) (by decide)
    have v_2 := hd 2 (by decide) (by decide)
    have v_3 := hd 3 (by decide) (by decide)
    have v_4 := hd 4 (by decide) (by decide)
    have v_5 := hd 5 (by decide) (by decide)
    have v_6 := hd 6 (by decide) (by decide)
    simp only [List.cons_append, List.nil_append, factAt, List.getD_cons_zero, List.getD_cons_succ, Fx] at v_0 v_1 v_2 v_3 v_4 v_5 v_6
    obtain ⟨g, v_8, hG, hg⟩ := hd 8 (by decide) (by decide)
    obtain ⟨hG_0, hG_1, hG_2, hG_3, hG_4, hG_5, hG_6, hG_7, hG_8⟩ := hG.four
    obtain rfl := Option.some.inj ho
    simp only [List.take_succ_cons, List.take_zero, List.drop_succ_cons, List.drop_zero, putAll, Act.put, List.setIfInBounds_toArray, List.set_cons_succ, List.set_cons_zero, Nat.zero_add, Nat.reduceAdd]
    refine Gives.mk ?_
    go_simp
    exact ⟨(by ((repeat (first | (with_reducible assumption) | ((with_reducible refine Keep.setCell ?_ ?_ _); rotate_left; focus (first | omega | (simp; done) | (simp; omega))) | (with_reducible refine Keep.alloc ?_ _) | (with_reducible refine Keep.drewN ?_ _) | (with_reducible refine Keep.drew ?_) | (with_reducible exact Keep.refl _) | refine Keep.trans ?_ (by with_reducible assumption) | exact Keep.refl _ | assumption)))), g, (by first | rfl | assumption), ((((hG).set _).set _).set _).set _, hg⟩
  focus
    intro v w2 hk hd o ho
    obtain ⟨hA_0, hA_1, hA_2, hA_3, hA_4, hA_5, hA_6, hA_7, hA_8⟩ := (hA.keep hk).four
    obtain ⟨hB_0, hB_1, hB_2, hB_3, hB_4, hB_5, hB_6, hB_7, hB_8⟩ := (hB.keep hk).four
    have hkz := hk.size
    have v_0 := hd 0 (by decide) (by decide)
    have v_1 := hd 1 (by decide) (by decide)
    have v_2 := hd 2 (by decide) (by decide)
    have v_3 := hd 3 (by decide) (by decide)
    have v_4 := hd 4 (by decide) (by decide)
    have v_5 := hd 5 (by decide) (by decide)
    have v_6 := hd 6 (by decide) (by decide)
    simp only [List.cons_append, List.nil_append, factAt, List.getD_cons_zero, List.getD_cons_succ, Fx] at v_0 v_1 v_2 v_3 v_4 v_5 v_6
    obtain ⟨g, v_8, hG, hg⟩ := hd 8 (by decide) (by decide)
    obtain ⟨hG_0, hG_1, hG_2, hG_3, hG_4, hG_5, hG_6, hG_7, hG_8⟩ := hG.four
    obtain rfl := Option.some.inj ho
    simp only [List.take_succ_cons, List.take_zero, List.drop_succ_cons, List.drop_zero, putAll, Act.put, List.setIfInBounds_toArray, List.set_cons_succ, List.set_cons_zero, Nat.zero_add, Nat.reduceAdd]
    refine Gives.mk ?_
    go_simp
    exact ⟨Keep.refl _, rfl⟩
  simp only [List.take_succ_cons, List.take_zero, List.drop_succ_cons, List.drop_zero, putAll, Act.put, List.setIfInBounds_toArray, List.set_cons_succ, List.set_cons_zero, Nat.zero_add, Nat.reduceAdd]
  simp only [List.cons_append, List.nil_append]
  intro v w2 hk hh
  obtain ⟨hA_0, hA_1, hA_2, hA_3, hA_4, hA_5, hA_6, hA_7, hA_8⟩ := (hA.keep hk).four
  obtain ⟨hB_0, hB_1, hB_2, hB_3, hB_4, hB_5, hB_6, hB_7, hB_8⟩ := (hB.keep hk).four
  have hkz := hk.size
  simp only [Held, factAt, List.getD_cons_zero, List.getD_cons_succ, Fx, true_and] at hh
  obtain ⟨⟨⟨⟨⟨⟨⟨⟨v_0, v_1⟩, v_2⟩, v_3⟩, v_4⟩, v_5⟩, v_6⟩, v_7⟩, g, v_8, hG, hg⟩ := hh
  obtain ⟨hG_0, hG_1, hG_2, hG_3, hG_4, hG_5, hG_6, hG_7, hG_8⟩ := hG.four
  have zhA := hA.lt
  have zhB := hB.lt
  have zW := hW.size
  go_wp2_with fail
  simp only [v_0, v_1, v_2, v_3, v_4, v_5, v_6, v_7, v_8]
  refine wp_gen (fun W => Bx W (w.heap.size) #[.int .u64 (U a), .int .u64 (U b), .int .u64 (U c), .int .u64 (U d)] 30 ∧ Bx W (w.heap.size + 1) #[.int .u64 (U x), .int .u64 (U y), .int .u64 (U z), .int .u64 (U u)] 30 ∧ Bx W g #[.int .u64 (U (bothV a b c d x y z u (a ||| x))), .int .u64 (U (bothV a b c d x y z u (b ||| y))), .int .u64 (U (bothV a b c d x y z u (c ||| z))), .int .u64 (U (bothV a b c d x y z u (d ||| u)))] 33 ∧ w.heap.size ≤ g ∧ Keep w W) ⟨hA.keep hk, hB.keep hk, hG, by omega, (by ((repeat (first | (with_reducible assumption) | ((with_reducible refine Keep.setCell ?_ ?_ _); rotate_left; focus (first | omega | (simp; done) | (simp; omega))) | (with_reducible refine Keep.alloc ?_ _) | (with_reducible refine Keep.drewN ?_ _) | (with_reducible refine Keep.drew ?_) | (with_reducible exact Keep.refl _) | refine Keep.trans ?_ (by with_reducible assumption) | exact Keep.refl _ | assumption))))⟩ ?_
  clear v_0 v_1 v_2 v_3 v_4 v_5 v_6 v_7 v_8 hA_0 hA_1 hA_2 hA_3 hA_4 hA_5 hA_6 hA_7 hA_8 zhA hA hB_0 hB_1 hB_2 hB_3 hB_4 hB_5 hB_6 hB_7 hB_8 zhB hB hG_0 hG_1 hG_2 hG_3 hG_4 hG_5 hG_6 hG_7 hG_8 hG hg hk hkz zW hW v
  rintro W ⟨hA, hB, hC, hzhC, hW⟩
  refine wp_region_late 9 7 [Fx (.agg #[.int .u64 (U a), .int .u64 (U b), .int .u64 (U c), .int .u64 (U d)]), Fx (.agg #[.int .u64 (U a), .int .u64 (U b), .int .u64 (U c), .int .u64 (U d)]), Fx (.agg #[.int .u64 (U x), .int .u64 (U y), .int .u64 (U z), .int .u64 (U u)]), Fx (.agg #[.int .u64 (U x), .int .u64 (U y), .int .u64 (U z), .int .u64 (U u)]), Fx (.tuple #[.agg #[.int .u64 (U (bothV a b c d x y z u (a ||| x))), .int .u64 (U (bothV a b c d x y z u (b ||| y))), .int .u64 (U (bothV a b c d x y z u (c ||| z))), .int .u64 (U (bothV a b c d x y z u (d ||| u)))], .int .i64 (bothE a b c d x y z u)]), Fx (.tuple #[.agg #[.int .u64 (U (bothV a b c d x y z u (a ||| x))), .int .u64 (U (bothV a b c d x y z u (b ||| y))), .int .u64 (U (bothV a b c d x y z u (c ||| z))), .int .u64 (U (bothV a b c d x y z u (d ||| u)))], .int .i64 (bothE a b c d x y z u)]), Fx (.agg #[.int .u64 (U (bothV a b c d x y z u (a ||| x))), .int .u64 (U (bothV a b c d x y z u (b ||| y))), .int .u64 (U (bothV a b c d x y z u (c ||| z))), .int .u64 (U (bothV a b c d x y z u (d ||| u)))]), Fx (.int .i64 (bothE a b c d x y z u))] (Al (W.heap.size) #[.int .u64 0, .int .u64 0, .int .u64 0, .int .u64 0] 33) (Al (W.heap.size) #[.int .u64 (U (bothV a b c d x y z u (a ||| x))), .int .u64 (U (bothV a b c d x y z u (b ||| y))), .int .u64 (U (bothV a b c d x y z u (c ||| z))), .int .u64 (U (bothV a b c d x y z u (d ||| u)))] 33) (by kernel_rfl) (by kernel_rfl) rfl (by simp) ⟨Fx.free _, Fx.free _, Fx.free _, Fx.free _, Fx.free _, Fx.free _, Fx.free _, Fx.free _, trivial⟩ (Al.mono _ _ _) (Al.mono _ _ _) ?_ ?_ ?_ ?_
  focus
    simp only [List.take_succ_cons, List.take_zero, List.drop_succ_cons, List.drop_zero, putAll, Act.put, List.setIfInBounds_toArray, List.set_cons_succ, List.set_cons_zero, Nat.zero_add, Nat.reduceAdd]
    simp only [List.cons_append, List.nil_append]
    refine steps_cons ?_ (steps_cons ?_ (steps_cons ?_ (steps_cons ?_ (steps_cons ?_ (steps_cons ?_ (steps_cons ?_ (steps_cons ?_ (steps_cons ?_ steps_nil))))))))
    all_goals
      intro v w2 hk hd
      obtain ⟨hA_0, hA_1, hA_2, hA_3, hA_4, hA_5, hA_6, hA_7, hA_8⟩ := (hA.keep hk).four
      obtain ⟨hB_0, hB_1, hB_2, hB_3, hB_4, hB_5, hB_6, hB_7, hB_8⟩ := (hB.keep hk).four
      obtain ⟨hC_0, hC_1, hC_2, hC_3, hC_4, hC_5, hC_6, hC_7, hC_8⟩ := (hC.keep hk).four
      have hkz := hk.size
      simp [DepsOf, factAt, Fx, Region.binds] at hd ⊢
      refine Gives.mk ?_
      go_simp
      first | exact Keep.refl _ | exact ⟨(Keep.refl _).alloc _, _, rfl, Bx.new _ _ _, by first | omega | (simp; omega)⟩ | (exact laws_toQuery _ _ _ _ _) | (exact impl_BothQueries _ _ _ _ _ _ _ _ _)
  focus
    intro v w2 hk hd o ho
    obtain ⟨hA_0, hA_1, hA_2, hA_3, hA_4, hA_5, hA_6, hA_7, hA_8⟩ := (hA.keep hk).four
    obtain ⟨hB_0, hB_1, hB_2, hB_3, hB_4, hB_5, hB_6, hB_7, hB_8⟩ := (hB.keep hk).four
    obtain ⟨hC_0, hC_1, hC_2, hC_3, hC_4, hC_5, hC_6, hC_7, hC_8⟩ := (hC.keep hk).four
    have hkz := hk.size
    have v_0 := hd 0 (by decide) (by decide)
    have v_1 := hd 1 (by decide) (by decide)
    have v_2 := hd 2 (by decide) (by decide)
    have v_3 := hd 3 (by decide) (by decide)
    have v_4 := hd 4 (by decide) (by decide)
    have v_5 := hd 5 (by decide) (by decide)
    have v_6 := hd 6 (by decide) (by decide)
    simp only [List.cons_append, List.nil_append, factAt, List.getD_cons_zero, List.getD_cons_succ, Fx] at v_0 v_1 v_2 v_3 v_4 v_5 v_6
    obtain ⟨g, v_8, hG, hg⟩ := hd 8 (by decide) (by decide)
    obtain ⟨hG_0, hG_1, hG_2, hG_3, hG_4, hG_5, hG_6, hG_7, hG_8⟩ := hG.four
    obtain rfl := Option.some.inj ho
    simp only [List.take_succ_cons, List.take_zero, List.drop_succ_cons, List.drop_zero, putAll, Act.put, List.setIfInBounds_toArray, List.set_cons_succ, List.set_cons_zero, Nat.zero_add, Nat.reduceAdd]
    refine Gives.mk ?_
    go_simp
    exact ⟨(by ((repeat (first | (with_reducible assumption) | ((with_reducible refine Keep.setCell ?_ ?_ _); rotate_left; focus (first | omega | (simp; done) | (simp; omega))) | (with_reducible refine Keep.alloc ?_ _) | (with_reducible refine Keep.drewN ?_ _) | (with_reducible refine Keep.drew ?_) | (with_reducible exact Keep.refl _) | refine Keep.trans ?_ (by with_reducible assumption) | exact Keep.refl _ | assumption)))), g, (by first | rfl | assumption), ((((hG).set _).set _).set _).set _, hg⟩
  focus
    intro v w2 hk hd o ho
    obtain ⟨hA_0, hA_1, hA_2, hA_3, hA_4, hA_5, hA_6, hA_7, hA_8⟩ := (hA.keep hk).four
    obtain ⟨hB_0, hB_1, hB_2, hB_3, hB_4, hB_5, hB_6, hB_7, hB_8⟩ := (hB.keep hk).four
    obtain ⟨hC_0, hC_1, hC_2, hC_3, hC_4, hC_5, hC_6, hC_7, hC_8⟩ := (hC.keep hk).four
    have hkz := hk.size
    have v_0 := hd 0 (by decide) (by decide)
    have v_1 := hd 1 (by decide) (by decide)
    have v_2 := hd 2 (by decide) (by decide)
    have v_3 := hd 3 (by decide) (by decide)
    have v_4 := hd 4 (by decide) (by decide)
    have v_5 := hd 5 (by decide) (by decide)
    have v_6 := hd 6 (by decide) (by decide)
    simp only [List.cons_append, List.nil_append, factAt, List.getD_cons_zero, List.getD_cons_succ, Fx] at v_0 v_1 v_2 v_3 v_4 v_5 v_6
    obtain ⟨g, v_8, hG, hg⟩ := hd 8 (by decide) (by decide)
    obtain ⟨hG_0, hG_1, hG_2, hG_3, hG_4, hG_5, hG_6, hG_7, hG_8⟩ := hG.four
    obtain rfl := Option.some.inj ho
    simp only [List.take_succ_cons, List.take_zero, List.drop_succ_cons, List.drop_zero, putAll, Act.put, List.setIfInBounds_toArray, List.set_cons_succ, List.set_cons_zero, Nat.zero_add, Nat.reduceAdd]
    refine Gives.mk ?_
    go_simp
    exact ⟨Keep.refl _, rfl⟩
  simp only [List.take_succ_cons, List.take_zero, List.drop_succ_cons, List.drop_zero, putAll, Act.put, List.setIfInBounds_toArray, List.set_cons_succ, List.set_cons_zero, Nat.zero_add, Nat.reduceAdd]
  simp only [List.cons_append, List.nil_append]
  intro v w2 hk hh
  obtain ⟨hA_0, hA_1, hA_2, hA_3, hA_4, hA_5, hA_6, hA_7, hA_8⟩ := (hA.keep hk).four
  obtain ⟨hB_0, hB_1, hB_2, hB_3, hB_4, hB_5, hB_6, hB_7, hB_8⟩ := (hB.keep hk).four
  obtain ⟨hC_0, hC_1, hC_2, hC_3, hC_4, hC_5, hC_6, hC_7, hC_8⟩ := (hC.keep hk).four
  have hkz := hk.size
  simp only [Held, factAt, List.getD_cons_zero, List.getD_cons_succ, Fx, true_and] at hh
  obtain ⟨⟨⟨⟨⟨⟨⟨⟨v_0, v_1⟩, v_2⟩, v_3⟩, v_4⟩, v_5⟩, v_6⟩, v_7⟩, g, v_8, hG, hg⟩ := hh
  obtain ⟨hG_0, hG_1, hG_2, hG_3, hG_4, hG_5, hG_6, hG_7, hG_8⟩ := hG.four
  have zhA := hA.lt
  have zhB := hB.lt
  have zhC := hC.lt
  have zW := hW.size
  (go_wp2_with fail); (go_at_call 37); (refine (laws_eqQuery _ _ _ _ _).mono ?_); rintro e w3 ⟨rfl, hk3⟩
  go_wp2
  go_ret; exact ⟨rfl, (by ((repeat (first | (with_reducible assumption) | ((with_reducible refine Keep.setCell ?_ ?_ _); rotate_left; focus (first | omega | (simp; done) | (simp; omega))) | (with_reducible refine Keep.alloc ?_ _) | (with_reducible refine Keep.drewN ?_ _) | (with_reducible refine Keep.drew ?_) | (with_reducible exact Keep.refl _) | refine Keep.trans ?_ (by with_reducible assumption) | exact Keep.refl _ | assumption))))⟩
end Go.Proofs.Ytjgaacoikhonoaa

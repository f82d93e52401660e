/- The laws over masks. -/
import Derived.Test.YtpdeedjhldbadabM2
import Derived.Test.YtpdeedjhldbadabMono
set_option linter.unusedVariables false
set_option linter.unusedSimpArgs false
namespace Go.Proofs.Ytpdeedjhldbadab
open Go.RowKit
set_option maxHeartbeats 1000000
theorem laws_FnExactLessMask (a b c d : Wd) (w : World) :
    Calls Try.prog 3 #[.agg #[.int .u64 (U a), .int .u64 (U b)], .agg #[.int .u64 (U c), .int .u64 (U d)]] w fun e w' => e = .returned (.bool true) ∧ Keep w w' := by
  go_enter Try.func3, Try.ntmps3
  go_wp2_with fail
  refine wp_gen (fun W => Bx W w.heap.size #[.int .u64 (U a), .int .u64 (U b)] 23 ∧ Bx W (w.heap.size + 1) #[.int .u64 (U c), .int .u64 (U d)] 23 ∧ Keep w W) ⟨by simpa using (Bx.new _ _ _).alloc _, by simpa using Bx.new (w.alloc _) _ _, (by ((repeat (first | (with_reducible assumption) | ((with_reducible refine Keep.setCell ?_ ?_ _); rotate_left; focus (first | omega | (simp; done) | (simp; omega))) | (with_reducible refine Keep.alloc ?_ _) | (with_reducible refine Keep.drewN ?_ _) | (with_reducible refine Keep.drew ?_) | (with_reducible exact Keep.refl _) | refine Keep.trans ?_ (by with_reducible assumption) | exact Keep.refl _ | assumption))))⟩ ?_
  rintro W ⟨hA, hB, hW⟩
  refine wp_region_mono 6 [Fx (.agg #[.int .u64 (U a), .int .u64 (U b)]), Fx (.agg #[.int .u64 (U a), .int .u64 (U b)]), Fx (.agg #[.int .u64 (U c), .int .u64 (U d)]), Fx (.agg #[.int .u64 (U c), .int .u64 (U d)]), Fx (.agg #[.int .u64 (U (a &&& ~~~c)), .int .u64 (U (b &&& ~~~d))]), Al W.heap.size #[.int .u64 0, .int .u64 0] 24] (by kernel_rfl) (by kernel_rfl) (mono_of ⟨Fx.mono _, Fx.mono _, Fx.mono _, Fx.mono _, Fx.mono _, Al.mono _ _ _, trivial⟩) ?_ ?_
  focus
    simp only [List.take_succ_cons, List.take_zero, List.drop_succ_cons, List.drop_zero, putAll, Act.put, List.setIfInBounds_toArray, List.set_cons_succ, List.set_cons_zero, Nat.zero_add, Nat.reduceAdd]
    refine steps_cons ?_ (steps_cons ?_ (steps_cons ?_ (steps_cons ?_ (steps_cons ?_ (steps_cons ?_ steps_nil)))))
    all_goals
      intro v w2 hk hd
      obtain ⟨hA_0, hA_1, hA_2, hA_3, hA_4⟩ := (hA.keep hk).two
      obtain ⟨hB_0, hB_1, hB_2, hB_3, hB_4⟩ := (hB.keep hk).two
      have hkz := hk.size
      simp [DepsOf, factAt, Fx, Region.binds] at hd ⊢
      refine Gives.mk ?_
      go_simp
      first | exact Keep.refl _ | exact ⟨(Keep.refl _).alloc _, _, rfl, Bx.new _ _ _, by first | omega | (simp; omega)⟩ | (exact laws_toMask _ _ _) | (exact spec_LessMask _ _ _ _ _)
  simp only [List.take_succ_cons, List.take_zero, List.drop_succ_cons, List.drop_zero, putAll, Act.put, List.setIfInBounds_toArray, List.set_cons_succ, List.set_cons_zero, Nat.zero_add, Nat.reduceAdd]
  intro v w2 hk hh
  obtain ⟨hA_0, hA_1, hA_2, hA_3, hA_4⟩ := (hA.keep hk).two
  obtain ⟨hB_0, hB_1, hB_2, hB_3, hB_4⟩ := (hB.keep hk).two
  have hkz := hk.size
  simp only [Held, factAt, List.getD_cons_zero, List.getD_cons_succ, Fx, true_and] at hh
  obtain ⟨⟨⟨⟨⟨v_0, v_1⟩, v_2⟩, v_3⟩, v_4⟩, g, v_5, hG, hg⟩ := hh
  obtain ⟨hG_0, hG_1, hG_2, hG_3, hG_4⟩ := hG.two
  have zhA := hA.lt
  have zhB := hB.lt
  have zW := hW.size
  go_wp2_with fail
  simp only [v_0, v_1, v_2, v_3, v_4, v_5]
  refine wp_gen (fun W => Bx W (w.heap.size) #[.int .u64 (U a), .int .u64 (U b)] 23 ∧ Bx W (w.heap.size + 1) #[.int .u64 (U c), .int .u64 (U d)] 23 ∧ Bx W g #[.int .u64 (U (a &&& ~~~c)), .int .u64 (U (b &&& ~~~d))] 24 ∧ w.heap.size ≤ g ∧ Keep w W) ⟨((hA.keep hk).set' (by first | omega | (simp; omega)) _).set' (by first | omega | (simp; omega)) _, ((hB.keep hk).set' (by first | omega | (simp; omega)) _).set' (by first | omega | (simp; omega)) _, ((hG).set _).set _, by omega, (by ((repeat (first | (with_reducible assumption) | ((with_reducible refine Keep.setCell ?_ ?_ _); rotate_left; focus (first | omega | (simp; done) | (simp; omega))) | (with_reducible refine Keep.alloc ?_ _) | (with_reducible refine Keep.drewN ?_ _) | (with_reducible refine Keep.drew ?_) | (with_reducible exact Keep.refl _) | refine Keep.trans ?_ (by with_reducible assumption) | exact Keep.refl _ | assumption))))⟩ ?_
  clear v_0 v_1 v_2 v_3 v_4 v_5 hA_0 hA_1 hA_2 hA_3 hA_4 zhA hA hB_0 hB_1 hB_2 hB_3 hB_4 zhB hB hG_0 hG_1 hG_2 hG_3 hG_4 hG hg hk hkz zW hW v
  rintro W ⟨hA, hB, hC, hzhC, hW⟩
  refine wp_region_mono 6 [Fx (.agg #[.int .u64 (U a), .int .u64 (U b)]), Fx (.agg #[.int .u64 (U a), .int .u64 (U b)]), Fx (.agg #[.int .u64 (U c), .int .u64 (U d)]), Fx (.agg #[.int .u64 (U c), .int .u64 (U d)]), Fx (.agg #[.int .u64 (U (a &&& ~~~c)), .int .u64 (U (b &&& ~~~d))]), Al W.heap.size #[.int .u64 0, .int .u64 0] 24] (by kernel_rfl) (by kernel_rfl) (mono_of ⟨Fx.mono _, Fx.mono _, Fx.mono _, Fx.mono _, Fx.mono _, Al.mono _ _ _, trivial⟩) ?_ ?_
  focus
    simp only [List.take_succ_cons, List.take_zero, List.drop_succ_cons, List.drop_zero, putAll, Act.put, List.setIfInBounds_toArray, List.set_cons_succ, List.set_cons_zero, Nat.zero_add, Nat.reduceAdd]
    refine steps_cons ?_ (steps_cons ?_ (steps_cons ?_ (steps_cons ?_ (steps_cons ?_ (steps_cons ?_ steps_nil)))))
    all_goals
      intro v w2 hk hd
      obtain ⟨hA_0, hA_1, hA_2, hA_3, hA_4⟩ := (hA.keep hk).two
      obtain ⟨hB_0, hB_1, hB_2, hB_3, hB_4⟩ := (hB.keep hk).two
      obtain ⟨hC_0, hC_1, hC_2, hC_3, hC_4⟩ := (hC.keep hk).two
      have hkz := hk.size
      simp [DepsOf, factAt, Fx, Region.binds] at hd ⊢
      refine Gives.mk ?_
      go_simp
      first | exact Keep.refl _ | exact ⟨(Keep.refl _).alloc _, _, rfl, Bx.new _ _ _, by first | omega | (simp; omega)⟩ | (exact laws_toMask _ _ _) | (exact impl_LessMask _ _ _ _ _)
  simp only [List.take_succ_cons, List.take_zero, List.drop_succ_cons, List.drop_zero, putAll, Act.put, List.setIfInBounds_toArray, List.set_cons_succ, List.set_cons_zero, Nat.zero_add, Nat.reduceAdd]
  intro v w2 hk hh
  obtain ⟨hA_0, hA_1, hA_2, hA_3, hA_4⟩ := (hA.keep hk).two
  obtain ⟨hB_0, hB_1, hB_2, hB_3, hB_4⟩ := (hB.keep hk).two
  obtain ⟨hC_0, hC_1, hC_2, hC_3, hC_4⟩ := (hC.keep hk).two
  have hkz := hk.size
  simp only [Held, factAt, List.getD_cons_zero, List.getD_cons_succ, Fx, true_and] at hh
  obtain ⟨⟨⟨⟨⟨v_0, v_1⟩, v_2⟩, v_3⟩, v_4⟩, g, v_5, hG, hg⟩ := hh
  obtain ⟨hG_0, hG_1, hG_2, hG_3, hG_4⟩ := hG.two
  have zhA := hA.lt
  have zhB := hB.lt
  have zhC := hC.lt
  have zW := hW.size
  go_wp2_with (go_at_call 7; refine (laws_eqMask _ _ _ _ _).mono ?_; rintro e w3 ⟨rfl, hk3⟩)
  go_ret; exact ⟨rfl, (by ((repeat (first | (with_reducible assumption) | ((with_reducible refine Keep.setCell ?_ ?_ _); rotate_left; focus (first | omega | (simp; done) | (simp; omega))) | (with_reducible refine Keep.alloc ?_ _) | (with_reducible refine Keep.drewN ?_ _) | (with_reducible refine Keep.drew ?_) | (with_reducible exact Keep.refl _) | refine Keep.trans ?_ (by with_reducible assumption) | exact Keep.refl _ | assumption))))⟩
end Go.Proofs.Ytpdeedjhldbadab

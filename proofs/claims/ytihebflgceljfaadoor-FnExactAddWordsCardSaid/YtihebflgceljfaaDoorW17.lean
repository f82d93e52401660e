/- Words added to a mask: the law. -/
import Derived.Test.YtihebflgceljfaaDoorX9
import Derived.Test.YtihebflgceljfaaDoorW16
import Derived.Test.YtihebflgceljfaaDoorLateW
import Derived.Test.YtihebflgceljfaaDoorW3
set_option linter.unusedVariables false
set_option linter.unusedSimpArgs false
namespace Go.Proofs.YtihebflgceljfaaDoor
open Go.RowKit
set_option maxHeartbeats 4000000
set_option maxRecDepth 20000
theorem laws_FnExactAddWords (s z p : Int) (a b : Wd) (A : Option Addr) (l : List ByteArray) (c : Nat) (w : World) (hw : I16 s ∧ I16 z ∧ I16 p) (hl : l.length ≤ 9223372036854775807 ∧ Szs l ∧ Rd w A (strs l)) :
    Calls Tryd.prog 7 #[.agg #[.int .i16 s, .int .i16 z, .int .i16 p], .agg #[.int .u64 (U a), .int .u64 (U b)], .slice A l.length c] w fun e w' => e = .returned (.bool true) ∧ Keep w w' := by
  obtain ⟨hm, hz, hR⟩ := hl
  by_cases hn : (1048576 : Int) < (l.length + szSum l : Nat)
  · have e1 := szL_gt hn
    go_enter Tryd.func7, Tryd.ntmps7
    (go_wp2_with fail); (go_at_call 18); (refine (laws_szStringS _ _ _ 1048576 _ (by decide) hm hz (hR.keep (((Keep.refl _).alloc _).alloc _))).mono ?_); rintro e w1 ⟨rfl, hk1⟩
    rw [e1]
    go_wp2
    go_ret; exact ⟨rfl, (by ((repeat (first | (with_reducible assumption) | ((with_reducible refine Keep.setCell ?_ ?_ _); rotate_left; focus (first | omega | (simp; done) | (simp; omega))) | (with_reducible refine Keep.alloc ?_ _) | (with_reducible refine Keep.drewN ?_ _) | (with_reducible refine Keep.drew ?_) | (with_reducible exact Keep.refl _) | refine Keep.trans ?_ (by with_reducible assumption) | exact Keep.refl _ | assumption))))⟩
  · have e1 := szL_le hn
    have hn' : l.length ≤ 1048576 := by omega
    obtain ⟨T, hT⟩ := exMTim s z p
    have hI := fun A c W h => impl_AddWords s z p a b A l c T W hw hm hz h hT
    have hJ := fun A c W h => spec_AddWords s z p a b A l c T W hw hm hz h hT
    have hneg : ¬ ((1048576 : Int) - (l.length + szSum l : Nat) < 0) := by omega
    obtain ⟨left, hle⟩ : ∃ x, szL 1048576 l = x := ⟨_, rfl⟩
    have hl0 : ¬ left < 0 := by omega
    generalize adLo s z p a b T l = x at *
    generalize adHi s z p b T l = x2 at *
    generalize drE s z p b l = y at *
    clear hT e1 hneg hn
    go_enter Tryd.func7, Tryd.ntmps7
    (go_wp2_with fail); (go_at_call 18); (refine (laws_szStringS _ _ _ 1048576 _ (by decide) hm hz (hR.keep (((Keep.refl _).alloc _).alloc _))).mono ?_); rintro e w1 ⟨rfl, hk1⟩
    rw [hle]
    have hX : Bx w1 w.heap.size #[.int .i16 s, .int .i16 z, .int .i16 p] 28 := ((Bx.new _ _ _).alloc _).keep hk1
    have hM : Bx w1 (w.heap.size + 1) #[.int .u64 (U a), .int .u64 (U b)] 30 := (Bx.new1 _ _ _ _).keep hk1
    have k1 : Keep w w1 := (by ((repeat (first | (with_reducible assumption) | ((with_reducible refine Keep.setCell ?_ ?_ _); rotate_left; focus (first | omega | (simp; done) | (simp; omega))) | (with_reducible refine Keep.alloc ?_ _) | (with_reducible refine Keep.drewN ?_ _) | (with_reducible refine Keep.drew ?_) | (with_reducible exact Keep.refl _) | refine Keep.trans ?_ (by with_reducible assumption) | exact Keep.refl _ | assumption))))
    have hR1 := hR.keep k1
    clear hk1 hle hz
    go_wp2_with fail
    apply wp_region_lateW 11 9 5 [Fx _, Fx _, Fx _, Fx _, Fx _, Sl w1.heap.size l.length (strs l).toArray 9, Fx _, Fx _, Fx _, Fx _] (Al (w1.heap.size) #[.int .u64 0, .int .u64 0] 31) (Al (w1.heap.size) #[.int .u64 (U x), .int .u64 (U x2)] 31) (by kernel_rfl) (by kernel_rfl) rfl (by simp) ⟨Fx.free _, Fx.free _, Fx.free _, Fx.free _, Fx.free _, Sl.mono _ _ _ _, Fx.free _, Fx.free _, Fx.free _, Fx.free _, trivial⟩ (Al.mono _ _ _) (Al.mono _ _ _) ?st14 ?so14 ?la14 ?tl14
    case st14 =>
      simp only [List.take_succ_cons, List.take_zero, List.drop_succ_cons, List.drop_zero, putAll, Act.put, List.setIfInBounds_toArray, List.set_cons_succ, List.set_cons_zero, Nat.zero_add, Nat.reduceAdd]
      simp only [List.set_cons_succ, List.set_cons_zero, List.cons_append, List.nil_append]
      refine steps_cons ?_ (steps_cons ?_ (steps_cons ?_ (steps_cons ?_ (steps_cons ?_ (steps_cons ?_ (steps_cons ?_ (steps_cons ?_ (steps_cons ?_ (steps_cons ?_ (steps_cons ?_ steps_nil))))))))))
      all_goals
        intro v w2 hk hd
        obtain ⟨hX_0, hX_1, hX_2, hX_3, hX_4, hX_5, hX_6⟩ := (hX.keep hk).three
        obtain ⟨hM_0, hM_1, hM_2, hM_3, hM_4⟩ := (hM.keep hk).two
        have hkz := hk.size
        simp [DepsOf, factAt, Fx, Region.binds] at hd
        simp only [factAt, List.getD_cons_zero, List.getD_cons_succ]
        refine Gives.mk ?_
        go_simp
        first | exact ⟨Keep.refl _, Fx.self _ _⟩ | exact ⟨(Keep.refl _).alloc _, _, rfl, Bx.new _ _ _, by first | omega | (simp; omega)⟩ | (go_at_call 15; exact gives_fx (laws_toMix _ _ _ _)) | (go_at_call 34; exact gives_fx (laws_toMask _ _ _)) | ((go_at_call 20; exact toStringS_Sl _ _ _ _ _ hn' (hR1.keep hk) (by omega))) | ((obtain ⟨e1, e3, g, e5, hB, _⟩ := hd; rw [e5]; exact gives_fx (hJ _ _ _ (bx_rd hB))))
    case so14 =>
      intro v w2 hk hd o ho
      obtain ⟨hX_0, hX_1, hX_2, hX_3, hX_4, hX_5, hX_6⟩ := (hX.keep hk).three
      obtain ⟨hM_0, hM_1, hM_2, hM_3, hM_4⟩ := (hM.keep hk).two
      have hkz := hk.size
      have v_0 := hd 0 (by decide) (by decide)
      have v_1 := hd 1 (by decide) (by decide)
      have v_2 := hd 2 (by decide) (by decide)
      have v_3 := hd 3 (by decide) (by decide)
      have v_4 := hd 4 (by decide) (by decide)
      have v_6 := hd 6 (by decide) (by decide)
      have v_7 := hd 7 (by decide) (by decide)
      have v_8 := hd 8 (by decide) (by decide)
      simp only [List.set_cons_succ, List.set_cons_zero, List.cons_append, List.nil_append, factAt, List.getD_cons_zero, List.getD_cons_succ, Fx] at v_0 v_1 v_2 v_3 v_4 v_6 v_7 v_8
      obtain ⟨g, v_10, hG, hg⟩ := hd 10 (by decide) (by decide)
      obtain ⟨hG_0, hG_1, hG_2, hG_3, hG_4⟩ := hG.two
      obtain rfl := Option.some.inj ho
      simp only [List.take_succ_cons, List.take_zero, List.drop_succ_cons, List.drop_zero, putAll, Act.put, List.setIfInBounds_toArray, List.set_cons_succ, List.set_cons_zero, Nat.zero_add, Nat.reduceAdd]
      refine Gives.mk ?_
      go_simp
      exact ⟨(by ((repeat (first | (with_reducible assumption) | ((with_reducible refine Keep.setCell ?_ ?_ _); rotate_left; focus (first | omega | (simp; done) | (simp; omega))) | (with_reducible refine Keep.alloc ?_ _) | (with_reducible refine Keep.drewN ?_ _) | (with_reducible refine Keep.drew ?_) | (with_reducible exact Keep.refl _) | refine Keep.trans ?_ (by with_reducible assumption) | exact Keep.refl _ | assumption)))), g, (by first | rfl | assumption), ((hG).set _).set _, hg⟩
    case la14 =>
      intro v w2 hk hd o ho
      obtain ⟨hX_0, hX_1, hX_2, hX_3, hX_4, hX_5, hX_6⟩ := (hX.keep hk).three
      obtain ⟨hM_0, hM_1, hM_2, hM_3, hM_4⟩ := (hM.keep hk).two
      have hkz := hk.size
      have v_0 := hd 0 (by decide) (by decide)
      have v_1 := hd 1 (by decide) (by decide)
      have v_2 := hd 2 (by decide) (by decide)
      have v_3 := hd 3 (by decide) (by decide)
      have v_4 := hd 4 (by decide) (by decide)
      have v_6 := hd 6 (by decide) (by decide)
      have v_7 := hd 7 (by decide) (by decide)
      have v_8 := hd 8 (by decide) (by decide)
      simp only [List.set_cons_succ, List.set_cons_zero, List.cons_append, List.nil_append, factAt, List.getD_cons_zero, List.getD_cons_succ, Fx] at v_0 v_1 v_2 v_3 v_4 v_6 v_7 v_8
      obtain ⟨g, v_10, hG, hg⟩ := hd 10 (by decide) (by decide)
      obtain ⟨hG_0, hG_1, hG_2, hG_3, hG_4⟩ := hG.two
      obtain rfl := Option.some.inj ho
      simp only [List.take_succ_cons, List.take_zero, List.drop_succ_cons, List.drop_zero, putAll, Act.put, List.setIfInBounds_toArray, List.set_cons_succ, List.set_cons_zero, Nat.zero_add, Nat.reduceAdd]
      refine Gives.mk ?_
      go_simp
      exact ⟨Keep.refl _, rfl⟩
    simp only [List.take_succ_cons, List.take_zero, List.drop_succ_cons, List.drop_zero, putAll, Act.put, List.setIfInBounds_toArray, List.set_cons_succ, List.set_cons_zero, Nat.zero_add, Nat.reduceAdd]
    simp only [List.set_cons_succ, List.set_cons_zero, List.cons_append, List.nil_append]
    intro v w2 hk hh
    obtain ⟨hX_0, hX_1, hX_2, hX_3, hX_4, hX_5, hX_6⟩ := (hX.keep hk).three
    obtain ⟨hM_0, hM_1, hM_2, hM_3, hM_4⟩ := (hM.keep hk).two
    have hkz := hk.size
    simp only [Held, factAt, List.getD_cons_zero, List.getD_cons_succ, Fx, true_and] at hh
    obtain ⟨⟨⟨⟨⟨⟨⟨⟨⟨⟨v_0, v_1⟩, v_2⟩, v_3⟩, v_4⟩, v_5⟩, v_6⟩, v_7⟩, v_8⟩, v_9⟩, g, v_10, hG, hg⟩ := hh
    obtain ⟨hG_0, hG_1, hG_2, hG_3, hG_4⟩ := hG.two
    simp only [v_0, v_1, v_2, v_3, v_4, v_6, v_7, v_8, v_9, v_10]
    have hX2 := hX.keep hk
    have hM2 := hM.keep hk
    have hC2 := hG
    have k2 : Keep w w2 := Keep.trans k1 hk
    have hR2 := hR.keep k2
    clear hX hM hk hR1 hX_0 hX_1 hX_2 hX_3 hX_4 hX_5 hX_6 hM_0 hM_1 hM_2 hM_3 hM_4 v_5 hG hG_0 hG_1 hG_2 hG_3 hG_4 hkz
    (go_wp2_with fail); (go_at_call 20); (refine (laws_toStringS _ _ _ _ hn' hR2).mono ?_); rintro e w3 ⟨g3, rfl, ho3, hk3⟩
    have hX3 := hX2.keep hk3
    have hM3 := hM2.keep hk3
    have hC3 := hC2.keep hk3
    have hO3 := own_rds ho3
    have k3 : Keep w w3 := (by ((repeat (first | (with_reducible assumption) | ((with_reducible refine Keep.setCell ?_ ?_ _); rotate_left; focus (first | omega | (simp; done) | (simp; omega))) | (with_reducible refine Keep.alloc ?_ _) | (with_reducible refine Keep.drewN ?_ _) | (with_reducible refine Keep.drew ?_) | (with_reducible exact Keep.refl _) | refine Keep.trans ?_ (by with_reducible assumption) | exact Keep.refl _ | assumption))))
    have hR3 := hR.keep k3
    clear hX2 hM2 hC2 hk3 k2 hR2 ho3
    go_wp2_with fail
    apply wp_region_late 10 8 [Fx _, Fx _, Fx _, Fx _, Fx _, Fx _, Fx _, Fx _, Fx _] (Al (w3.heap.size) #[.int .u64 0, .int .u64 0] 31) (Al (w3.heap.size) #[.int .u64 (U x), .int .u64 (U x2)] 31) (by kernel_rfl) (by kernel_rfl) rfl (by simp) ⟨Fx.free _, Fx.free _, Fx.free _, Fx.free _, Fx.free _, Fx.free _, Fx.free _, Fx.free _, Fx.free _, trivial⟩ (Al.mono _ _ _) (Al.mono _ _ _) ?st13 ?so13 ?la13 ?tl13
    case st13 =>
      simp only [List.take_succ_cons, List.take_zero, List.drop_succ_cons, List.drop_zero, putAll, Act.put, List.setIfInBounds_toArray, List.set_cons_succ, List.set_cons_zero, Nat.zero_add, Nat.reduceAdd]
      simp only [List.cons_append, List.nil_append]
      refine steps_cons ?_ (steps_cons ?_ (steps_cons ?_ (steps_cons ?_ (steps_cons ?_ (steps_cons ?_ (steps_cons ?_ (steps_cons ?_ (steps_cons ?_ (steps_cons ?_ steps_nil)))))))))
      all_goals
        intro v w2 hk hd
        obtain ⟨hX3_0, hX3_1, hX3_2, hX3_3, hX3_4, hX3_5, hX3_6⟩ := (hX3.keep hk).three
        obtain ⟨hM3_0, hM3_1, hM3_2, hM3_3, hM3_4⟩ := (hM3.keep hk).two
        obtain ⟨hC3_0, hC3_1, hC3_2, hC3_3, hC3_4⟩ := (hC3.keep hk).two
        have hkz := hk.size
        simp [DepsOf, factAt, Fx, Region.binds] at hd
        simp only [factAt, List.getD_cons_zero, List.getD_cons_succ]
        refine Gives.mk ?_
        go_simp
        first | exact ⟨Keep.refl _, Fx.self _ _⟩ | exact ⟨(Keep.refl _).alloc _, _, rfl, Bx.new _ _ _, by first | omega | (simp; omega)⟩ | (go_at_call 15; exact gives_fx (laws_toMix _ _ _ _)) | (go_at_call 34; exact gives_fx (laws_toMask _ _ _)) | (go_at_call 35; exact gives_fx (hI _ _ _ (hO3.keep hk)))
    case so13 =>
      intro v w2 hk hd o ho
      obtain ⟨hX3_0, hX3_1, hX3_2, hX3_3, hX3_4, hX3_5, hX3_6⟩ := (hX3.keep hk).three
      obtain ⟨hM3_0, hM3_1, hM3_2, hM3_3, hM3_4⟩ := (hM3.keep hk).two
      obtain ⟨hC3_0, hC3_1, hC3_2, hC3_3, hC3_4⟩ := (hC3.keep hk).two
      have hkz := hk.size
      have v_0 := hd 0 (by decide) (by decide)
      have v_1 := hd 1 (by decide) (by decide)
      have v_2 := hd 2 (by decide) (by decide)
      have v_3 := hd 3 (by decide) (by decide)
      have v_4 := hd 4 (by decide) (by decide)
      have v_5 := hd 5 (by decide) (by decide)
      have v_6 := hd 6 (by decide) (by decide)
      have v_7 := hd 7 (by decide) (by decide)
      simp only [List.cons_append, List.nil_append, factAt, List.getD_cons_zero, List.getD_cons_succ, Fx] at v_0 v_1 v_2 v_3 v_4 v_5 v_6 v_7
      obtain ⟨g, v_9, hG, hg⟩ := hd 9 (by decide) (by decide)
      obtain ⟨hG_0, hG_1, hG_2, hG_3, hG_4⟩ := hG.two
      obtain rfl := Option.some.inj ho
      simp only [List.take_succ_cons, List.take_zero, List.drop_succ_cons, List.drop_zero, putAll, Act.put, List.setIfInBounds_toArray, List.set_cons_succ, List.set_cons_zero, Nat.zero_add, Nat.reduceAdd]
      refine Gives.mk ?_
      go_simp
      exact ⟨(by ((repeat (first | (with_reducible assumption) | ((with_reducible refine Keep.setCell ?_ ?_ _); rotate_left; focus (first | omega | (simp; done) | (simp; omega))) | (with_reducible refine Keep.alloc ?_ _) | (with_reducible refine Keep.drewN ?_ _) | (with_reducible refine Keep.drew ?_) | (with_reducible exact Keep.refl _) | refine Keep.trans ?_ (by with_reducible assumption) | exact Keep.refl _ | assumption)))), g, (by first | rfl | assumption), ((hG).set _).set _, hg⟩
    case la13 =>
      intro v w2 hk hd o ho
      obtain ⟨hX3_0, hX3_1, hX3_2, hX3_3, hX3_4, hX3_5, hX3_6⟩ := (hX3.keep hk).three
      obtain ⟨hM3_0, hM3_1, hM3_2, hM3_3, hM3_4⟩ := (hM3.keep hk).two
      obtain ⟨hC3_0, hC3_1, hC3_2, hC3_3, hC3_4⟩ := (hC3.keep hk).two
      have hkz := hk.size
      have v_0 := hd 0 (by decide) (by decide)
      have v_1 := hd 1 (by decide) (by decide)
      have v_2 := hd 2 (by decide) (by decide)
      have v_3 := hd 3 (by decide) (by decide)
      have v_4 := hd 4 (by decide) (by decide)
      have v_5 := hd 5 (by decide) (by decide)
      have v_6 := hd 6 (by decide) (by decide)
      have v_7 := hd 7 (by decide) (by decide)
      simp only [List.cons_append, List.nil_append, factAt, List.getD_cons_zero, List.getD_cons_succ, Fx] at v_0 v_1 v_2 v_3 v_4 v_5 v_6 v_7
      obtain ⟨g, v_9, hG, hg⟩ := hd 9 (by decide) (by decide)
      obtain ⟨hG_0, hG_1, hG_2, hG_3, hG_4⟩ := hG.two
      obtain rfl := Option.some.inj ho
      simp only [List.take_succ_cons, List.take_zero, List.drop_succ_cons, List.drop_zero, putAll, Act.put, List.setIfInBounds_toArray, List.set_cons_succ, List.set_cons_zero, Nat.zero_add, Nat.reduceAdd]
      refine Gives.mk ?_
      go_simp
      exact ⟨Keep.refl _, rfl⟩
    simp only [List.take_succ_cons, List.take_zero, List.drop_succ_cons, List.drop_zero, putAll, Act.put, List.setIfInBounds_toArray, List.set_cons_succ, List.set_cons_zero, Nat.zero_add, Nat.reduceAdd]
    simp only [List.cons_append, List.nil_append]
    intro v w2 hk hh
    obtain ⟨hX3_0, hX3_1, hX3_2, hX3_3, hX3_4, hX3_5, hX3_6⟩ := (hX3.keep hk).three
    obtain ⟨hM3_0, hM3_1, hM3_2, hM3_3, hM3_4⟩ := (hM3.keep hk).two
    obtain ⟨hC3_0, hC3_1, hC3_2, hC3_3, hC3_4⟩ := (hC3.keep hk).two
    have hkz := hk.size
    simp only [Held, factAt, List.getD_cons_zero, List.getD_cons_succ, Fx, true_and] at hh
    obtain ⟨⟨⟨⟨⟨⟨⟨⟨⟨v_0, v_1⟩, v_2⟩, v_3⟩, v_4⟩, v_5⟩, v_6⟩, v_7⟩, v_8⟩, g, v_9, hG, hg⟩ := hh
    obtain ⟨hG_0, hG_1, hG_2, hG_3, hG_4⟩ := hG.two
    simp only [v_0, v_1, v_2, v_3, v_4, v_5, v_6, v_7, v_8, v_9]
    have hO4 := hO3.keep hk
    have hR4 := hR3.keep hk
    have hC4 := hC3.keep hk
    have k4 : Keep w w2 := Keep.trans k3 hk
    clear hX3 hM3 hC3 hk hO3 hR3 k3 hX3_0 hX3_1 hX3_2 hX3_3 hX3_4 hX3_5 hX3_6 hM3_0 hM3_1 hM3_2 hM3_3 hM3_4 hkz
    (go_wp2_with fail); (go_at_call 17); (refine (laws_eqMask_self _ _ _).mono ?_); rintro e w4 ⟨rfl, hk4⟩
    have hO5 := hO4.keep hk4
    have hR5 := hR4.keep hk4
    have k5 : Keep w w4 := (by ((repeat (first | (with_reducible assumption) | ((with_reducible refine Keep.setCell ?_ ?_ _); rotate_left; focus (first | omega | (simp; done) | (simp; omega))) | (with_reducible refine Keep.alloc ?_ _) | (with_reducible refine Keep.drewN ?_ _) | (with_reducible refine Keep.drew ?_) | (with_reducible exact Keep.refl _) | refine Keep.trans ?_ (by with_reducible assumption) | exact Keep.refl _ | assumption))))
    clear hO4 hR4 hC4 hk4 k4 hG
    (go_wp2_with fail); (go_at_call 20); (refine (laws_toStringS _ _ _ _ hn' hR5).mono ?_); rintro e w5 ⟨g5, rfl, ho5, hk5⟩
    have hO6 := hO5.keep hk5
    have hP6 := own_rds ho5
    have k6 : Keep w w5 := (by ((repeat (first | (with_reducible assumption) | ((with_reducible refine Keep.setCell ?_ ?_ _); rotate_left; focus (first | omega | (simp; done) | (simp; omega))) | (with_reducible refine Keep.alloc ?_ _) | (with_reducible refine Keep.drewN ?_ _) | (with_reducible refine Keep.drew ?_) | (with_reducible exact Keep.refl _) | refine Keep.trans ?_ (by with_reducible assumption) | exact Keep.refl _ | assumption))))
    clear hO5 hR5 hk5 ho5 k5
    (go_wp2_with fail); (go_at_call 22); (refine (laws_eqStringS _ _ _ _ _ _ hn' hO6 hP6).mono ?_); rintro e w6 ⟨rfl, hk6⟩
    go_wp2
    go_ret; exact ⟨rfl, (by ((repeat (first | (with_reducible assumption) | ((with_reducible refine Keep.setCell ?_ ?_ _); rotate_left; focus (first | omega | (simp; done) | (simp; omega))) | (with_reducible refine Keep.alloc ?_ _) | (with_reducible refine Keep.drewN ?_ _) | (with_reducible refine Keep.drew ?_) | (with_reducible exact Keep.refl _) | refine Keep.trans ?_ (by with_reducible assumption) | exact Keep.refl _ | assumption))))⟩
end Go.Proofs.YtihebflgceljfaaDoor

/- Drops by words: the law. -/
import Derived.Test.YtihebflgceljfaaDoorX8
set_option linter.unusedVariables false
set_option linter.unusedSimpArgs false
namespace Go.Proofs.YtihebflgceljfaaDoor
open Go.RowKit
set_option maxHeartbeats 4000000
set_option maxRecDepth 20000
theorem own_bx {w : World} {base g n : Nat} {e : TypeId} {xs : List Value} (h : w.ownsRow base e 1 (.slice (some ⟨g, 0, none⟩) n n) n xs) : Bx w g xs.toArray e ∧ base ≤ g := by
  rcases h.2 with ⟨h1, _⟩ | ⟨g', cap, cur, h1, h2, h3, h4, h5, h6, h7⟩
  · simp at h1
  · simp only [Value.slice.injEq, Option.some.injEq, Addr.mk.injEq, and_true] at h1
    obtain ⟨rfl, _, rfl⟩ := h1
    rw [List.take_of_length_le (by rw [Array.length_toList]; omega)] at h7
    subst h7
    exact ⟨by simpa using h3, h2⟩
theorem bx_rd {w : World} {g : Nat} {xs : List Value} {T : TypeId} (h : Bx w g xs.toArray T) : Rd w (some ⟨g, 0, none⟩) xs := by
  refine .inr ⟨g, 0, rfl, fun j v hj => ?_⟩
  rw [h.cell]
  simpa using hj
theorem toStringS_Sl (A : Option Addr) (l : List ByteArray) (c B : Nat) (w : World) (hn : l.length ≤ 1048576) (hR : Rd w A (strs l)) (hB : B ≤ w.heap.size) :
    Calls Tryd.prog 20 #[.slice A l.length c] w fun e w' => ∃ u, e = .returned u ∧ Keep w w' ∧ Sl B l.length (strs l).toArray 9 u w' := by
  refine (laws_toStringS A l c w hn hR).mono ?_
  rintro e w' ⟨g, rfl, ho, hk⟩
  obtain ⟨h1, h2⟩ := own_bx ho
  exact ⟨_, rfl, hk, g, rfl, h1, Nat.le_trans hB h2⟩
theorem laws_FnExactDrops (s z p : Int) (a b : Wd) (A : Option Addr) (l : List ByteArray) (c : Nat) (w : World) (hw : I16 s ∧ I16 z ∧ I16 p) (hl : l.length ≤ 9223372036854775807 ∧ Szs l ∧ Rd w A (strs l)) :
    Calls Tryd.prog 8 #[.agg #[.int .i16 s, .int .i16 z, .int .i16 p], .agg #[.int .u64 (U a), .int .u64 (U b)], .slice A l.length c] w fun e w' => e = .returned (.bool true) ∧ Keep w w' := by
  obtain ⟨hm, hz, hR⟩ := hl
  by_cases hn : (1048576 : Int) < (l.length + szSum l : Nat)
  · have e1 := szL_gt hn
    go_enter Tryd.func8, Tryd.ntmps8
    (go_wp2_with fail); (go_at_call 18); (refine (laws_szStringS _ _ _ 1048576 _ (by decide) hm hz (hR.keep (((Keep.refl _).alloc _).alloc _))).mono ?_); rintro e w1 ⟨rfl, hk1⟩
    rw [e1]
    go_wp2
    go_ret; exact ⟨rfl, (by ((repeat (first | (with_reducible assumption) | ((with_reducible refine Keep.setCell ?_ ?_ _); rotate_left; focus (first | omega | (simp; done) | (simp; omega))) | (with_reducible refine Keep.alloc ?_ _) | (with_reducible refine Keep.drewN ?_ _) | (with_reducible refine Keep.drew ?_) | (with_reducible exact Keep.refl _) | refine Keep.trans ?_ (by with_reducible assumption) | exact Keep.refl _ | assumption))))⟩
  · have e1 := szL_le hn
    have hn' : l.length ≤ 1048576 := by omega
    obtain ⟨T, hT⟩ := exMTim s z p
    have hI := fun A c W h => impl_Drops s z p a b A l c T W hw hm hz h hT
    have hJ := fun A c W h => spec_Drops s z p a b A l c T W hw hm hz h hT
    have hneg : ¬ ((1048576 : Int) - (l.length + szSum l : Nat) < 0) := by omega
    obtain ⟨left, hle⟩ : ∃ x, szL 1048576 l = x := ⟨_, rfl⟩
    have hl0 : ¬ left < 0 := by omega
    generalize drB s z p a b T l = x at *
    generalize drE s z p b l = y at *
    clear hT e1 hneg hn
    go_enter Tryd.func8, Tryd.ntmps8
    (go_wp2_with fail); (go_at_call 18); (refine (laws_szStringS _ _ _ 1048576 _ (by decide) hm hz (hR.keep (((Keep.refl _).alloc _).alloc _))).mono ?_); rintro e w1 ⟨rfl, hk1⟩
    rw [hle]
    have hX : Bx w1 w.heap.size #[.int .i16 s, .int .i16 z, .int .i16 p] 28 := ((Bx.new _ _ _).alloc _).keep hk1
    have hM : Bx w1 (w.heap.size + 1) #[.int .u64 (U a), .int .u64 (U b)] 30 := (Bx.new1 _ _ _ _).keep hk1
    have k1 : Keep w w1 := (by ((repeat (first | (with_reducible assumption) | ((with_reducible refine Keep.setCell ?_ ?_ _); rotate_left; focus (first | omega | (simp; done) | (simp; omega))) | (with_reducible refine Keep.alloc ?_ _) | (with_reducible refine Keep.drewN ?_ _) | (with_reducible refine Keep.drew ?_) | (with_reducible exact Keep.refl _) | refine Keep.trans ?_ (by with_reducible assumption) | exact Keep.refl _ | assumption))))
    have hR1 := hR.keep k1
    clear hk1 hle hz
    go_wp2_with fail
    apply wp_region_mono 12 [Fx _, Fx _, Fx _, Fx _, Fx _, Sl w1.heap.size l.length (strs l).toArray 9, Fx _, Fx _, Fx _, Fx _, Fx _, Fx _] (by kernel_rfl) (by kernel_rfl) (mono_of ⟨Fx.mono _, Fx.mono _, Fx.mono _, Fx.mono _, Fx.mono _, Sl.mono _ _ _ _, Fx.mono _, Fx.mono _, Fx.mono _, Fx.mono _, Fx.mono _, Fx.mono _, trivial⟩) ?st11 ?tl11
    case st11 =>
      simp only [List.take_succ_cons, List.take_zero, List.drop_succ_cons, List.drop_zero, putAll, Act.put, List.setIfInBounds_toArray, List.set_cons_succ, List.set_cons_zero, Nat.zero_add, Nat.reduceAdd]
      refine steps_cons ?_ (steps_cons ?_ (steps_cons ?_ (steps_cons ?_ (steps_cons ?_ (steps_cons ?_ (steps_cons ?_ (steps_cons ?_ (steps_cons ?_ (steps_cons ?_ (steps_cons ?_ (steps_cons ?_ steps_nil)))))))))))
      all_goals
        intro v w2 hk hd
        obtain ⟨hX_0, hX_1, hX_2, hX_3, hX_4, hX_5, hX_6⟩ := (hX.keep hk).three
        obtain ⟨hM_0, hM_1, hM_2, hM_3, hM_4⟩ := (hM.keep hk).two
        have hkz := hk.size
        simp [DepsOf, factAt, Fx, Region.binds] at hd
        simp only [factAt, List.getD_cons_zero, List.getD_cons_succ]
        refine Gives.mk ?_
        go_simp
        first | exact ⟨Keep.refl _, Fx.self _ _⟩ | exact ⟨(Keep.refl _).alloc _, _, rfl, Bx.new _ _ _, by first | omega | (simp; omega)⟩ | (go_at_call 15; exact gives_fx (laws_toMix _ _ _ _)) | (go_at_call 34; exact gives_fx (laws_toMask _ _ _)) | ((go_at_call 20; exact toStringS_Sl _ _ _ _ _ hn' (hR1.keep hk) (by omega))) | ((obtain ⟨e1, e3, g, e5, hB, _⟩ := hd; rw [e5]; exact gives_fx (hJ _ _ _ (bx_rd hB))))
    simp only [List.take_succ_cons, List.take_zero, List.drop_succ_cons, List.drop_zero, putAll, Act.put, List.setIfInBounds_toArray, List.set_cons_succ, List.set_cons_zero, Nat.zero_add, Nat.reduceAdd]
    intro v w2 hk hh
    obtain ⟨hX_0, hX_1, hX_2, hX_3, hX_4, hX_5, hX_6⟩ := (hX.keep hk).three
    obtain ⟨hM_0, hM_1, hM_2, hM_3, hM_4⟩ := (hM.keep hk).two
    have hkz := hk.size
    simp only [Held, factAt, List.getD_cons_zero, List.getD_cons_succ, Fx, true_and] at hh
    obtain ⟨⟨⟨⟨⟨⟨⟨⟨⟨⟨⟨v_0, v_1⟩, v_2⟩, v_3⟩, v_4⟩, g5, v_5, hG5, hg5⟩, v_6⟩, v_7⟩, v_8⟩, v_9⟩, v_10⟩, v_11⟩ := hh
    simp only [v_0, v_1, v_2, v_3, v_4, v_5, v_6, v_7, v_8, v_9, v_10, v_11]
    have hX2 := hX.keep hk
    have hM2 := hM.keep hk
    have k2 : Keep w w2 := Keep.trans k1 hk
    have hR2 := hR.keep k2
    clear hX hM hk hR1 hG5 hg5 hX_0 hX_1 hX_2 hX_3 hX_4 hX_5 hX_6 hM_0 hM_1 hM_2 hM_3 hM_4 v_5
    clear hkz
    (go_wp2_with fail); (go_at_call 20); (refine (laws_toStringS _ _ _ _ hn' hR2).mono ?_); rintro e w3 ⟨g3, rfl, ho3, hk3⟩
    have hX3 := hX2.keep hk3
    have hM3 := hM2.keep hk3
    have hO3 := own_rds ho3
    have k3 : Keep w w3 := (by ((repeat (first | (with_reducible assumption) | ((with_reducible refine Keep.setCell ?_ ?_ _); rotate_left; focus (first | omega | (simp; done) | (simp; omega))) | (with_reducible refine Keep.alloc ?_ _) | (with_reducible refine Keep.drewN ?_ _) | (with_reducible refine Keep.drew ?_) | (with_reducible exact Keep.refl _) | refine Keep.trans ?_ (by with_reducible assumption) | exact Keep.refl _ | assumption))))
    have hR3 := hR.keep k3
    clear hX2 hM2 hk3 k2 hR2 ho3
    go_wp2_with fail
    apply wp_region_mono 11 [Fx _, Fx _, Fx _, Fx _, Fx _, Fx _, Fx _, Fx _, Fx _, Fx _, Fx _] (by kernel_rfl) (by kernel_rfl) (mono_of ⟨Fx.mono _, Fx.mono _, Fx.mono _, Fx.mono _, Fx.mono _, Fx.mono _, Fx.mono _, Fx.mono _, Fx.mono _, Fx.mono _, Fx.mono _, trivial⟩) ?st12 ?tl12
    case st12 =>
      simp only [List.take_succ_cons, List.take_zero, List.drop_succ_cons, List.drop_zero, putAll, Act.put, List.setIfInBounds_toArray, List.set_cons_succ, List.set_cons_zero, Nat.zero_add, Nat.reduceAdd]
      refine steps_cons ?_ (steps_cons ?_ (steps_cons ?_ (steps_cons ?_ (steps_cons ?_ (steps_cons ?_ (steps_cons ?_ (steps_cons ?_ (steps_cons ?_ (steps_cons ?_ (steps_cons ?_ steps_nil))))))))))
      all_goals
        intro v w2 hk hd
        obtain ⟨hX3_0, hX3_1, hX3_2, hX3_3, hX3_4, hX3_5, hX3_6⟩ := (hX3.keep hk).three
        obtain ⟨hM3_0, hM3_1, hM3_2, hM3_3, hM3_4⟩ := (hM3.keep hk).two
        have hkz := hk.size
        simp [DepsOf, factAt, Fx, Region.binds] at hd
        simp only [factAt, List.getD_cons_zero, List.getD_cons_succ]
        refine Gives.mk ?_
        go_simp
        first | exact ⟨Keep.refl _, Fx.self _ _⟩ | exact ⟨(Keep.refl _).alloc _, _, rfl, Bx.new _ _ _, by first | omega | (simp; omega)⟩ | (go_at_call 15; exact gives_fx (laws_toMix _ _ _ _)) | (go_at_call 34; exact gives_fx (laws_toMask _ _ _)) | (go_at_call 37; exact gives_fx (hI _ _ _ (hO3.keep hk)))
    simp only [List.take_succ_cons, List.take_zero, List.drop_succ_cons, List.drop_zero, putAll, Act.put, List.setIfInBounds_toArray, List.set_cons_succ, List.set_cons_zero, Nat.zero_add, Nat.reduceAdd]
    intro v w2 hk hh
    obtain ⟨hX3_0, hX3_1, hX3_2, hX3_3, hX3_4, hX3_5, hX3_6⟩ := (hX3.keep hk).three
    obtain ⟨hM3_0, hM3_1, hM3_2, hM3_3, hM3_4⟩ := (hM3.keep hk).two
    have hkz := hk.size
    simp only [Held, factAt, List.getD_cons_zero, List.getD_cons_succ, Fx, true_and] at hh
    obtain ⟨⟨⟨⟨⟨⟨⟨⟨⟨⟨v_0, v_1⟩, v_2⟩, v_3⟩, v_4⟩, v_5⟩, v_6⟩, v_7⟩, v_8⟩, v_9⟩, v_10⟩ := hh
    simp only [v_0, v_1, v_2, v_3, v_4, v_5, v_6, v_7, v_8, v_9, v_10]
    have hO4 := hO3.keep hk
    have hR4 := hR3.keep hk
    have k4 : Keep w w2 := Keep.trans k3 hk
    clear hX3 hM3 hk hO3 hR3 k3 hX3_0 hX3_1 hX3_2 hX3_3 hX3_4 hX3_5 hX3_6 hM3_0 hM3_1 hM3_2 hM3_3 hM3_4 hkz
    (go_wp2_with fail); (go_at_call 20); (refine (laws_toStringS _ _ _ _ hn' hR4).mono ?_); rintro e w5 ⟨g5, rfl, ho5, hk5⟩
    have hO5 := hO4.keep hk5
    have hP5 := own_rds ho5
    have k5 : Keep w w5 := (by ((repeat (first | (with_reducible assumption) | ((with_reducible refine Keep.setCell ?_ ?_ _); rotate_left; focus (first | omega | (simp; done) | (simp; omega))) | (with_reducible refine Keep.alloc ?_ _) | (with_reducible refine Keep.drewN ?_ _) | (with_reducible refine Keep.drew ?_) | (with_reducible exact Keep.refl _) | refine Keep.trans ?_ (by with_reducible assumption) | exact Keep.refl _ | assumption))))
    clear hO4 hR4 hk5 ho5 k4
    (go_wp2_with fail); (go_at_call 22); (refine (laws_eqStringS _ _ _ _ _ _ hn' hO5 hP5).mono ?_); rintro e w6 ⟨rfl, hk6⟩
    go_wp2
    go_ret; exact ⟨rfl, (by ((repeat (first | (with_reducible assumption) | ((with_reducible refine Keep.setCell ?_ ?_ _); rotate_left; focus (first | omega | (simp; done) | (simp; omega))) | (with_reducible refine Keep.alloc ?_ _) | (with_reducible refine Keep.drewN ?_ _) | (with_reducible refine Keep.drew ?_) | (with_reducible exact Keep.refl _) | refine Keep.trans ?_ (by with_reducible assumption) | exact Keep.refl _ | assumption))))⟩
end Go.Proofs.YtihebflgceljfaaDoor

/- The laws of what is told by a truth value and a code. -/
import Derived.Test.YtpdeedjhldbadaaQ1
import Derived.Test.YtpdeedjhldbadaaM4
import Derived.Test.YtpdeedjhldbadaaMono
set_option linter.unusedVariables false
set_option linter.unusedSimpArgs false
namespace Go.Proofs.Ytpdeedjhldbadaa
open Go.RowKit
set_option maxHeartbeats 1000000
theorem laws_toMix (s z p : Int) (w : World) :
    Calls Try.prog 17 #[.agg #[.int .i16 s, .int .i16 z, .int .i16 p]] w fun e w' => e = .returned (.agg #[.int .i16 s, .int .i16 z, .int .i16 p]) ∧ Keep w w' := by
  go_enter Try.func17, Try.ntmps17
  go_wp2
  (apply bodyPost_ret; rotate_left; rfl; exact ⟨rfl, (by ((repeat (first | (with_reducible assumption) | ((with_reducible refine Keep.setCell ?_ ?_ _); rotate_left; focus (first | omega | (simp; done) | (simp; omega))) | (with_reducible refine Keep.alloc ?_ _) | (with_reducible refine Keep.drewN ?_ _) | (with_reducible refine Keep.drew ?_) | (with_reducible exact Keep.refl _) | refine Keep.trans ?_ (by with_reducible assumption) | exact Keep.refl _ | assumption))))⟩; simp [results, Try.results17, go_sem, U_zero, *])
theorem laws_FnExactValidMask (a b : Wd) (w : World) :
    Calls Try.prog 4 #[.agg #[.int .u64 (U a), .int .u64 (U b)]] w fun e w' => e = .returned (.bool true) ∧ Keep w w' := by
  go_enter Try.func4, Try.ntmps4
  (go_wp2_with fail); (go_at_call 10); (refine (laws_toMask _ _ _).mono ?_); rintro e w1 ⟨rfl, hk1⟩
  have hA := (Bx.new w #[.int .u64 (U a), .int .u64 (U b)] 24).keep hk1
  have k1 : Keep w w1 := (by ((repeat (first | (with_reducible assumption) | ((with_reducible refine Keep.setCell ?_ ?_ _); rotate_left; focus (first | omega | (simp; done) | (simp; omega))) | (with_reducible refine Keep.alloc ?_ _) | (with_reducible refine Keep.drewN ?_ _) | (with_reducible refine Keep.drew ?_) | (with_reducible exact Keep.refl _) | refine Keep.trans ?_ (by with_reducible assumption) | exact Keep.refl _ | assumption))))
  clear hk1
  have hAs := hA.two
  (go_wp2_with fail); (go_at_call 9); (refine (spec_ValidMask _ _ _).mono ?_); rintro e w2 ⟨rfl, hk2⟩
  have hA2 := hA.keep hk2
  have k2 : Keep w w2 := (by ((repeat (first | (with_reducible assumption) | ((with_reducible refine Keep.setCell ?_ ?_ _); rotate_left; focus (first | omega | (simp; done) | (simp; omega))) | (with_reducible refine Keep.alloc ?_ _) | (with_reducible refine Keep.drewN ?_ _) | (with_reducible refine Keep.drew ?_) | (with_reducible exact Keep.refl _) | refine Keep.trans ?_ (by with_reducible assumption) | exact Keep.refl _ | assumption))))
  clear hAs hA hk2 k1
  have hAs := hA2.two
  (go_wp2_with fail); (go_at_call 10); (refine (laws_toMask _ _ _).mono ?_); rintro e w3 ⟨rfl, hk3⟩
  (go_wp2_with fail); (go_at_call 11); (refine (impl_ValidMask _ _ _).mono ?_); rintro e w4 ⟨rfl, hk4⟩
  go_wp2
  go_ret; exact ⟨rfl, (by ((repeat (first | (with_reducible assumption) | ((with_reducible refine Keep.setCell ?_ ?_ _); rotate_left; focus (first | omega | (simp; done) | (simp; omega))) | (with_reducible refine Keep.alloc ?_ _) | (with_reducible refine Keep.drewN ?_ _) | (with_reducible refine Keep.drew ?_) | (with_reducible exact Keep.refl _) | refine Keep.trans ?_ (by with_reducible assumption) | exact Keep.refl _ | assumption))))⟩
theorem laws_FnExactIsWithin (a b c d : Wd) (w : World) :
    Calls Try.prog 6 #[.agg #[.int .u64 (U a), .int .u64 (U b)], .agg #[.int .u64 (U c), .int .u64 (U d)]] w fun e w' => e = .returned (.bool true) ∧ Keep w w' := by
  go_enter Try.func6, Try.ntmps6
  go_wp2_with fail
  refine wp_gen (fun W => Bx W w.heap.size #[.int .u64 (U a), .int .u64 (U b)] 24 ∧ Bx W (w.heap.size + 1) #[.int .u64 (U c), .int .u64 (U d)] 24 ∧ Keep w W) ⟨by simpa using (Bx.new _ _ _).alloc _, by simpa using Bx.new (w.alloc _) _ _, (by ((repeat (first | (with_reducible assumption) | ((with_reducible refine Keep.setCell ?_ ?_ _); rotate_left; focus (first | omega | (simp; done) | (simp; omega))) | (with_reducible refine Keep.alloc ?_ _) | (with_reducible refine Keep.drewN ?_ _) | (with_reducible refine Keep.drew ?_) | (with_reducible exact Keep.refl _) | refine Keep.trans ?_ (by with_reducible assumption) | exact Keep.refl _ | assumption))))⟩ ?_
  rintro W ⟨hA, hB, hW⟩
  refine wp_region_keep (by kernel_rfl) (by kernel_rfl) ?_
  repeat
    first
      | (apply QuietL.run
         focus go_simp
         focus
           intro w2 hk
           obtain ⟨hA_0, hA_1, hA_2, hA_3, hA_4⟩ := (hA.keep hk).two
           obtain ⟨hB_0, hB_1, hB_2, hB_3, hB_4⟩ := (hB.keep hk).two
           apply QAt.mk
           go_simp
           first
             | done
             | exact rfl
             | (go_at_call 10; exact quiet_call hk (laws_toMask _ _ _))
             | (go_at_call 14; exact quiet_call hk (spec_IsWithin _ _ _ _ _))
         simp only [Act.put, List.setIfInBounds_toArray, List.set_cons_succ, List.set_cons_zero])
      | (apply QuietL.skip
         focus go_simp
         simp only [Act.put, List.setIfInBounds_toArray, List.set_cons_succ, List.set_cons_zero])
  apply QuietL.nil
  intro w2 hk
  have hA := hA.keep hk
  obtain ⟨hA_0, hA_1, hA_2, hA_3, hA_4⟩ := hA.two
  have hB := hB.keep hk
  obtain ⟨hB_0, hB_1, hB_2, hB_3, hB_4⟩ := hB.two
  go_wp2_with fail
  refine wp_region_keep (by kernel_rfl) (by kernel_rfl) ?_
  repeat
    first
      | (apply QuietL.run
         focus go_simp
         focus
           intro w2 hk
           obtain ⟨hA_0, hA_1, hA_2, hA_3, hA_4⟩ := (hA.keep hk).two
           obtain ⟨hB_0, hB_1, hB_2, hB_3, hB_4⟩ := (hB.keep hk).two
           apply QAt.mk
           go_simp
           first
             | done
             | exact rfl
             | (go_at_call 10; exact quiet_call hk (laws_toMask _ _ _))
             | (go_at_call 15; exact quiet_call hk (impl_IsWithin _ _ _ _ _))
         simp only [Act.put, List.setIfInBounds_toArray, List.set_cons_succ, List.set_cons_zero])
      | (apply QuietL.skip
         focus go_simp
         simp only [Act.put, List.setIfInBounds_toArray, List.set_cons_succ, List.set_cons_zero])
  apply QuietL.nil
  intro w2 hk
  have hA := hA.keep hk
  obtain ⟨hA_0, hA_1, hA_2, hA_3, hA_4⟩ := hA.two
  have hB := hB.keep hk
  obtain ⟨hB_0, hB_1, hB_2, hB_3, hB_4⟩ := hB.two
  go_wp2
  go_ret; exact ⟨rfl, (by ((repeat (first | (with_reducible assumption) | ((with_reducible refine Keep.setCell ?_ ?_ _); rotate_left; focus (first | omega | (simp; done) | (simp; omega))) | (with_reducible refine Keep.alloc ?_ _) | (with_reducible refine Keep.drewN ?_ _) | (with_reducible refine Keep.drew ?_) | (with_reducible exact Keep.refl _) | refine Keep.trans ?_ (by with_reducible assumption) | exact Keep.refl _ | assumption))))⟩
theorem spec_ValidMix (s z p : Int) (w : World) (hw : I16 s ∧ I16 z ∧ I16 p) :
    Calls Try.prog 16 #[.agg #[.int .i16 s, .int .i16 z, .int .i16 p]] w fun e w' => e = .returned (.bool (mixB s z p)) ∧ Keep w w' := by
  have hB := (Bx.new w #[.int .i16 s, .int .i16 z, .int .i16 p] 37)
  obtain ⟨b0, b1, b2, _, _, _, bz⟩ := hB.three
  go_enter Try.func16, Try.ntmps16
  (go_wp2_with fail); (go_at_call 27); (refine (spec_l03Ok s z p _ _ _ hw.2.1 hw.2.2 hw.1 b0 b1 b2).mono ?_); rintro e w1 ⟨rfl, hk1⟩
  go_wp2
  go_ret; exact ⟨rfl, (by ((repeat (first | (with_reducible assumption) | ((with_reducible refine Keep.setCell ?_ ?_ _); rotate_left; focus (first | omega | (simp; done) | (simp; omega))) | (with_reducible refine Keep.alloc ?_ _) | (with_reducible refine Keep.drewN ?_ _) | (with_reducible refine Keep.drew ?_) | (with_reducible exact Keep.refl _) | refine Keep.trans ?_ (by with_reducible assumption) | exact Keep.refl _ | assumption))))⟩
theorem impl_ValidMix (s z p : Int) (w : World) (hw : I16 s ∧ I16 z ∧ I16 p) :
    Calls Try.prog 18 #[.agg #[.int .i16 s, .int .i16 z, .int .i16 p]] w fun e w' => e = .returned (.bool (mixB s z p)) ∧ Keep w w' := by
  go_enter Try.func18, Try.ntmps18
  (go_wp2_with fail); (go_at_call 28); (refine (impl_isMix s z p _ hw.2.1 hw.2.2 hw.1).mono ?_); rintro e w1 ⟨rfl, hk1⟩
  go_wp2
  go_ret; exact ⟨rfl, (by ((repeat (first | (with_reducible assumption) | ((with_reducible refine Keep.setCell ?_ ?_ _); rotate_left; focus (first | omega | (simp; done) | (simp; omega))) | (with_reducible refine Keep.alloc ?_ _) | (with_reducible refine Keep.drewN ?_ _) | (with_reducible refine Keep.drew ?_) | (with_reducible exact Keep.refl _) | refine Keep.trans ?_ (by with_reducible assumption) | exact Keep.refl _ | assumption))))⟩
theorem laws_FnExactValidMix (s z p : Int) (w : World) (hw : I16 s ∧ I16 z ∧ I16 p) :
    Calls Try.prog 7 #[.agg #[.int .i16 s, .int .i16 z, .int .i16 p]] w fun e w' => e = .returned (.bool true) ∧ Keep w w' := by
  go_enter Try.func7, Try.ntmps7
  (go_wp2_with fail); (go_at_call 17); (refine (laws_toMix _ _ _ _).mono ?_); rintro e w1 ⟨rfl, hk1⟩
  have hA := (Bx.new w #[.int .i16 s, .int .i16 z, .int .i16 p] 35).keep hk1
  have k1 : Keep w w1 := (by ((repeat (first | (with_reducible assumption) | ((with_reducible refine Keep.setCell ?_ ?_ _); rotate_left; focus (first | omega | (simp; done) | (simp; omega))) | (with_reducible refine Keep.alloc ?_ _) | (with_reducible refine Keep.drewN ?_ _) | (with_reducible refine Keep.drew ?_) | (with_reducible exact Keep.refl _) | refine Keep.trans ?_ (by with_reducible assumption) | exact Keep.refl _ | assumption))))
  clear hk1
  have hAs := hA.three
  (go_wp2_with fail); (go_at_call 16); (refine (spec_ValidMix _ _ _ _ hw).mono ?_); rintro e w2 ⟨rfl, hk2⟩
  have hA2 := hA.keep hk2
  have k2 : Keep w w2 := (by ((repeat (first | (with_reducible assumption) | ((with_reducible refine Keep.setCell ?_ ?_ _); rotate_left; focus (first | omega | (simp; done) | (simp; omega))) | (with_reducible refine Keep.alloc ?_ _) | (with_reducible refine Keep.drewN ?_ _) | (with_reducible refine Keep.drew ?_) | (with_reducible exact Keep.refl _) | refine Keep.trans ?_ (by with_reducible assumption) | exact Keep.refl _ | assumption))))
  clear hk2 k1 hAs hA
  have hAs := hA2.three
  (go_wp2_with fail); (go_at_call 17); (refine (laws_toMix _ _ _ _).mono ?_); rintro e w3 ⟨rfl, hk3⟩
  (go_wp2_with fail); (go_at_call 18); (refine (impl_ValidMix _ _ _ _ hw).mono ?_); rintro e w4 ⟨rfl, hk4⟩
  go_wp2
  go_ret; exact ⟨rfl, (by ((repeat (first | (with_reducible assumption) | ((with_reducible refine Keep.setCell ?_ ?_ _); rotate_left; focus (first | omega | (simp; done) | (simp; omega))) | (with_reducible refine Keep.alloc ?_ _) | (with_reducible refine Keep.drewN ?_ _) | (with_reducible refine Keep.drew ?_) | (with_reducible exact Keep.refl _) | refine Keep.trans ?_ (by with_reducible assumption) | exact Keep.refl _ | assumption))))⟩
end Go.Proofs.Ytpdeedjhldbadaa

/- The laws of what is told by a truth value and a code. -/
import Derived.Test.YtjgaacoikhonoaaQ1
import Derived.Test.YtjgaacoikhonoaaM4
import Derived.Test.YtjgaacoikhonoaaMono
set_option linter.unusedVariables false
set_option linter.unusedSimpArgs false
namespace Go.Proofs.Ytjgaacoikhonoaa
open Go.RowKit
set_option maxHeartbeats 1000000
theorem laws_toQuery (a b c d : Wd) (w : World) :
    Calls Try.prog 20 #[.agg #[.int .u64 (U a), .int .u64 (U b), .int .u64 (U c), .int .u64 (U d)]] w fun e w' => e = .returned (.agg #[.int .u64 (U a), .int .u64 (U b), .int .u64 (U c), .int .u64 (U d)]) ∧ Keep w w' := by
  go_enter Try.func20, Try.ntmps20
  go_wp2_with (first
    | (go_at_call 16; have hA2 := hA; refine (laws_toMask _ _ _).mono ?_; rintro e w2 ⟨rfl, hk2⟩
       have hR2 := ((hR.set' (by simp) _).set' (by simp) _).keep hk2
       have hO2 : Bx w2 (w.heap.size + 1 + 1) #[.int .u64 (U a), .int .u64 (U b), .int .u64 0, .int .u64 0] 33 := ((hO.set _).set _).keep hk2
       have kk : Keep w w2 := (by ((repeat (first | (with_reducible assumption) | ((with_reducible refine Keep.setCell ?_ ?_ _); rotate_left; focus (first | omega | (simp; done) | (simp; omega))) | (with_reducible refine Keep.alloc ?_ _) | (with_reducible refine Keep.drewN ?_ _) | (with_reducible refine Keep.drew ?_) | (with_reducible exact Keep.refl _) | refine Keep.trans ?_ (by with_reducible assumption) | exact Keep.refl _ | assumption))))
       clear hA2 hA hR hO hAs hRs hOs
       obtain ⟨r0, r1, r2, r3, r4, r5, r6, r7, r8⟩ := hR2.four
       obtain ⟨o0, o1, o2, o3, o4, o5, o6, o7, o8⟩ := hO2.four
       clear hR2 hO2 hk hk2)
    | (go_at_call 16; refine (laws_toMask _ _ _).mono ?_; rintro e w1 ⟨rfl, hk⟩
       have hA := (((Bx.new w #[.int .u64 (U a), .int .u64 (U b), .int .u64 (U c), .int .u64 (U d)] 30).alloc _).alloc _).keep hk
       have hR := ((Bx.new1 w _ #[.int .u64 0, .int .u64 0, .int .u64 0, .int .u64 0] 33).alloc _).keep hk
       have hO := (Bx.new2 w _ _ #[.int .u64 0, .int .u64 0, .int .u64 0, .int .u64 0] 33).keep hk
       have hAs := hA.four
       have hRs := hR.four
       have hOs := hO.four))
  (apply bodyPost_ret; rotate_left; rfl; exact ⟨rfl, (by ((repeat (first | (with_reducible assumption) | ((with_reducible refine Keep.setCell ?_ ?_ _); rotate_left; focus (first | omega | (simp; done) | (simp; omega))) | (with_reducible refine Keep.alloc ?_ _) | (with_reducible refine Keep.drewN ?_ _) | (with_reducible refine Keep.drew ?_) | (with_reducible exact Keep.refl _) | refine Keep.trans ?_ (by with_reducible assumption) | exact Keep.refl _ | assumption))))⟩; simp [results, Try.results20, go_sem, U_zero, *])
theorem laws_toMix (s z p : Int) (w : World) :
    Calls Try.prog 29 #[.agg #[.int .i16 s, .int .i16 z, .int .i16 p]] w fun e w' => e = .returned (.agg #[.int .i16 s, .int .i16 z, .int .i16 p]) ∧ Keep w w' := by
  go_enter Try.func29, Try.ntmps29
  go_wp2
  (apply bodyPost_ret; rotate_left; rfl; exact ⟨rfl, (by ((repeat (first | (with_reducible assumption) | ((with_reducible refine Keep.setCell ?_ ?_ _); rotate_left; focus (first | omega | (simp; done) | (simp; omega))) | (with_reducible refine Keep.alloc ?_ _) | (with_reducible refine Keep.drewN ?_ _) | (with_reducible refine Keep.drew ?_) | (with_reducible exact Keep.refl _) | refine Keep.trans ?_ (by with_reducible assumption) | exact Keep.refl _ | assumption))))⟩; simp [results, Try.results29, go_sem, U_zero, *])
theorem laws_FnExactValidQuery (a b c d : Wd) (w : World) :
    Calls Try.prog 4 #[.agg #[.int .u64 (U a), .int .u64 (U b), .int .u64 (U c), .int .u64 (U d)]] w fun e w' => e = .returned (.bool true) ∧ Keep w w' := by
  go_enter Try.func4, Try.ntmps4
  go_wp2_with (first | (go_at_call 20; refine (laws_toQuery _ _ _ _ _).mono ?_; rintro e w1 ⟨rfl, hk⟩; obtain ⟨hkc, hkf⟩ := hk.cells; have hkz0 : w.heap.size < w1.heap.size := (by have := hk.size; (try simp at this); omega)) | (go_at_call 19; refine (spec_ValidQuery _ _ _ _ _).mono ?_; rintro e w1 ⟨rfl, hk⟩; obtain ⟨hkc, hkf⟩ := hk.cells; have hkz0 : w.heap.size < w1.heap.size := (by have := hk.size; (try simp at this); omega)) | (go_at_call 21; refine (impl_ValidQuery _ _ _ _ _).mono ?_; rintro e w1 ⟨rfl, hk⟩))
  go_ret; exact ⟨rfl, (by ((repeat (first | (with_reducible assumption) | ((with_reducible refine Keep.setCell ?_ ?_ _); rotate_left; focus (first | omega | (simp; done) | (simp; omega))) | (with_reducible refine Keep.alloc ?_ _) | (with_reducible refine Keep.drewN ?_ _) | (with_reducible refine Keep.drew ?_) | (with_reducible exact Keep.refl _) | refine Keep.trans ?_ (by with_reducible assumption) | exact Keep.refl _ | assumption))))⟩
theorem laws_FnExactHasHole (a b : Wd) (h : Int) (w : World) (hw : (Lit.int .i64 h).wf = true) :
    Calls Try.prog 5 #[.agg #[.int .u64 (U a), .int .u64 (U b)], .int .i64 h] w fun e w' => e = .returned (.bool true) ∧ Keep w w' := by
  go_enter Try.func5, Try.ntmps5
  go_wp2_with (first | (go_at_call 16; refine (laws_toMask _ _ _).mono ?_; rintro e w1 ⟨rfl, hk⟩; obtain ⟨hkc, hkf⟩ := hk.cells; have hkz0 : w.heap.size < w1.heap.size := (by have := hk.size; (try simp at this); omega)) | (go_at_call 22; refine (spec_HasHole _ _ _ _).mono ?_; rintro e w1 ⟨rfl, hk⟩; obtain ⟨hkc, hkf⟩ := hk.cells; have hkz0 : w.heap.size < w1.heap.size := (by have := hk.size; (try simp at this); omega)) | (go_at_call 23; refine (impl_HasHole _ _ _ _).mono ?_; rintro e w1 ⟨rfl, hk⟩))
  go_ret; exact ⟨rfl, (by ((repeat (first | (with_reducible assumption) | ((with_reducible refine Keep.setCell ?_ ?_ _); rotate_left; focus (first | omega | (simp; done) | (simp; omega))) | (with_reducible refine Keep.alloc ?_ _) | (with_reducible refine Keep.drewN ?_ _) | (with_reducible refine Keep.drew ?_) | (with_reducible exact Keep.refl _) | refine Keep.trans ?_ (by with_reducible assumption) | exact Keep.refl _ | assumption))))⟩
theorem laws_FnExactDropsCard (a b c d x y : Wd) (w : World) :
    Calls Try.prog 7 #[.agg #[.int .u64 (U a), .int .u64 (U b), .int .u64 (U c), .int .u64 (U d)], .agg #[.int .u64 (U x), .int .u64 (U y)]] w fun e w' => e = .returned (.bool true) ∧ Keep w w' := by
  go_enter Try.func7, Try.ntmps7
  go_wp2_with fail
  refine wp_gen (fun W => Bx W w.heap.size #[.int .u64 (U a), .int .u64 (U b), .int .u64 (U c), .int .u64 (U d)] 30 ∧ Bx W (w.heap.size + 1) #[.int .u64 (U x), .int .u64 (U y)] 23 ∧ Keep w W) ⟨(Bx.new _ _ _).alloc _, Bx.new1 _ _ _ _, (by ((repeat (first | (with_reducible assumption) | ((with_reducible refine Keep.setCell ?_ ?_ _); rotate_left; focus (first | omega | (simp; done) | (simp; omega))) | (with_reducible refine Keep.alloc ?_ _) | (with_reducible refine Keep.drewN ?_ _) | (with_reducible refine Keep.drew ?_) | (with_reducible exact Keep.refl _) | refine Keep.trans ?_ (by with_reducible assumption) | exact Keep.refl _ | assumption))))⟩ ?_
  rintro W ⟨hA, hB, hW⟩
  refine wp_region_keep (by kernel_rfl) (by kernel_rfl) ?_
  repeat
    first
      | (apply QuietL.run
         focus go_simp
         focus
           intro w2 hk
           obtain ⟨hA_0, hA_1, hA_2, hA_3, hA_4, hA_5, hA_6, hA_7, hA_8⟩ := (hA.keep hk).four
           obtain ⟨hB_0, hB_1, hB_2, hB_3, hB_4⟩ := (hB.keep hk).two
           apply QAt.mk
           go_simp
           first
             | done
             | exact rfl
             | (go_at_call 20; exact quiet_call hk (laws_toQuery _ _ _ _ _))
             | (go_at_call 16; exact quiet_call hk (laws_toMask _ _ _))
             | (go_at_call 26; exact quiet_call hk (spec_DropsCard _ _ _ _ _ _ _))
         simp only [Act.put, List.setIfInBounds_toArray, List.set_cons_succ, List.set_cons_zero])
      | (apply QuietL.skip
         focus go_simp
         simp only [Act.put, List.setIfInBounds_toArray, List.set_cons_succ, List.set_cons_zero])
  apply QuietL.nil
  intro w2 hk
  have hA := hA.keep hk
  obtain ⟨hA_0, hA_1, hA_2, hA_3, hA_4, hA_5, hA_6, hA_7, hA_8⟩ := hA.four
  have hB := hB.keep hk
  obtain ⟨hB_0, hB_1, hB_2, hB_3, hB_4⟩ := hB.two
  go_wp2_with fail
  refine wp_region_keep (by kernel_rfl) (by kernel_rfl) ?_
  repeat
    first
      | (apply QuietL.run
         focus go_simp
         focus
           intro w2 hk
           obtain ⟨hA_0, hA_1, hA_2, hA_3, hA_4, hA_5, hA_6, hA_7, hA_8⟩ := (hA.keep hk).four
           obtain ⟨hB_0, hB_1, hB_2, hB_3, hB_4⟩ := (hB.keep hk).two
           apply QAt.mk
           go_simp
           first
             | done
             | exact rfl
             | (go_at_call 20; exact quiet_call hk (laws_toQuery _ _ _ _ _))
             | (go_at_call 16; exact quiet_call hk (laws_toMask _ _ _))
             | (go_at_call 27; exact quiet_call hk (impl_DropsCard _ _ _ _ _ _ _))
         simp only [Act.put, List.setIfInBounds_toArray, List.set_cons_succ, List.set_cons_zero])
      | (apply QuietL.skip
         focus go_simp
         simp only [Act.put, List.setIfInBounds_toArray, List.set_cons_succ, List.set_cons_zero])
  apply QuietL.nil
  intro w2 hk
  have hA := hA.keep hk
  obtain ⟨hA_0, hA_1, hA_2, hA_3, hA_4, hA_5, hA_6, hA_7, hA_8⟩ := hA.four
  have hB := hB.keep hk
  obtain ⟨hB_0, hB_1, hB_2, hB_3, hB_4⟩ := hB.two
  go_wp2
  go_ret; exact ⟨rfl, (by ((repeat (first | (with_reducible assumption) | ((with_reducible refine Keep.setCell ?_ ?_ _); rotate_left; focus (first | omega | (simp; done) | (simp; omega))) | (with_reducible refine Keep.alloc ?_ _) | (with_reducible refine Keep.drewN ?_ _) | (with_reducible refine Keep.drew ?_) | (with_reducible exact Keep.refl _) | refine Keep.trans ?_ (by with_reducible assumption) | exact Keep.refl _ | assumption))))⟩
end Go.Proofs.Ytjgaacoikhonoaa

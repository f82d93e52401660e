/- The law of a mix's part. -/
import Derived.Test.YtjgaacoikhonoaaW3
import Derived.Test.YtjgaacoikhonoaaM6
set_option linter.unusedVariables false
set_option linter.unusedSimpArgs false
namespace Go.Proofs.Ytjgaacoikhonoaa
open Go.RowKit
set_option maxHeartbeats 1000000
theorem laws_FnExactMixPart (s z p : Int) (w : World) (hw : I16 s ∧ I16 z ∧ I16 p) :
    Calls Try.prog 8 #[.agg #[.int .i16 s, .int .i16 z, .int .i16 p]] w fun e w' => e = .returned (.bool true) ∧ Keep w w' := by
  go_enter Try.func8, Try.ntmps8
  (go_wp2_with fail); (go_at_call 29); (refine (laws_toMix _ _ _ _).mono ?_); rintro e w1 ⟨rfl, hk1⟩
  have hA := (Bx.new w #[.int .i16 s, .int .i16 z, .int .i16 p] 45).keep hk1
  have k1 : Keep w w1 := (by ((repeat (first | (with_reducible assumption) | ((with_reducible refine Keep.setCell ?_ ?_ _); rotate_left; focus (first | omega | (simp; done) | (simp; omega))) | (with_reducible refine Keep.alloc ?_ _) | (with_reducible refine Keep.drewN ?_ _) | (with_reducible refine Keep.drew ?_) | (with_reducible exact Keep.refl _) | refine Keep.trans ?_ (by with_reducible assumption) | exact Keep.refl _ | assumption))))
  clear hk1
  have hAs := hA.three
  (go_wp2_with fail); (go_at_call 28); (refine (spec_MixPart _ _ _ _ hw).mono ?_); rintro e w2 ⟨rfl, hk2⟩
  have hA2 := hA.keep hk2
  have k2 : Keep w w2 := (by ((repeat (first | (with_reducible assumption) | ((with_reducible refine Keep.setCell ?_ ?_ _); rotate_left; focus (first | omega | (simp; done) | (simp; omega))) | (with_reducible refine Keep.alloc ?_ _) | (with_reducible refine Keep.drewN ?_ _) | (with_reducible refine Keep.drew ?_) | (with_reducible exact Keep.refl _) | refine Keep.trans ?_ (by with_reducible assumption) | exact Keep.refl _ | assumption))))
  clear hA hk2 k1 hAs
  have hAs := hA2.three
  (go_wp2_with fail); (go_at_call 29); (refine (laws_toMix _ _ _ _).mono ?_); rintro e w3 ⟨rfl, hk3⟩
  have hB : Bx w3 w2.heap.size #[.int .u64 (U (mpLo s z p)), .int .u64 (U (mpHi s z p))] 24 := (Bx.new w2 _ _).keep hk3
  have k3 : Keep w w3 := (by ((repeat (first | (with_reducible assumption) | ((with_reducible refine Keep.setCell ?_ ?_ _); rotate_left; focus (first | omega | (simp; done) | (simp; omega))) | (with_reducible refine Keep.alloc ?_ _) | (with_reducible refine Keep.drewN ?_ _) | (with_reducible refine Keep.drew ?_) | (with_reducible exact Keep.refl _) | refine Keep.trans ?_ (by with_reducible assumption) | exact Keep.refl _ | assumption))))
  clear hA2 hk3 k2 hAs
  have hBs := hB.two
  (go_wp2_with fail); (go_at_call 30); (refine (impl_MixPart _ _ _ _ hw).mono ?_); rintro e w4 ⟨rfl, hk4⟩
  have hB2 := hB.keep hk4
  have k4 : Keep w w4 := (by ((repeat (first | (with_reducible assumption) | ((with_reducible refine Keep.setCell ?_ ?_ _); rotate_left; focus (first | omega | (simp; done) | (simp; omega))) | (with_reducible refine Keep.alloc ?_ _) | (with_reducible refine Keep.drewN ?_ _) | (with_reducible refine Keep.drew ?_) | (with_reducible exact Keep.refl _) | refine Keep.trans ?_ (by with_reducible assumption) | exact Keep.refl _ | assumption))))
  clear hB hk4 k3 hBs
  have hBs := hB2.two
  (go_wp2_with fail); (go_at_call 18); (refine (laws_eqMask_self _ _ _).mono ?_); rintro e w5 ⟨rfl, hk5⟩
  go_wp2
  go_ret; exact ⟨rfl, (by ((repeat (first | (with_reducible assumption) | ((with_reducible refine Keep.setCell ?_ ?_ _); rotate_left; focus (first | omega | (simp; done) | (simp; omega))) | (with_reducible refine Keep.alloc ?_ _) | (with_reducible refine Keep.drewN ?_ _) | (with_reducible refine Keep.drew ?_) | (with_reducible exact Keep.refl _) | refine Keep.trans ?_ (by with_reducible assumption) | exact Keep.refl _ | assumption))))⟩
end Go.Proofs.Ytjgaacoikhonoaa

/- The laws of a mask and a code. -/
import Derived.Test.YtpmilcfppcmodaaDoorW2
set_option linter.unusedVariables false
set_option linter.unusedSimpArgs false
namespace Go.Proofs.YtpmilcfppcmodaaDoor
open Go.RowKit
set_option maxHeartbeats 1000000
theorem laws_eqMask_self (a b : Wd) (w : World) :
    Calls Tryd.prog 63 #[.agg #[.int .u64 (U a), .int .u64 (U b)], .agg #[.int .u64 (U a), .int .u64 (U b)]] w fun e w' => e = .returned (.bool true) ∧ Keep w w' :=
  (laws_eqMask a b a b w).mono fun e w' ⟨h, k⟩ => ⟨by rw [h]; simp, k⟩
theorem beq_self2 (a b : Wd) : (a == a && b == b) = true := by simp
theorem laws_eqQuery (a b c d : Wd) (w : World) :
    Calls Tryd.prog 109 #[.agg #[.int .u64 (U a), .int .u64 (U b), .int .u64 (U c), .int .u64 (U d)], .agg #[.int .u64 (U a), .int .u64 (U b), .int .u64 (U c), .int .u64 (U d)]] w fun e w' => e = .returned (.bool true) ∧ Keep w w' := by
  go_enter Tryd.func109, Tryd.ntmps109
  (go_wp2_with fail); (go_at_call 63); (refine (laws_eqMask_self _ _ _).mono ?_); rintro e w1 ⟨rfl, hk1⟩
  have hA := ((Bx.new w #[.int .u64 (U a), .int .u64 (U b), .int .u64 (U c), .int .u64 (U d)] 35).alloc _).keep hk1
  have hB := (Bx.new1 w _ #[.int .u64 (U a), .int .u64 (U b), .int .u64 (U c), .int .u64 (U d)] 35).keep hk1
  have k1 : Keep w w1 := (by ((repeat (first | (with_reducible assumption) | ((with_reducible refine Keep.setCell ?_ ?_ _); rotate_left; focus (first | omega | (simp; done) | (simp; omega))) | (with_reducible refine Keep.alloc ?_ _) | (with_reducible refine Keep.drewN ?_ _) | (with_reducible refine Keep.drew ?_) | (with_reducible exact Keep.refl _) | refine Keep.trans ?_ (by with_reducible assumption) | exact Keep.refl _ | assumption))))
  clear hk1
  have hAs := hA.four
  have hBs := hB.four
  (go_wp2_with fail); (go_at_call 63); (refine (laws_eqMask_self _ _ _).mono ?_); rintro e w2 ⟨rfl, hk2⟩
  go_wp2
  go_ret; exact ⟨rfl, (by ((repeat (first | (with_reducible assumption) | ((with_reducible refine Keep.setCell ?_ ?_ _); rotate_left; focus (first | omega | (simp; done) | (simp; omega))) | (with_reducible refine Keep.alloc ?_ _) | (with_reducible refine Keep.drewN ?_ _) | (with_reducible refine Keep.drew ?_) | (with_reducible exact Keep.refl _) | refine Keep.trans ?_ (by with_reducible assumption) | exact Keep.refl _ | assumption))))⟩
end Go.Proofs.YtpmilcfppcmodaaDoor

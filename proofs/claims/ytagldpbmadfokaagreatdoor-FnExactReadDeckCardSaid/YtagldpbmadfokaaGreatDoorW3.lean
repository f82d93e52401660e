/- The laws of a mask and a code. -/
import Derived.Test.YtagldpbmadfokaaGreatDoorW2
set_option linter.unusedVariables false
set_option linter.unusedSimpArgs false
namespace Go.Proofs.YtagldpbmadfokaaGreatDoor
open Go.RowKit
set_option maxHeartbeats 1000000
theorem laws_eqMask_self (a b : Wd) (w : World) :
    Calls Tryz.prog 32 #[.agg #[.int .u64 (U a), .int .u64 (U b)], .agg #[.int .u64 (U a), .int .u64 (U b)]] w fun e w' => e = .returned (.bool true) ∧ Keep w w' :=
  (laws_eqMask a b a b w).mono fun e w' ⟨h, k⟩ => ⟨by rw [h]; simp, k⟩
theorem beq_self2 (a b : Wd) : (a == a && b == b) = true := by simp
end Go.Proofs.YtagldpbmadfokaaGreatDoor

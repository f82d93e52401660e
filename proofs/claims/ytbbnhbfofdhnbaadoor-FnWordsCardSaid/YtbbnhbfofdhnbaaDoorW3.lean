/- The laws of a mask and a code. -/
import Derived.Test.YtbbnhbfofdhnbaaDoorW2
set_option linter.unusedVariables false
set_option linter.unusedSimpArgs false
namespace Go.Proofs.YtbbnhbfofdhnbaaDoor
open Go.RowKit
set_option maxHeartbeats 1000000
theorem beq_self2 (a b : Wd) : (a == a && b == b) = true := by simp
end Go.Proofs.YtbbnhbfofdhnbaaDoor

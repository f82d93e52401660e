/- Valid fields. -/
import Derived.Test.YtbbnhbfofdhnbaaDoorN2
set_option linter.unusedVariables false
set_option linter.unusedSimpArgs false
namespace Go.Proofs.YtbbnhbfofdhnbaaDoor
open Go.RowKit
set_option maxHeartbeats 10000000
end Go.Proofs.YtbbnhbfofdhnbaaDoor

/- The laws of what is told by a truth value and a code. -/
import Derived.Test.YtbbnhbfofdhnbaaQ1
import Derived.Test.YtbbnhbfofdhnbaaM4
import Derived.Test.YtbbnhbfofdhnbaaMono
set_option linter.unusedVariables false
set_option linter.unusedSimpArgs false
namespace Go.Proofs.Ytbbnhbfofdhnbaa
open Go.RowKit
set_option maxHeartbeats 1000000
end Go.Proofs.Ytbbnhbfofdhnbaa

/- The laws of what is told by a truth value and a code. -/
import Derived.Test.YtagldpbmadfokaaDoorQ1
import Derived.Test.YtagldpbmadfokaaDoorM4
import Derived.Test.YtagldpbmadfokaaDoorMono
set_option linter.unusedVariables false
set_option linter.unusedSimpArgs false
namespace Go.Proofs.YtagldpbmadfokaaDoor
open Go.RowKit
set_option maxHeartbeats 1000000
end Go.Proofs.YtagldpbmadfokaaDoor

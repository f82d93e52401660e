/- Valid fields. -/
import Derived.Test.YtagldpbmadfokaaGreatDoorN2
set_option linter.unusedVariables false
set_option linter.unusedSimpArgs false
namespace Go.Proofs.YtagldpbmadfokaaGreatDoor
open Go.RowKit
set_option maxHeartbeats 10000000
end Go.Proofs.YtagldpbmadfokaaGreatDoor

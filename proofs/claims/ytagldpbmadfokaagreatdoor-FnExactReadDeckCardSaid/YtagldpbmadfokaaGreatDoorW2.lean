/- The laws of what is told by a truth value and a code. -/
import Derived.Test.YtagldpbmadfokaaGreatDoorQ1
import Derived.Test.YtagldpbmadfokaaGreatDoorM4
import Derived.Test.YtagldpbmadfokaaGreatDoorMono
set_option linter.unusedVariables false
set_option linter.unusedSimpArgs false
namespace Go.Proofs.YtagldpbmadfokaaGreatDoor
open Go.RowKit
set_option maxHeartbeats 1000000
end Go.Proofs.YtagldpbmadfokaaGreatDoor

/- The laws of cards and fields: what they do with their arguments. -/
import Derived.Test.YtagldpbmadfokaaGreatDoorN5
set_option linter.unusedVariables false
set_option linter.unusedSimpArgs false
namespace Go.Proofs.YtagldpbmadfokaaGreatDoor
open Go.RowKit
set_option maxHeartbeats 2000000
def szN (left : Int) (n : Nat) : Int := if left - n < 0 then -1 else left - n
end Go.Proofs.YtagldpbmadfokaaGreatDoor

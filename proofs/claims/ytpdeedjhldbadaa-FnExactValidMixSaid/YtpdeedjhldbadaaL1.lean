/- Masks and lists of holes: loops. -/
import Derived.Test.YtpdeedjhldbadaaM2
import Derived.Test.YtpdeedjhldbadaaRd
set_option linter.unusedVariables false
set_option linter.unusedSimpArgs false
namespace Go.Proofs.Ytpdeedjhldbadaa
open Go.RowKit
set_option maxHeartbeats 400000
end Go.Proofs.Ytpdeedjhldbadaa

/- The laws of what is told by a truth value and a code. -/
import Derived.Test.YtbgegnbcjklmjaaDoorQ1
import Derived.Test.YtbgegnbcjklmjaaDoorM4
import Derived.Test.YtbgegnbcjklmjaaDoorMono
set_option linter.unusedVariables false
set_option linter.unusedSimpArgs false
namespace Go.Proofs.YtbgegnbcjklmjaaDoor
open Go.RowKit
set_option maxHeartbeats 1000000
end Go.Proofs.YtbgegnbcjklmjaaDoor

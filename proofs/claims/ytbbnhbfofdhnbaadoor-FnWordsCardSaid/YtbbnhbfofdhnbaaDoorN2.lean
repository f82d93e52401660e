/- Fields: how many holes, and which are valid. -/
import Derived.Test.YtbbnhbfofdhnbaaDoorN1
set_option linter.unusedVariables false
set_option linter.unusedSimpArgs false
namespace Go.Proofs.YtbbnhbfofdhnbaaDoor
open Go.RowKit
set_option maxHeartbeats 1000000
def widthN (k n : Int) : Int := if k = 1 then 4 * n else if k = 2 then 5 * n else if k = 3 then n + 1 else n
def mostW (k : Int) : Int := if k = 0 then 24 else if k = 1 then 4 else if k = 2 then 4 else if k = 3 then 12 else 0
def I8 (n : Int) : Prop := -128 ≤ n ∧ n ≤ 127
def fieldB (s : ByteArray) (k st sz : Int) : Bool := nameB s && (inB sz 1 (mostW k) && inB st 0 (96 - widthN k sz))
end Go.Proofs.YtbbnhbfofdhnbaaDoor

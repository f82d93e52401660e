/- Masks and holes, queries: the functions that give a code too. -/
import Derived.Test.YtpdeedjhldbadaaL1
import Derived.Test.YtpdeedjhldbadaaMono
set_option linter.unusedVariables false
set_option linter.unusedSimpArgs false
namespace Go.Proofs.Ytpdeedjhldbadaa
open Go.RowKit
set_option maxHeartbeats 1000000
theorem holeB_iff {h : Int} : holeB h = true ↔ 0 ≤ h ∧ h < 96 := by unfold holeB; simp
/-- What is asked of a mask and a hole. -/
def askedM (b : Wd) (h : Int) : Int := cond (okB b) (cond (holeB h) 0 2) 1
def hasHoleM (a b : Wd) (h : Int) : Bool := cond (okB b) (cond (holeB h) (hasB a b h) false) false
def withLo (a b : Wd) (h : Int) (o : Bool) : Wd := cond (okB b) (cond (holeB h) (cond o (a ||| bitLo h) (a &&& ~~~bitLo h)) 0#64) 0#64
def withHi (a b : Wd) (h : Int) (o : Bool) : Wd := cond (okB b) (cond (holeB h) (cond o (b ||| bitHi h) (b &&& ~~~bitHi h)) 0#64) 0#64
end Go.Proofs.Ytpdeedjhldbadaa

/- The holes of a range. -/
import Derived.Test.YtagldpbmadfokaaGreatDoorM4
set_option linter.unusedVariables false
set_option linter.unusedSimpArgs false
namespace Go.Proofs.YtagldpbmadfokaaGreatDoor
open Go.RowKit
set_option maxHeartbeats 1000000
/-- The mask of so many holes from one on. -/
def rlo (s : Int) : Nat → Wd
  | 0 => 0#64
  | n + 1 => rlo s n ||| bitLo (s + n)
def rhi (s : Int) : Nat → Wd
  | 0 => 0#64
  | n + 1 => rhi s n ||| bitHi (s + n)
theorem Bx.grown {w w' : World} {g i : Nat} {cs : Array Value} {T : TypeId} (h : Bx w i cs T) (hg : w.grownBy w' (some g)) (hne : i ≠ g) : Bx w' i cs T := (hg.block i h.lt (by simpa using hne)).trans h
/-- The part of a mix. -/
def mpLo (s z p : Int) : Wd := cond (mixB s z p) (rlo s z.toNat) 0#64
def mpHi (s z p : Int) : Wd := cond (mixB s z p) (rhi s z.toNat) 0#64
def mpE (s z p : Int) : Int := cond (mixB s z p) 0 1
end Go.Proofs.YtagldpbmadfokaaGreatDoor

/- The sizes of cards in a row. -/
import Derived.Test.YtagldpbmadfokaaGreatDoorDS
set_option linter.unusedVariables false
set_option linter.unusedSimpArgs false
namespace Go.Proofs.YtagldpbmadfokaaGreatDoor
open Go.RowKit
set_option maxHeartbeats 1000000
set_option maxRecDepth 20000
/-- All these names are short enough for the machine. -/
def CSz (l : List Cd) : Prop := ∀ x ∈ l, x.s.size ≤ 9223372036854775807
def cSum : List Cd → Nat
  | [] => 0
  | x :: l => x.s.size + cSum l
theorem cSum_app (l m : List Cd) : cSum (l ++ m) = cSum l + cSum m := by
  induction l with
  | nil => simp [cSum]
  | cons x l ih => simp [cSum, ih]; omega
theorem cSum_take {l : List Cd} {i : Nat} (h : i < l.length) : cSum (l.take (i + 1)) = cSum (l.take i) + l[i].s.size := by
  rw [List.take_succ_eq_append_getElem h, cSum_app]; simp [cSum]
theorem cSum_le (l : List Cd) (i : Nat) : cSum (l.take i) ≤ cSum l := by
  have := cSum_app (l.take i) (l.drop i)
  rw [List.take_append_drop] at this
  omega
/-- What is left behind a list of words. -/
def szD (left : Int) (l : List Cd) : Int := if left < (l.length + cSum l : Nat) then -1 else left - (l.length + cSum l : Nat)
theorem szD_gt {left : Int} {l : List Cd} (h : left < (l.length + cSum l : Nat)) : szD left l = -1 := by unfold szD; rw [if_pos h]
theorem szD_le {left : Int} {l : List Cd} (h : ¬ left < (l.length + cSum l : Nat)) : szD left l = left - (l.length + cSum l : Nat) := by unfold szD; rw [if_neg h]
end Go.Proofs.YtagldpbmadfokaaGreatDoor

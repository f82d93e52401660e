/- A pass of a needle: what stays, and what drops: the walks. -/
import Derived.Test.YtagldpbmadfokaaDoorD1
import Derived.Test.YtagldpbmadfokaaDoorDS
import Derived.Test.YtagldpbmadfokaaDoorS1
import Derived.Test.YtagldpbmadfokaaDoorDK2
import Derived.Test.YtagldpbmadfokaaDoorOW
import Derived.Deep.AppendLies
set_option linter.unusedVariables false
set_option linter.unusedSimpArgs false
namespace Go.Proofs.YtagldpbmadfokaaDoor
open Go.RowKit
set_option maxHeartbeats 1000000
set_option maxRecDepth 20000
/-- Is the card notched at this hole? -/
def hasC (h : Int) (c : Cd) : Bool := hasB c.a c.b h
def stL (h : Int) (l : List Cd) : List Cd := l.filter fun c => !hasC h c
def drL (h : Int) (l : List Cd) : List Cd := l.filter fun c => hasC h c
theorem stL_yes {h : Int} {l : List Cd} {i : Nat} (hi : i < l.length) (hb : hasC h l[i] = true) : stL h (l.take (i + 1)) = stL h (l.take i) ∧ drL h (l.take (i + 1)) = drL h (l.take i) ++ [l[i]] := by
  unfold stL drL; rw [List.take_succ_eq_append_getElem hi, List.filter_append, List.filter_append]; simp [hb]
theorem stL_no {h : Int} {l : List Cd} {i : Nat} (hi : i < l.length) (hb : hasC h l[i] = false) : stL h (l.take (i + 1)) = stL h (l.take i) ++ [l[i]] ∧ drL h (l.take (i + 1)) = drL h (l.take i) := by
  unfold stL drL; rw [List.take_succ_eq_append_getElem hi, List.filter_append, List.filter_append]; simp [hb]
theorem stL_len (h : Int) (l : List Cd) : (stL h l).length + (drL h l).length = l.length := by
  unfold stL drL
  induction l with
  | nil => rfl
  | cons x l ih => cases hb : hasC h x <;> simp [hb] <;> omega
theorem stL_len_take (h : Int) (l : List Cd) (i : Nat) : (stL h (l.take i)).length + (drL h (l.take i)).length ≤ l.length := by
  rw [stL_len, List.length_take]; omega
/-- Two rows of cards of the call's own, in two blocks. -/
def Two (w : World) (B : Nat) (v1 v2 : Value) (l1 l2 : List Cd) : Prop :=
  ∃ g1 c1 g2 c2, v1 = .slice (some ⟨g1, 0, none⟩) l1.length c1 ∧ v2 = .slice (some ⟨g2, 0, none⟩) l2.length c2 ∧ w.ownsRow B 30 3 v1 l1.length (cds l1) ∧ w.ownsRow B 30 3 v2 l2.length (cds l2) ∧ g1 ≠ g2 ∧ g1 < w.heap.size ∧ g2 < w.heap.size
theorem own_emptyN (w : World) (B : Nat) (T : TypeId) (n : Nat) (hB : B ≤ w.heap.size) : (w.alloc (.cells #[] T)).ownsRow B T n (.slice (some ⟨w.heap.size, 0, none⟩) 0 0) 0 [] :=
  World.ownsRow_made w #[] 0 hB (by unfold maxLen; omega) (by simp)
end Go.Proofs.YtagldpbmadfokaaDoor

/- What the laws do with lists of numbers: copies, comparisons, marks. -/
import Derived.Test.YtagldpbmadfokaaGreatDoorS2
set_option linter.unusedVariables false
set_option linter.unusedSimpArgs false
namespace Go.Proofs.YtagldpbmadfokaaGreatDoor
open Go.RowKit
set_option maxHeartbeats 1000000
set_option maxRecDepth 20000
theorem grown_trans {a b c : World} {row : Option Nat} (h : a.grownBy b row) (k : b.grownBy c row) : a.grownBy c row :=
  ⟨k.os.trans h.os, k.tape.trans h.tape, k.output.trans h.output, Nat.le_trans h.size k.size, fun i hi hne => (k.block i (Nat.lt_of_lt_of_le hi h.size) hne).trans (h.block i hi hne)⟩
theorem grown_refl (w : World) (row : Option Nat) : w.grownBy w row := ⟨rfl, rfl, rfl, Nat.le_refl _, fun _ _ _ => rfl⟩
theorem grown_keep {a b : World} (k : Keep a b) (row : Option Nat) : a.grownBy b row := ⟨k.out.os, k.out.tape, k.out.output, k.out.size, fun i hi _ => k.out.block i hi⟩
/-- A slice that owns a row, and is not empty, begins at the head of a block. -/
theorem own_head {w : World} {base : Nat} {e : TypeId} {A : Option Addr} {n c : Nat} {xs : List Value} (h : w.ownsRow base e 1 (.slice A n c) n xs) (hn : 0 < n) : ∃ g, A = some ⟨g, 0, none⟩ ∧ base ≤ g := by
  rcases h.2 with ⟨h1, h2⟩ | ⟨g, cap, cur, h1, h2, _⟩
  · omega
  · simp only [Value.slice.injEq] at h1
    exact ⟨g, h1.1, h2⟩
def filled (l : List Int) (i : Nat) : List Value := ints (l.take i) ++ List.replicate (l.length - i) (.int .i64 0)
theorem filled_zero (l : List Int) : filled l 0 = List.replicate l.length (.int .i64 0) := by simp [filled, ints]
theorem filled_end (l : List Int) : filled l l.length = ints l := by simp [filled]
theorem filled_len (l : List Int) (i : Nat) (h : i ≤ l.length) : (filled l i).length = l.length := by simp [filled, ints]; omega
theorem filled_at (l : List Int) (i : Nat) (h : i < l.length) : (filled l i)[i]? = some (.int .i64 0) := by
  have e : (ints (l.take i)).length = i := by simp [ints]; omega
  rw [filled, List.getElem?_append_right (by omega), e, Nat.sub_self, List.getElem?_replicate, if_pos (by omega)]
theorem filled_set (l : List Int) (i : Nat) (h : i < l.length) : (filled l i).set i (.int .i64 l[i]) = filled l (i + 1) := by
  have e : (ints (l.take i)).length = i := by simp [ints]; omega
  rw [filled, List.set_append_right _ _ (by omega), e, Nat.sub_self, show l.length - i = (l.length - (i + 1)) + 1 by omega, List.replicate_succ, List.set_cons_zero, filled]
  unfold ints
  rw [List.take_succ_eq_append_getElem h, List.map_append, List.append_assoc]; rfl
/-- So many numbers in a row. -/
def marksV (k : Int) (n : Nat) : List Value := (List.range n).map fun (i : Nat) => Value.int .i64 (k + i)
theorem marksV_len (k : Int) (n : Nat) : (marksV k n).length = n := by simp [marksV]
theorem marksV_at (k : Int) (n i : Nat) (h : i < n) : (marksV k n)[i]? = some (.int .i64 (k + i)) := by simp [marksV, h]
theorem marksV_succ (k : Int) (n : Nat) : marksV k (n + 1) = marksV k n ++ [.int .i64 (k + n)] := by simp [marksV, List.range_succ]
theorem marks_set (k : Int) (i : Nat) (xs : List Value) (h : i < xs.length) : (marksV k i ++ xs.drop i).set i (.int .i64 (k + i)) = marksV k (i + 1) ++ xs.drop (i + 1) := by
  rw [List.set_append_right _ _ (by rw [marksV_len]; omega), marksV_len, Nat.sub_self, List.drop_eq_getElem_cons h, List.set_cons_zero, marksV_succ]
  simp
end Go.Proofs.YtagldpbmadfokaaGreatDoor

/- Lists of holes. -/
import Derived.Test.YtbbnhbfofdhnbaaDoorM3
import Derived.OwnWalk
set_option linter.unusedVariables false
set_option linter.unusedSimpArgs false
namespace Go.Proofs.YtbbnhbfofdhnbaaDoor
open Go.RowKit
set_option maxHeartbeats 1000000
set_option maxRecDepth 20000
/-- The holes of a mask, of the first so many. -/
def hs (a b : Wd) : Nat → List Int
  | 0 => []
  | k + 1 => cond (hasB a b k) (hs a b k ++ [(k : Int)]) (hs a b k)
theorem hs_len (a b : Wd) (k : Nat) : (hs a b k).length ≤ k := by
  induction k with
  | zero => simp [hs]
  | succ k ih => cases h : hasB a b k <;> simp [hs, h] <;> omega
theorem hs_yes {a b : Wd} {k : Nat} (h : hasB a b k = true) : hs a b (k + 1) = hs a b k ++ [(k : Int)] := by simp [hs, h]
theorem hs_no {a b : Wd} {k : Nat} (h : hasB a b k = false) : hs a b (k + 1) = hs a b k := by simp [hs, h]
theorem hs_zero (a b : Wd) : hs a b 0 = [] := rfl
attribute [irreducible] hs
theorem int64_info : (Tryd.prog.info? 2).map (fun i => (i.zero, i.size, i.bytes)) = some (some (.int .i64 0), 1, 8) := by kernel_rfl
theorem own_empty (w : World) (base : Nat) (e : TypeId) (hb : base ≤ w.heap.size) : (w.alloc (.cells #[] e)).ownsRow base e 1 (.slice (some ⟨w.heap.size, 0, none⟩) 0 0) 0 [] :=
  World.ownsRow_made w #[] 0 hb (by unfold maxLen; omega) (by simp)
theorem Bx.grownBy {w w' : World} {g : Nat} {cs : Array Value} {T : TypeId} {row : Option Nat} (h : Bx w g cs T) (hg : w.grownBy w' row) (hne : some g ≠ row) : Bx w' g cs T := (hg.block g h.lt hne).trans h
end Go.Proofs.YtbbnhbfofdhnbaaDoor

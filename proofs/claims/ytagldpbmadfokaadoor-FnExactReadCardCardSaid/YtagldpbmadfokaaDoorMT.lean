/- Texts that mark a string: the walk. -/
import Derived.Test.YtagldpbmadfokaaDoorRd
import Derived.Test.YtagldpbmadfokaaDoorS3
import Derived.Laws.BytesArg
import Derived.Laws.Concat
set_option linter.unusedVariables false
set_option linter.unusedSimpArgs false
namespace Go.Proofs.YtagldpbmadfokaaDoor
open Go.RowKit
set_option maxHeartbeats 1000000
set_option maxRecDepth 20000
/-- One decimal digit as a text. -/
def digS (k : Nat) : ByteArray := strOfNums [48 + (k : Int) % 10]
theorem digS_size (k : Nat) : (digS k).size = 1 := strOfNums_size _
/-- So many digits ahead of a text. -/
def dgT : Nat → Nat → ByteArray → ByteArray
  | 0, _, o => o
  | f + 1, k, o => if k = 0 then o else dgT f (k / 10) (digS k ++ o)
theorem dgT_zero (f : Nat) (o : ByteArray) : dgT f 0 o = o := by cases f <;> simp [dgT]
theorem dgT_succ {f k : Nat} (o : ByteArray) (h : 0 < k) (hf : k ≤ f) : dgT f k o = dgT (f - 1) (k / 10) (digS k ++ o) := by
  cases f with
  | zero => omega
  | succ f => simp only [dgT]; rw [if_neg (by omega)]; rfl
/-- The mark of a number. -/
def mkT (k : Nat) : ByteArray := ⟨#[109]⟩ ++ dgT k k ByteArray.empty
theorem size_app (a b : ByteArray) : (a ++ b).size = a.size + b.size := by simp
end Go.Proofs.YtagldpbmadfokaaDoor

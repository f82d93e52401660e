/- Does a card drop by words: the walks. -/
import Derived.Test.YtbbnhbfofdhnbaaDoorX7
import Derived.Test.YtbbnhbfofdhnbaaDoorX6
import Derived.Test.YtbbnhbfofdhnbaaDoorW15
set_option linter.unusedVariables false
set_option linter.unusedSimpArgs false
namespace Go.Proofs.YtbbnhbfofdhnbaaDoor
open Go.RowKit
set_option maxHeartbeats 4000000
set_option maxRecDepth 20000
/-- The code of a mask and words asked with. -/
def drE (s z p : Int) (b : Wd) (l : List ByteArray) : Int := cond (okB b) (ckE s z p l 12) 1
theorem drE_ak (s z p : Int) (a b : Wd) (l : List ByteArray) : akE s z p [(a, b)] l 12 = drE s z p b l := by
  unfold akE drE ckE okM
  cases mixB s z p <;> cases h : okB b <;> simp [h]
def drB (s z p : Int) (a b : Wd) (T : List UInt8 → Nat) (l : List ByteArray) : Bool := cond (drE s z p b l == 0) (withinB (aLo s z T l) (aHi s z T l) a b) false
theorem drE_cases (s z p : Int) (b : Wd) (l : List ByteArray) : (okB b = true ∧ ckE s z p l 12 = 0 ∧ drE s z p b l = 0 ∧ mixB s z p = true) ∨ (okB b = true ∧ ckE s z p l 12 ≠ 0 ∧ drE s z p b l = ckE s z p l 12) ∨ (okB b = false ∧ drE s z p b l = 1) := by
  cases h : okB b
  · exact .inr (.inr ⟨rfl, by simp [drE, h]⟩)
  · rcases ckE_cases s z p l 12 with ⟨h0, hm⟩ | h0
    · exact .inl ⟨rfl, h0, by simp [drE, h, h0], hm⟩
    · exact .inr (.inl ⟨rfl, h0, by simp [drE, h]⟩)
theorem rd_mask {W : World} {g : Nat} {a b : Wd} {T : TypeId} (h : Bx W g #[.int .u64 (U a), .int .u64 (U b)] T) : Rd W (some ⟨g, 0, none⟩) (msks [(a, b)]) := by
  refine .inr ⟨g, 0, rfl, fun j v hj => ?_⟩
  rw [h.cell]
  simpa [msks, mskV] using hj
end Go.Proofs.YtbbnhbfofdhnbaaDoor

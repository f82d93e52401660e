/- The reference's WithHole; the fields of a mix. -/
import Derived.Test.YtpmilcfppcmodaaDoorM3
set_option linter.unusedVariables false
set_option linter.unusedSimpArgs false
namespace Go.Proofs.YtpmilcfppcmodaaDoor
open Go.RowKit
set_option maxHeartbeats 1000000
/-- Is a mix valid? -/
def mixB (s z p : Int) : Bool := inB z 4 96 && (inB p 1 8 && (decide (2 * p ≤ z) && inB s 0 (96 - z)))
theorem inB_iff {n lo hi : Int} : inB n lo hi = true ↔ lo ≤ n ∧ n ≤ hi := by unfold inB; simp
theorem inB_not {n lo hi : Int} : inB n lo hi = false ↔ ¬ (lo ≤ n ∧ n ≤ hi) := by rw [← inB_iff]; simp
theorem mixB_iff {s z p : Int} : mixB s z p = true ↔ 4 ≤ z ∧ z ≤ 96 ∧ 1 ≤ p ∧ p ≤ 8 ∧ 2 * p ≤ z ∧ 0 ≤ s ∧ s ≤ 96 - z := by unfold mixB; simp [inB]; omega
theorem mixB_not {s z p : Int} : mixB s z p = false ↔ ¬ (4 ≤ z ∧ z ≤ 96 ∧ 1 ≤ p ∧ p ≤ 8 ∧ 2 * p ≤ z ∧ 0 ≤ s ∧ s ≤ 96 - z) := by rw [← mixB_iff]; simp
theorem half16 {z : Int} (h : 4 ≤ z ∧ z ≤ 96) : IntKind.i16.wrap (z.tdiv 2) = z / 2 := by
  rw [Int.tdiv_eq_ediv_of_nonneg (by omega)]
  simp [IntKind.wrap, IntKind.bits, IntKind.signed]; omega
end Go.Proofs.YtpmilcfppcmodaaDoor

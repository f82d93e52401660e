/- The laws of lists of holes. -/
import Derived.Test.YtbbnhbfofdhnbaaW3
import Derived.Test.YtbbnhbfofdhnbaaS3
set_option linter.unusedVariables false
set_option linter.unusedSimpArgs false
namespace Go.Proofs.Ytbbnhbfofdhnbaa
open Go.RowKit
set_option maxHeartbeats 1000000
set_option maxRecDepth 20000
theorem own_rd {w : World} {base : Nat} {e : TypeId} {A : Option Addr} {n c : Nat} {xs : List Value} (h : w.ownsRow base e 1 (.slice A n c) n xs) : Rd w A xs := by
  obtain ⟨A', c', hv, hR, _⟩ := own_row h
  simp only [Value.slice.injEq] at hv
  rw [hv.1]; exact hR
theorem holesL_len (a b : Wd) : (holesL a b).length ≤ 96 := by
  have := hs_len a b 96
  cases h : okB b <;> simp [holesL, h]; omega
end Go.Proofs.Ytbbnhbfofdhnbaa

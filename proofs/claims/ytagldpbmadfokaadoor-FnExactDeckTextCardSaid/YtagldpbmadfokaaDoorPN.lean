/- Passes of needles: the walks. -/
import Derived.Test.YtagldpbmadfokaaDoorSP
set_option linter.unusedVariables false
set_option linter.unusedSimpArgs false
namespace Go.Proofs.YtagldpbmadfokaaDoor
open Go.RowKit
set_option maxHeartbeats 1000000
set_option maxRecDepth 20000
def pnE (l : List Cd) (h : Int) : Int := cond (dkB l) (cond (holeB h) 0 2) 1
def pnL (l : List Cd) (h : Int) : List Cd := cond (dkB l) (cond (holeB h) (stL h l ++ drL h l) []) []
def pnN (l : List Cd) (h : Int) : Int := cond (dkB l) (cond (holeB h) ((drL h l).length : Int) 0) 0
def spS (l : List Cd) (h : Int) : List Cd := cond (dkB l) (cond (holeB h) (stL h l) []) []
def spD (l : List Cd) (h : Int) : List Cd := cond (dkB l) (cond (holeB h) (drL h l) []) []
theorem dkB_80 {l : List Cd} (h : dkB l = true) : l.length ≤ 80 := by
  unfold dkB at h; simp at h; exact h.1
theorem cds_one (l : List Cd) : ∀ u ∈ cds l, u.oneCell' = true := by
  intro u hu
  unfold cds at hu
  obtain ⟨x, _, hx⟩ := List.mem_flatMap.1 hu
  simp [cdV] at hx
  rcases hx with rfl | rfl | rfl <;> rfl
end Go.Proofs.YtagldpbmadfokaaDoor

/- Queries: what is asked of them, and what they drop. -/
import Derived.Test.YtbbnhbfofdhnbaaDoorM3
set_option linter.unusedVariables false
set_option linter.unusedSimpArgs false
namespace Go.Proofs.YtbbnhbfofdhnbaaDoor
open Go.RowKit
set_option maxHeartbeats 1000000
def queryB (a b c d : Wd) : Bool := okB b && okB d && ((a &&& c) == 0#64 && (b &&& d) == 0#64)
def dropsB (a b c d x y : Wd) : Bool := withinB a b x y && ((c &&& x) == 0#64 && (d &&& y) == 0#64)
/-- From this place on lie these cells. -/
def Cs (w : World) (g o : Nat) (cs : List Value) : Prop := ∀ j v, cs[j]? = some v → w.cell? ⟨g, o + j, none⟩ = some v
theorem Cs.keep {w w' : World} {g o : Nat} {cs : List Value} (h : Cs w g o cs) (k : Keep w w') : Cs w' g o cs := fun j v hj => k.cell (h j v hj)
theorem Cs.of_bx {w : World} {g : Nat} {cs : Array Value} {T : TypeId} (h : Bx w g cs T) : Cs w g 0 cs.toList := fun j v hj => by
  rw [h.cell]; simpa using hj
theorem Cs.four {w : World} {g o : Nat} {x y z u : Value} (h : Cs w g o [x, y, z, u]) :
    w.cell? ⟨g, o, none⟩ = some x ∧ w.cell? ⟨g, o + 1, none⟩ = some y ∧ w.cell? ⟨g, o + 2, none⟩ = some z ∧ w.cell? ⟨g, o + 2 + 1, none⟩ = some u ∧ w.cell? ⟨g, o + 3, none⟩ = some u ∧ g < w.heap.size :=
  ⟨h 0 x rfl, h 1 y rfl, h 2 z rfl, h 3 u rfl, h 3 u rfl, World.block_lt_of_cell? w _ (h 0 x rfl)⟩
def dropsCardB (a b c d x y : Wd) : Bool := cond (queryB a b c d) (cond (okB y) (dropsB a b c d x y) false) false
def dropsCardN (a b c d x y : Wd) : Int := cond (queryB a b c d) (cond (okB y) 0 1) 1
end Go.Proofs.YtbbnhbfofdhnbaaDoor

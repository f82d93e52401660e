/- Masks and holes, queries: the functions that give a code too. -/
import Derived.Test.YtbbnhbfofdhnbaaDoorL1
import Derived.Test.YtbbnhbfofdhnbaaDoorMono
set_option linter.unusedVariables false
set_option linter.unusedSimpArgs false
namespace Go.Proofs.YtbbnhbfofdhnbaaDoor
open Go.RowKit
set_option maxHeartbeats 1000000
theorem holeB_iff {h : Int} : holeB h = true ↔ 0 ≤ h ∧ h < 96 := by unfold holeB; simp
/-- What is asked of a mask and a hole. -/
def askedM (b : Wd) (h : Int) : Int := cond (okB b) (cond (holeB h) 0 2) 1
def hasHoleM (a b : Wd) (h : Int) : Bool := cond (okB b) (cond (holeB h) (hasB a b h) false) false
def withLo (a b : Wd) (h : Int) (o : Bool) : Wd := cond (okB b) (cond (holeB h) (cond o (a ||| bitLo h) (a &&& ~~~bitLo h)) 0#64) 0#64
def withHi (a b : Wd) (h : Int) (o : Bool) : Wd := cond (okB b) (cond (holeB h) (cond o (b ||| bitHi h) (b &&& ~~~bitHi h)) 0#64) 0#64
theorem impl_with1 (a b : Wd) (h : Int) (g c : Nat) (w : World) (h0 : 0 ≤ h) (h1 : h < 96) (hc : w.cell? ⟨g, 0, none⟩ = some (.int .i64 h)) :
    Calls Tryd.prog 88 #[.agg #[.int .u64 (U a), .int .u64 (U b)], .slice (some ⟨g, 0, none⟩) 1 c] w fun e w' => e = .returned (.agg #[.int .u64 (U (a ||| bitLo h)), .int .u64 (U (b ||| bitHi h))]) ∧ Keep w w' :=
  impl_with a b (some ⟨g, 0, none⟩) [h] c w (by simp; omega) (by simp) (.inr ⟨g, 0, rfl, fun j v hj => by
    match j, hj with
    | 0, hj => simp [ints] at hj; subst hj; exact hc⟩)
theorem impl_with1z (h : Int) (g c : Nat) (w : World) (h0 : 0 ≤ h) (h1 : h < 96) (hc : w.cell? ⟨g, 0, none⟩ = some (.int .i64 h)) :
    Calls Tryd.prog 88 #[.agg #[.int .u64 0, .int .u64 0], .slice (some ⟨g, 0, none⟩) 1 c] w fun e w' => e = .returned (.agg #[.int .u64 (U (bitLo h)), .int .u64 (U (bitHi h))]) ∧ Keep w w' := by
  have := impl_with1 0#64 0#64 h g c w h0 h1 hc
  simpa only [U_zero, BitVec.zero_or] using this
end Go.Proofs.YtbbnhbfofdhnbaaDoor

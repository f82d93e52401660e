/- Cards and fields: validity, sizes, greatest values. -/
import Derived.Test.YtbbnhbfofdhnbaaDoorN3
import Derived.Test.YtbbnhbfofdhnbaaDoorM6
import Derived.Test.YtbbnhbfofdhnbaaDoorS2
import Derived.Test.YtbbnhbfofdhnbaaDoorAu
set_option linter.unusedVariables false
set_option linter.unusedSimpArgs false
namespace Go.Proofs.YtbbnhbfofdhnbaaDoor
open Go.RowKit
set_option maxHeartbeats 2000000
def cardB (s : ByteArray) (b : Wd) : Bool := nameB s && okB b
/-- What is known of a valid field. -/
theorem fieldB_iff {s : ByteArray} {k st sz : Int} : fieldB s k st sz = true ↔ nameB s = true ∧ 1 ≤ sz ∧ sz ≤ mostW k ∧ 0 ≤ st ∧ st + widthN k sz ≤ 96 := by
  unfold fieldB; simp [inB]; omega
theorem fieldB_use {s : ByteArray} {k st sz : Int} (h : fieldB s k st sz = true) : 1 ≤ sz ∧ 0 ≤ st ∧ st + widthN k sz ≤ 96 ∧ 1 ≤ widthN k sz ∧ ((k = 0 ∧ sz ≤ 24) ∨ (k = 1 ∧ sz ≤ 4) ∨ (k = 2 ∧ sz ≤ 4) ∨ (k = 3 ∧ sz ≤ 12)) := by
  obtain ⟨_, h1, h2, h3, h4⟩ := fieldB_iff.1 h
  unfold mostW at h2
  unfold widthN at *
  by_cases k0 : k = 0
  · subst k0; simp at *; omega
  by_cases k1 : k = 1
  · subst k1; simp at *; omega
  by_cases k2 : k = 2
  · subst k2; simp at *; omega
  by_cases k3 : k = 3
  · subst k3; simp at *; omega
  · simp [k0, k1, k2, k3] at *; omega
def fE (s : ByteArray) (k st sz : Int) : Int := cond (fieldB s k st sz) 0 1
def widthM (s : ByteArray) (k st sz : Int) : Int := cond (fieldB s k st sz) (widthN k sz) 0
/-! ### The part of a field -/
def paLo (k st sz : Int) : Wd := rlo st (widthN k sz).toNat
def paHi (k st sz : Int) : Wd := rhi st (widthN k sz).toNat
def partLo (s : ByteArray) (k st sz : Int) : Wd := cond (fieldB s k st sz) (paLo k st sz) 0#64
def partHi (s : ByteArray) (k st sz : Int) : Wd := cond (fieldB s k st sz) (paHi k st sz) 0#64
end Go.Proofs.YtbbnhbfofdhnbaaDoor

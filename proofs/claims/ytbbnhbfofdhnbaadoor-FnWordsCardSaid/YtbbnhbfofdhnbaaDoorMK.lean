/- Masks in a row: plain facts. -/
import Derived.Test.YtbbnhbfofdhnbaaDoorM2
import Derived.Test.YtbbnhbfofdhnbaaDoorRd
set_option linter.unusedVariables false
set_option linter.unusedSimpArgs false
namespace Go.Proofs.YtbbnhbfofdhnbaaDoor
open Go.RowKit
def mskV (m : Wd × Wd) : List Value := [.int .u64 (U m.1), .int .u64 (U m.2)]
/-- The cells of masks in a row. -/
def msks (l : List (Wd × Wd)) : List Value := l.flatMap mskV
theorem msks_cons (c : Wd × Wd) (l : List (Wd × Wd)) : msks (c :: l) = mskV c ++ msks l := rfl
theorem msks_len (l : List (Wd × Wd)) : (msks l).length = 2 * l.length := by
  induction l with
  | nil => rfl
  | cons c l ih => rw [msks_cons, List.length_append, ih, List.length_cons]; simp [mskV]; omega
theorem msks_at : ∀ (l : List (Wd × Wd)) (i : Nat) (h : i < l.length), (msks l)[i * 2]? = some (.int .u64 (U l[i].1)) ∧ (msks l)[i * 2 + 1]? = some (.int .u64 (U l[i].2))
  | [], i, h => by simp at h
  | c :: l, 0, h => by simp [msks_cons, mskV]
  | c :: l, i + 1, h => by
    have ih := msks_at l i (by simpa using h)
    have e : (i + 1) * 2 = 2 + i * 2 := by omega
    have e1 : (i + 1) * 2 + 1 = 2 + (i * 2 + 1) := by omega
    rw [msks_cons, e1, e]
    have hl : (mskV c).length = 2 := rfl
    rw [List.getElem?_append_right (by rw [hl]; omega), List.getElem?_append_right (by rw [hl]; omega), hl]
    rw [show 2 + i * 2 - 2 = i * 2 by omega, show 2 + (i * 2 + 1) - 2 = i * 2 + 1 by omega]
    simpa using ih
end Go.Proofs.YtbbnhbfofdhnbaaDoor

/- Cards in a row: plain facts. -/
import Derived.Test.YtpmilcfppcmodaaDoorRd
set_option linter.unusedVariables false
set_option linter.unusedSimpArgs false
namespace Go.Proofs.YtpmilcfppcmodaaDoor
open Go.RowKit
/-- A card. -/
structure Cd where
  s : ByteArray
  a : Wd
  b : Wd
  deriving DecidableEq
def cdV (c : Cd) : List Value := [.string c.s, .int .u64 (U c.a), .int .u64 (U c.b)]
/-- The cells of cards in a row. -/
def cds (l : List Cd) : List Value := l.flatMap cdV
theorem cds_nil : cds [] = [] := rfl
theorem cds_cons (c : Cd) (l : List Cd) : cds (c :: l) = cdV c ++ cds l := rfl
theorem cds_app (l m : List Cd) : cds (l ++ m) = cds l ++ cds m := by unfold cds; rw [List.flatMap_append]
theorem cds_len (l : List Cd) : (cds l).length = 3 * l.length := by
  induction l with
  | nil => rfl
  | cons c l ih => rw [cds_cons, List.length_append, ih, List.length_cons]; simp [cdV]; omega
theorem cds_at : ∀ (l : List Cd) (i : Nat) (h : i < l.length), (cds l)[i * 3]? = some (.string l[i].s) ∧ (cds l)[i * 3 + 1]? = some (.int .u64 (U l[i].a)) ∧ (cds l)[i * 3 + 2]? = some (.int .u64 (U l[i].b))
  | [], i, h => by simp at h
  | c :: l, 0, h => by simp [cds_cons, cdV]
  | c :: l, i + 1, h => by
    have ih := cds_at l i (by simpa using h)
    have e : (i + 1) * 3 = 3 + i * 3 := by omega
    have e1 : (i + 1) * 3 + 1 = 3 + (i * 3 + 1) := by omega
    have e2 : (i + 1) * 3 + 2 = 3 + (i * 3 + 2) := by omega
    rw [cds_cons, e1, e2, e]
    have hl : (cdV c).length = 3 := rfl
    rw [List.getElem?_append_right (by rw [hl]; omega), List.getElem?_append_right (by rw [hl]; omega), List.getElem?_append_right (by rw [hl]; omega), hl]
    rw [show 3 + i * 3 - 3 = i * 3 by omega, show 3 + (i * 3 + 1) - 3 = i * 3 + 1 by omega, show 3 + (i * 3 + 2) - 3 = i * 3 + 2 by omega]
    simpa using ih
end Go.Proofs.YtpmilcfppcmodaaDoor

/- Fields in a row: plain facts. -/
import Derived.Test.YtpmilcfppcmodaaDoorRd
set_option linter.unusedVariables false
set_option linter.unusedSimpArgs false
namespace Go.Proofs.YtpmilcfppcmodaaDoor
open Go.RowKit
/-- A field. -/
structure Fd where
  s : ByteArray
  k : Int
  st : Int
  sz : Int
  deriving DecidableEq
def fdV (c : Fd) : List Value := [.string c.s, .int .i8 c.k, .int .i16 c.st, .int .i16 c.sz]
/-- A query. -/
structure Qy where
  a : Wd
  b : Wd
  c : Wd
  d : Wd
  deriving DecidableEq
def qyV (c : Qy) : List Value := [.int .u64 (U c.a), .int .u64 (U c.b), .int .u64 (U c.c), .int .u64 (U c.d)]
/-- The cells of such things in a row. -/
def fds (l : List Fd) : List Value := l.flatMap fdV
theorem fds_nil : fds [] = [] := rfl
theorem fds_cons (c : Fd) (l : List Fd) : fds (c :: l) = fdV c ++ fds l := rfl
theorem fds_app (l m : List Fd) : fds (l ++ m) = fds l ++ fds m := by unfold fds; rw [List.flatMap_append]
theorem fds_len (l : List Fd) : (fds l).length = 4 * l.length := by
  induction l with
  | nil => rfl
  | cons c l ih => rw [fds_cons, List.length_append, ih, List.length_cons]; simp [fdV]; omega
theorem fds_at : ∀ (l : List Fd) (i : Nat) (h : i < l.length), (fds l)[i * 4]? = some (.string l[i].s) ∧ (fds l)[i * 4 + 1]? = some (.int .i8 l[i].k) ∧ (fds l)[i * 4 + 2]? = some (.int .i16 l[i].st) ∧ (fds l)[i * 4 + 3]? = some (.int .i16 l[i].sz)
  | [], i, h => by simp at h
  | c :: l, 0, h => by simp [fds_cons, fdV]
  | c :: l, i + 1, h => by
    have ih := fds_at l i (by simpa using h)
    have e : (i + 1) * 4 = 4 + i * 4 := by omega
    have e1 : (i + 1) * 4 + 1 = 4 + (i * 4 + 1) := by omega
    have e2 : (i + 1) * 4 + 2 = 4 + (i * 4 + 2) := by omega
    have e3 : (i + 1) * 4 + 3 = 4 + (i * 4 + 3) := by omega
    rw [fds_cons, e1, e2, e3, e]
    have hl : (fdV c).length = 4 := rfl
    rw [List.getElem?_append_right (by rw [hl]; omega), List.getElem?_append_right (by rw [hl]; omega), List.getElem?_append_right (by rw [hl]; omega), List.getElem?_append_right (by rw [hl]; omega), hl]
    rw [show 4 + i * 4 - 4 = i * 4 by omega, show 4 + (i * 4 + 1) - 4 = i * 4 + 1 by omega, show 4 + (i * 4 + 2) - 4 = i * 4 + 2 by omega, show 4 + (i * 4 + 3) - 4 = i * 4 + 3 by omega]
    simpa using ih
/-- The cells of such things in a row. -/
def qys (l : List Qy) : List Value := l.flatMap qyV
theorem qys_nil : qys [] = [] := rfl
theorem qys_cons (c : Qy) (l : List Qy) : qys (c :: l) = qyV c ++ qys l := rfl
theorem qys_app (l m : List Qy) : qys (l ++ m) = qys l ++ qys m := by unfold qys; rw [List.flatMap_append]
theorem qys_len (l : List Qy) : (qys l).length = 4 * l.length := by
  induction l with
  | nil => rfl
  | cons c l ih => rw [qys_cons, List.length_append, ih, List.length_cons]; simp [qyV]; omega
theorem qys_at : ∀ (l : List Qy) (i : Nat) (h : i < l.length), (qys l)[i * 4]? = some (.int .u64 (U l[i].a)) ∧ (qys l)[i * 4 + 1]? = some (.int .u64 (U l[i].b)) ∧ (qys l)[i * 4 + 2]? = some (.int .u64 (U l[i].c)) ∧ (qys l)[i * 4 + 3]? = some (.int .u64 (U l[i].d))
  | [], i, h => by simp at h
  | c :: l, 0, h => by simp [qys_cons, qyV]
  | c :: l, i + 1, h => by
    have ih := qys_at l i (by simpa using h)
    have e : (i + 1) * 4 = 4 + i * 4 := by omega
    have e1 : (i + 1) * 4 + 1 = 4 + (i * 4 + 1) := by omega
    have e2 : (i + 1) * 4 + 2 = 4 + (i * 4 + 2) := by omega
    have e3 : (i + 1) * 4 + 3 = 4 + (i * 4 + 3) := by omega
    rw [qys_cons, e1, e2, e3, e]
    have hl : (qyV c).length = 4 := rfl
    rw [List.getElem?_append_right (by rw [hl]; omega), List.getElem?_append_right (by rw [hl]; omega), List.getElem?_append_right (by rw [hl]; omega), List.getElem?_append_right (by rw [hl]; omega), hl]
    rw [show 4 + i * 4 - 4 = i * 4 by omega, show 4 + (i * 4 + 1) - 4 = i * 4 + 1 by omega, show 4 + (i * 4 + 2) - 4 = i * 4 + 2 by omega, show 4 + (i * 4 + 3) - 4 = i * 4 + 3 by omega]
    simpa using ih
end Go.Proofs.YtpmilcfppcmodaaDoor

/- The fewest needles: the program's function. -/
import Derived.Test.YtpmilcfppcmodaaDoorFW7
set_option linter.unusedVariables false
set_option linter.unusedSimpArgs false
namespace Go.Proofs.YtpmilcfppcmodaaDoor
open Go.RowKit Go.Shelf
set_option maxHeartbeats 2000000
set_option maxRecDepth 20000
/-- The needles that are found for these wanted cards. -/
def fwR (l : List Cd) (wd : List Int) : Option (Wd × Wd) := fnR (fitB l wd) (mayI l wd)
def fwA (l : List Cd) (wd : List Int) : Wd := cond (dkB l) (cond (wnB wd l.length) (fnA (fwR l wd)) 0#64) 0#64
def fwB (l : List Cd) (wd : List Int) : Wd := cond (dkB l) (cond (wnB wd l.length) (fnB (fwR l wd)) 0#64) 0#64
def fwE (l : List Cd) (wd : List Int) : Int := cond (dkB l) (cond (wnB wd l.length) (fnE (fwR l wd)) 2) 1
theorem wn_in {wd : List Int} {n : Nat} (h : wnB wd n = true) : ∀ x ∈ wd, 0 ≤ x ∧ x < (n : Int) := by
  intro x hx
  obtain ⟨i, hi, rfl⟩ := List.getElem_of_mem hx
  unfold wnB at h
  rw [List.all_eq_true] at h
  have h1 := h i (List.mem_range.2 hi)
  cases i with
  | zero =>
    rw [wnAt_zero hi] at h1
    unfold inB at h1; simp at h1; omega
  | succ m =>
    rw [wnAt_succ hi] at h1
    unfold inB at h1; simp at h1; omega
/-- With nothing wanted the reference's search of free masks gives the same. -/
theorem fwR_nil (l : List Cd) : fwR l [] = fnR (freeB l) yes := by
  unfold fwR; exact fnR_congr (fit_nil l) (fun h _ => by unfold mayI yes; rfl)
theorem fwR_mt (l : List Cd) (wd : List Int) : fwR l wd = fnR (fitB l wd) (fun h => hasB (mtLo l wd) (mtHi l wd) (h : Int)) := by
  unfold fwR; exact fnR_congr (fun _ _ => rfl) (fun h hh => (has_mt hh).symm)
theorem fnR_some {P : Wd → Wd → Bool} {may : Nat → Bool} {k : Nat} {z : Wd × Wd} (hk : k < 4) (hno : ∀ j, j < k → srch P may j 0 0#64 0#64 = none) (h : srch P may k 0 0#64 0#64 = some z) : fnR P may = some z := by
  unfold fnR
  match k, hk, hno, h with
  | 0, _, _, h => rw [h]
  | 1, _, hno, h => rw [hno 0 (by omega), h]
  | 2, _, hno, h => rw [hno 0 (by omega), hno 1 (by omega), h]
  | 3, _, hno, h => rw [hno 0 (by omega), hno 1 (by omega), hno 2 (by omega), h]
theorem fnR_none {P : Wd → Wd → Bool} {may : Nat → Bool} (hno : ∀ j, j < 4 → srch P may j 0 0#64 0#64 = none) : fnR P may = none := by
  unfold fnR
  rw [hno 0 (by omega), hno 1 (by omega), hno 2 (by omega), hno 3 (by omega)]
end Go.Proofs.YtpmilcfppcmodaaDoor

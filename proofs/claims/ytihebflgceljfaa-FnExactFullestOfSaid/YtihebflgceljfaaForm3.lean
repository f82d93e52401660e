/- What a slice of masks looks like, as an argument of a law. -/
import Derived.Test.YtihebflgceljfaaFormR
import Derived.Test.YtihebflgceljfaaMK
set_option linter.unusedVariables false
set_option linter.unusedSimpArgs false
namespace Go.Proofs.Ytihebflgceljfaa
open Go.ChangeShapes Go.WideShapes Go.ChangeAt Go.RowKit
section
variable {H : Type} {enc : TypeId × Value → H} {W : World} {base : Nat} {spare : Nat → Bool} {held : Bool} {fuel : Nat}
theorem mask_cell : Try.prog.cellsOf 44 = 2 := by kernel_rfl
/-- The masks of such rows. -/
theorem rows_masks {P : List Value → Prop} : ∀ (rows : List (List Value)), (∀ (i : Nat) row, rows[i]? = some row → ∃ a b : Wd, row = [.int .u64 (U a), .int .u64 (U b)]) → ∃ l : List (Wd × Wd), rows = l.map mskV
  | [], _ => ⟨[], rfl⟩
  | r :: rows, h => by
    obtain ⟨l, hl⟩ := rows_masks (P := P) rows fun i row hr => h (i + 1) row (by simpa using hr)
    obtain ⟨a, b, e⟩ := h 0 r (by simp)
    exact ⟨(a, b) :: l, by rw [hl, e]; rfl⟩
set_option maxRecDepth 100000 in
theorem masks_form {r : Reach} {b0 : Nat} {v : Value} {d : DataW H} {p : List MemPlace} (hv : Value.okWide Try.prog W r b0 25 v) (h : DataW.Trod enc Try.prog W base spare held 25 v d p) :
    ∃ (A : Option Addr) (l : List (Wd × Wd)) (c : Nat), v = .slice A l.length c ∧ (l.length ≤ 9223372036854775807 ∧ Rd W A (msks l)) := by
  obtain ⟨A, rows, c, rfl, hm, hr, hc⟩ := rows_form Try.underlying25 mask_cell (by decide) hv h
  obtain ⟨l, rfl⟩ := rows_masks (P := fun _ => True) rows fun i row h => by
    obtain ⟨_, m, y, h1⟩ := hr i row h
    exact mask_trod h1
  refine ⟨A, l, c, by rw [List.length_map], by rw [List.length_map] at hm; exact hm, ?_⟩
  rcases hc with h0 | ⟨b, o, rfl, hc⟩
  · have : l = [] := by simpa using h0
    subst this
    exact .inl rfl
  · refine .inr ⟨b, o, rfl, fun j x hj => ?_⟩
    have hjl : j < 2 * l.length := by rw [← msks_len]; exact (List.getElem?_eq_some_iff.1 hj).1
    have hi : j / 2 < l.length := by omega
    have hrow : (l.map mskV)[j / 2]? = some (mskV l[j / 2]) := by simp [hi]
    have h2 := msks_at l (j / 2) hi
    have key := hc (j / 2) _ hrow
    rcases Nat.mod_two_eq_zero_or_one j with hj0 | hj1
    · have e : j / 2 * 2 = j := by omega
      rw [e] at h2
      have hx : x = .int .u64 (U l[j / 2].1) := Option.some.inj (hj.symm.trans h2.1)
      have := key 0 x (by rw [hx]; rfl)
      rw [e] at this
      simpa using this
    · have e : j / 2 * 2 + 1 = j := by omega
      rw [e] at h2
      have hx : x = .int .u64 (U l[j / 2].2) := Option.some.inj (hj.symm.trans h2.2)
      have := key 1 x (by rw [hx]; rfl)
      rw [e] at this
      exact this
end
end Go.Proofs.Ytihebflgceljfaa

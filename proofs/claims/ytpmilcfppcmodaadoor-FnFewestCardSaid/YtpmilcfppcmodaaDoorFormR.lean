/- The rows of cells behind a slice that is an argument of a law. -/
import Derived.Test.YtpmilcfppcmodaaDoorForm
set_option linter.unusedVariables false
set_option linter.unusedSimpArgs false
namespace Go.Proofs.YtpmilcfppcmodaaDoor
open Go.ChangeShapes Go.WideShapes Go.ChangeAt Go.RowKit
section
variable {H : Type} {enc : TypeId × Value → H} {W : World} {base : Nat} {spare : Nat → Bool} {held : Bool} {fuel : Nat}
set_option maxRecDepth 100000 in
/-- The rows of cells behind a slice. -/
theorem rows_form {t e : TypeId} {n : Nat} {r : Reach} {b0 : Nat} {v : Value} {d : DataW H} {p : List MemPlace} (ht : Tryd.prog.underlying t = some (.slice e)) (hn : Tryd.prog.cellsOf e = n) (hn0 : 0 < n)
    (hv : Value.okWide Tryd.prog W r b0 t v) (h : DataW.Trod enc Tryd.prog W base spare held t v d p) :
    ∃ (A : Option Addr) (rows : List (List Value)) (c : Nat), v = .slice A rows.length c ∧ rows.length ≤ 9223372036854775807 ∧
      (∀ (i : Nat) row, rows[i]? = some row → row.length = n ∧ ∃ m y, DataW.trod enc Tryd.prog W base spare held m e row = some y) ∧
      (rows = [] ∨ ∃ b o, A = some ⟨b, o, none⟩ ∧ ∀ (i : Nat) row, rows[i]? = some row → ∀ (j : Nat) x, row[j]? = some x → W.cell? ⟨b, o + (i * n + j), none⟩ = some x) := by
  obtain ⟨a0, len0, cap0, rfl⟩ := okWide_slice ht hv
  obtain ⟨f, hf⟩ := h
  rcases DataW.trod_slice ht hf with ⟨hc, _⟩ | ⟨a, len, cap, elems, rest, m, _, hc, _, hb, hl, hm, hlen, hel, _, _⟩
  · simp only [Value.cells, List.cons.injEq, Value.slice.injEq, and_true] at hc
    obtain ⟨rfl, rfl, rfl⟩ := hc
    exact ⟨none, [], 0, rfl, by simp, fun i row hr => by simp at hr, .inl rfl⟩
  · simp only [Value.cells, List.cons.injEq, Value.slice.injEq, and_true] at hc
    obtain ⟨rfl, rfl, rfl⟩ := hc
    rw [hn] at hel
    have each : ∀ i, i < len0 → ∃ row, W.cells? base (a.add (i * n)) n = some row ∧ row.length = n ∧ (∃ m y, DataW.trod enc Tryd.prog W base spare held m e row = some y) ∧ ∀ (j : Nat) x, row[j]? = some x → W.cell? ((a.add (i * n)).add j) = some x := by
      intro i hi
      have he := hel i hi
      rw [List.getElem?_eq_getElem (by omega), Option.bind_eq_some_iff] at he
      obtain ⟨row, h1, h2⟩ := he
      obtain ⟨_, h3, h4⟩ := World.cells?_some h1
      exact ⟨row, h1, h3, ⟨m, _, h2⟩, fun j x hx => by
        have hj : j < n := by have := (List.getElem?_eq_some_iff.1 hx).1; omega
        rw [h4 j hj]; exact hx⟩
    obtain ⟨rows, hrows⟩ : ∃ rows : List (List Value), rows = (List.range len0).map fun i => (W.cells? base (a.add (i * n)) n).getD [] := ⟨_, rfl⟩
    have hrl : rows.length = len0 := by rw [hrows]; simp
    have hri : ∀ (i : Nat) row, rows[i]? = some row → i < len0 ∧ W.cells? base (a.add (i * n)) n = some row := by
      intro i row hr
      have hi : i < len0 := by have := (List.getElem?_eq_some_iff.1 hr).1; omega
      obtain ⟨row', h1, _⟩ := each i hi
      rw [hrows, List.getElem?_map, List.getElem?_range hi] at hr
      simp [h1] at hr
      exact ⟨hi, by rw [h1, hr]⟩
    refine ⟨some a, rows, cap0, by rw [hrl], by rw [hrl]; unfold maxLen at hm; omega, fun i row hr => ?_, ?_⟩
    · obtain ⟨hi, h1⟩ := hri i row hr
      obtain ⟨row', h1', h2, h3, _⟩ := each i hi
      obtain rfl : row' = row := Option.some.inj (h1'.symm.trans h1)
      exact ⟨h2, h3⟩
    · by_cases h0 : len0 = 0
      · exact .inl (List.eq_nil_of_length_eq_zero (by omega))
      · have key : ∀ (i : Nat) row, rows[i]? = some row → ∀ (j : Nat) x, row[j]? = some x → W.cell? ((a.add (i * n)).add j) = some x := by
          intro i row hr
          obtain ⟨hi, h1⟩ := hri i row hr
          obtain ⟨row', h1', _, _, h4⟩ := each i hi
          obtain rfl : row' = row := Option.some.inj (h1'.symm.trans h1)
          exact h4
        obtain ⟨b, off, spot⟩ := a
        cases spot with
        | some s =>
          obtain ⟨row', h1, h2, _, h4⟩ := each 0 (by omega)
          have h5 := World.cell?_spot (h4 0 (row'[0]'(by omega)) (List.getElem?_eq_getElem _))
          simp [Addr.add] at h5
        | none =>
          refine .inr ⟨b, off, rfl, fun i row hr j x hx => ?_⟩
          have := key i row hr j x hx
          rw [add_plain, add_plain, Nat.add_assoc] at this
          exact this
end
end Go.Proofs.YtpmilcfppcmodaaDoor

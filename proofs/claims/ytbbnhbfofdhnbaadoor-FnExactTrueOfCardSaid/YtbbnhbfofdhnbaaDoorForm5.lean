/- What a slice of slices of words looks like, as an argument of a law. -/
import Derived.Test.YtbbnhbfofdhnbaaDoorForm2
import Derived.Test.YtbbnhbfofdhnbaaDoorTL1
set_option linter.unusedVariables false
set_option linter.unusedSimpArgs false
namespace Go.Proofs.YtbbnhbfofdhnbaaDoor
open Go.ChangeShapes Go.WideShapes Go.ChangeAt Go.RowKit
section
variable {H : Type} {enc : TypeId × Value → H} {W : World} {base : Nat} {spare : Nat → Bool} {held : Bool} {fuel : Nat}
set_option maxRecDepth 100000 in
/-- The rows of cells behind a slice that is read. -/
theorem rows_read {t e : TypeId} {n : Nat} {vs : List Value} {y : DataW H × List MemPlace} (ht : Tryd.prog.underlying t = some (.slice e)) (hn : Tryd.prog.cellsOf e = n) (hn0 : 0 < n)
    (hf : DataW.trod enc Tryd.prog W base spare held fuel t vs = some y) :
    ∃ (A : Option Addr) (rows : List (List Value)) (c : Nat), vs = [.slice A rows.length c] ∧ rows.length ≤ 9223372036854775807 ∧
      (∀ (i : Nat) row, rows[i]? = some row → row.length = n ∧ ∃ m y, DataW.trod enc Tryd.prog W base spare held m e row = some y) ∧
      (rows = [] ∨ ∃ b o, A = some ⟨b, o, none⟩ ∧ ∀ (i : Nat) row, rows[i]? = some row → ∀ (j : Nat) x, row[j]? = some x → W.cell? ⟨b, o + (i * n + j), none⟩ = some x) := by
  rcases DataW.trod_slice ht hf with ⟨hc, _⟩ | ⟨a, len, cap, elems, rest, m, _, hc, _, hb, hl, hm, hlen, hel, _, _⟩
  · exact ⟨none, [], 0, by simpa using hc, by simp, fun i row hr => by simp at hr, .inl rfl⟩
  · rw [hn] at hel
    have each : ∀ i, i < len → ∃ row, W.cells? base (a.add (i * n)) n = some row ∧ row.length = n ∧ (∃ m y, DataW.trod enc Tryd.prog W base spare held m e row = some y) ∧ ∀ (j : Nat) x, row[j]? = some x → W.cell? ((a.add (i * n)).add j) = some x := by
      intro i hi
      have he := hel i hi
      rw [List.getElem?_eq_getElem (by omega), Option.bind_eq_some_iff] at he
      obtain ⟨row, h1, h2⟩ := he
      obtain ⟨_, h3, h4⟩ := World.cells?_some h1
      exact ⟨row, h1, h3, ⟨m, _, h2⟩, fun j x hx => by
        have hj : j < n := by have := (List.getElem?_eq_some_iff.1 hx).1; omega
        rw [h4 j hj]; exact hx⟩
    obtain ⟨rows, hrows⟩ : ∃ rows : List (List Value), rows = (List.range len).map fun i => (W.cells? base (a.add (i * n)) n).getD [] := ⟨_, rfl⟩
    have hrl : rows.length = len := by rw [hrows]; simp
    have hri : ∀ (i : Nat) row, rows[i]? = some row → i < len ∧ W.cells? base (a.add (i * n)) n = some row := by
      intro i row hr
      have hi : i < len := by have := (List.getElem?_eq_some_iff.1 hr).1; omega
      obtain ⟨row', h1, _⟩ := each i hi
      rw [hrows, List.getElem?_map, List.getElem?_range hi] at hr
      simp [h1] at hr
      exact ⟨hi, by rw [h1, hr]⟩
    refine ⟨some a, rows, cap, by rw [hrl]; exact hc, by rw [hrl]; unfold maxLen at hm; omega, fun i row hr => ?_, ?_⟩
    · obtain ⟨hi, h1⟩ := hri i row hr
      obtain ⟨row', h1', h2, h3, _⟩ := each i hi
      obtain rfl : row' = row := Option.some.inj (h1'.symm.trans h1)
      exact ⟨h2, h3⟩
    · by_cases h0 : len = 0
      · exact .inl (List.eq_nil_of_length_eq_zero (by omega))
      · have key : ∀ (i : Nat) row, rows[i]? = some row → ∀ (j : Nat) x, row[j]? = some x → W.cell? ((a.add (i * n)).add j) = some x := by
          intro i row hr
          obtain ⟨hi, h1⟩ := hri i row hr
          obtain ⟨row', h1', _, _, h4⟩ := each i hi
          obtain rfl : row' = row := Option.some.inj (h1'.symm.trans h1)
          exact h4
        obtain ⟨b, off, spot⟩ := a
        cases spot with
        | some s =>
          obtain ⟨row', h1, h2, _, h4⟩ := each 0 (by omega)
          have h5 := World.cell?_spot (h4 0 (row'[0]'(by omega)) (List.getElem?_eq_getElem _))
          simp [Addr.add] at h5
        | none =>
          refine .inr ⟨b, off, rfl, fun i row hr j x hx => ?_⟩
          have := key i row hr j x hx
          rw [add_plain, add_plain, Nat.add_assoc] at this
          exact this
theorem words_cell : Tryd.prog.cellsOf 23 = 1 := by kernel_rfl
set_option maxRecDepth 100000 in
theorem strs_read {vs : List Value} {y : DataW H × List MemPlace} (hf : DataW.trod enc Tryd.prog W base spare held fuel 23 vs = some y) :
    ∃ x : Wl, vs = [.slice x.A x.l.length x.c] ∧ (x.l.length ≤ 9223372036854775807 ∧ Szs x.l) ∧ Rd W x.A (strs x.l) := by
  obtain ⟨A, rows, c, rfl, hm, hr, hc⟩ := rows_read Tryd.underlying23 string_cell (by decide) hf
  have hs : ∀ (i : Nat) row, rows[i]? = some row → row = [.string (strOf row)] ∧ (strOf row).size ≤ 9223372036854775807 := by
    intro i row h
    obtain ⟨_, m, y, h1⟩ := hr i row h
    obtain ⟨s, e0, _, w0⟩ := DataW.trod_string Tryd.underlying9 h1
    subst e0
    exact ⟨rfl, by unfold maxLen at w0; show s.size ≤ _; omega⟩
  refine ⟨⟨A, rows.map strOf, c⟩, by rw [List.length_map], ⟨by rw [List.length_map]; exact hm, ?_⟩, ?_⟩
  · intro s hs'
    obtain ⟨row, hrow, rfl⟩ := List.mem_map.1 hs'
    obtain ⟨i, hi⟩ := List.getElem?_of_mem hrow
    exact (hs i row hi).2
  · rcases hc with rfl | ⟨b, o, rfl, hc⟩
    · exact .inl rfl
    · refine .inr ⟨b, o, rfl, fun j x hj => ?_⟩
      rw [strs, List.map_map, List.getElem?_map] at hj
      cases hrow : rows[j]? with
      | none => rw [hrow] at hj; simp at hj
      | some row =>
        rw [hrow] at hj
        have hx : x = .string (strOf row) := by simpa using hj.symm
        have := hc j row hrow 0 x (by rw [(hs j row hrow).1, hx]; rfl)
        simpa using this
set_option maxRecDepth 100000 in
theorem strss_form {r : Reach} {b0 : Nat} {v : Value} {d : DataW H} {p : List MemPlace} (hv : Value.okWide Tryd.prog W r b0 22 v) (h : DataW.Trod enc Tryd.prog W base spare held 22 v d p) :
    ∃ (A : Option Addr) (xs : List Wl) (c : Nat), v = .slice A xs.length c ∧ (xs.length ≤ 9223372036854775807 ∧ SzW (lw xs) ∧ Rds W A xs) := by
  obtain ⟨A, rows, c, rfl, hm, hr, hc⟩ := rows_form Tryd.underlying22 words_cell (by decide) hv h
  have hs : ∀ (i : Nat) row, rows[i]? = some row → ∃ x : Wl, row = [.slice x.A x.l.length x.c] ∧ (x.l.length ≤ 9223372036854775807 ∧ Szs x.l) ∧ Rd W x.A (strs x.l) := by
    intro i row h
    obtain ⟨_, m, y, h1⟩ := hr i row h
    exact strs_read h1
  have hall : ∃ xs : List Wl, rows = xs.map (fun x => [.slice x.A x.l.length x.c]) ∧ ∀ x ∈ xs, (x.l.length ≤ 9223372036854775807 ∧ Szs x.l) ∧ Rd W x.A (strs x.l) := by
    clear hm hr hc hv h
    induction rows with
    | nil => exact ⟨[], rfl, fun x hx => by simp at hx⟩
    | cons row rows ih =>
      obtain ⟨x, e, hx⟩ := hs 0 row rfl
      obtain ⟨xs, e2, hxs⟩ := ih (fun i row h => hs (i + 1) row (by simpa using h))
      refine ⟨x :: xs, by rw [e, e2]; rfl, fun z hz => ?_⟩
      rcases List.mem_cons.1 hz with rfl | hz
      · exact hx
      · exact hxs z hz
  obtain ⟨xs, rfl, hxs⟩ := hall
  refine ⟨A, xs, c, by rw [List.length_map], by rw [List.length_map] at hm; exact hm, ?_, ?_, fun x hx => (hxs x hx).2⟩
  · intro l hl
    obtain ⟨x, hx, rfl⟩ := List.mem_map.1 hl
    exact (hxs x hx).1
  · rcases hc with h | ⟨b, o, rfl, hc⟩
    · have : xs = [] := by simpa using h
      subst this; exact .inl rfl
    · refine .inr ⟨b, o, rfl, fun j z hj => ?_⟩
      rw [sls, List.getElem?_map] at hj
      cases hx : xs[j]? with
      | none => rw [hx] at hj; simp at hj
      | some x =>
        rw [hx] at hj
        have hz : z = .slice x.A x.l.length x.c := by simpa using hj.symm
        have := hc j [.slice x.A x.l.length x.c] (by rw [List.getElem?_map, hx]; rfl) 0 z (by rw [hz]; rfl)
        simpa using this
end
end Go.Proofs.YtbbnhbfofdhnbaaDoor

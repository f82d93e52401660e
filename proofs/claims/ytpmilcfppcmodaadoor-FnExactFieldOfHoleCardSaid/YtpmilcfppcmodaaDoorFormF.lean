/- What slices of queries and of fields look like, as arguments of a law. -/
import Derived.Test.YtpmilcfppcmodaaDoorFormR
import Derived.Test.YtpmilcfppcmodaaDoorFD
set_option linter.unusedVariables false
set_option linter.unusedSimpArgs false
namespace Go.Proofs.YtpmilcfppcmodaaDoor
open Go.ChangeShapes Go.WideShapes Go.ChangeAt Go.RowKit
section
variable {H : Type} {enc : TypeId × Value → H} {W : World} {base : Nat} {spare : Nat → Bool} {held : Bool} {fuel : Nat}
/-- What is known of the fields of a list that came in. -/
def FdW (l : List Fd) : Prop := ∀ x ∈ l, x.s.size ≤ 9223372036854775807 ∧ (-128 ≤ x.k ∧ x.k ≤ 127) ∧ I16 x.st ∧ I16 x.sz
theorem query_cell4 : Tryd.prog.cellsOf 66 = 4 := by kernel_rfl
theorem rows_qys : ∀ (rows : List (List Value)), (∀ (i : Nat) row, rows[i]? = some row → ∃ x : Qy, row = qyV x) → ∃ l : List Qy, rows = l.map qyV
  | [], _ => ⟨[], rfl⟩
  | r :: rows, h => by
    obtain ⟨l, hl⟩ := rows_qys rows fun i row hr => h (i + 1) row (by simpa using hr)
    obtain ⟨x, e⟩ := h 0 r (by simp)
    exact ⟨x :: l, by rw [hl, e]; rfl⟩
set_option maxRecDepth 100000 in
theorem queries_form {r : Reach} {b0 : Nat} {v : Value} {d : DataW H} {p : List MemPlace} (hv : Value.okWide Tryd.prog W r b0 74 v) (h : DataW.Trod enc Tryd.prog W base spare held 74 v d p) :
    ∃ (A : Option Addr) (l : List Qy) (c : Nat), v = .slice A l.length c ∧ (l.length ≤ 9223372036854775807 ∧ Rd W A (qys l)) := by
  obtain ⟨A, rows, c, rfl, hm, hr, hc⟩ := rows_form Tryd.underlying74 query_cell4 (by decide) hv h
  obtain ⟨l, rfl⟩ := rows_qys rows fun i row h => by
    obtain ⟨_, m, y, h1⟩ := hr i row h
    obtain ⟨a, b, c', e, g⟩ := query_trod h1
    exact ⟨⟨a, b, c', e⟩, g⟩
  refine ⟨A, l, c, by rw [List.length_map], by rw [List.length_map] at hm; exact hm, ?_⟩
  rcases hc with h0 | ⟨b, o, rfl, hc⟩
  · have : l = [] := by simpa using h0
    subst this
    exact .inl rfl
  · refine .inr ⟨b, o, rfl, fun j x hj => ?_⟩
    have hjl : j < 4 * l.length := by rw [← qys_len]; exact (List.getElem?_eq_some_iff.1 hj).1
    have hi : j / 4 < l.length := by omega
    have hrow : (l.map qyV)[j / 4]? = some (qyV l[j / 4]) := by simp [hi]
    obtain ⟨h1, h2, h3, h4⟩ := qys_at l (j / 4) hi
    have key := hc (j / 4) _ hrow
    rcases (show j % 4 = 0 ∨ j % 4 = 1 ∨ j % 4 = 2 ∨ j % 4 = 3 by omega) with hj0 | hj0 | hj0 | hj0
    · have e : j / 4 * 4 = j := by omega
      rw [e] at h1
      have hx := Option.some.inj (hj.symm.trans h1)
      have := key 0 x (by rw [hx]; rfl)
      rw [e] at this
      simpa using this
    · have e : j / 4 * 4 + 1 = j := by omega
      rw [e] at h2
      have hx := Option.some.inj (hj.symm.trans h2)
      have := key 1 x (by rw [hx]; rfl)
      rw [e] at this
      exact this
    · have e : j / 4 * 4 + 2 = j := by omega
      rw [e] at h3
      have hx := Option.some.inj (hj.symm.trans h3)
      have := key 2 x (by rw [hx]; rfl)
      rw [e] at this
      exact this
    · have e : j / 4 * 4 + 3 = j := by omega
      rw [e] at h4
      have hx := Option.some.inj (hj.symm.trans h4)
      have := key 3 x (by rw [hx]; rfl)
      rw [e] at this
      exact this
theorem field_cell4 : Tryd.prog.cellsOf 85 = 4 := by kernel_rfl
theorem rows_fds : ∀ (rows : List (List Value)), (∀ (i : Nat) row, rows[i]? = some row → ∃ x : Fd, row = fdV x ∧ (x.s.size ≤ 9223372036854775807 ∧ (-128 ≤ x.k ∧ x.k ≤ 127) ∧ I16 x.st ∧ I16 x.sz)) → ∃ l : List Fd, rows = l.map fdV ∧ FdW l
  | [], _ => ⟨[], rfl, fun x hx => by cases hx⟩
  | r :: rows, h => by
    obtain ⟨l, hl, hz⟩ := rows_fds rows fun i row hr => h (i + 1) row (by simpa using hr)
    obtain ⟨x, e, hs⟩ := h 0 r (by simp)
    exact ⟨x :: l, by rw [hl, e]; rfl, fun y hy => by
      rcases List.mem_cons.1 hy with rfl | hy
      · exact hs
      · exact hz y hy⟩
set_option maxRecDepth 100000 in
theorem fields_form {r : Reach} {b0 : Nat} {v : Value} {d : DataW H} {p : List MemPlace} (hv : Value.okWide Tryd.prog W r b0 51 v) (h : DataW.Trod enc Tryd.prog W base spare held 51 v d p) :
    ∃ (A : Option Addr) (l : List Fd) (c : Nat), v = .slice A l.length c ∧ (l.length ≤ 9223372036854775807 ∧ FdW l ∧ Rd W A (fds l)) := by
  obtain ⟨A, rows, c, rfl, hm, hr, hc⟩ := rows_form Tryd.underlying51 field_cell4 (by decide) hv h
  obtain ⟨l, rfl, hz⟩ := rows_fds rows fun i row h => by
    obtain ⟨_, m, y, h1⟩ := hr i row h
    obtain ⟨s, k, st, sz, e, hs⟩ := field_trod h1
    exact ⟨⟨s, k, st, sz⟩, e, hs⟩
  refine ⟨A, l, c, by rw [List.length_map], by rw [List.length_map] at hm; exact hm, hz, ?_⟩
  rcases hc with h0 | ⟨b, o, rfl, hc⟩
  · have : l = [] := by simpa using h0
    subst this
    exact .inl rfl
  · refine .inr ⟨b, o, rfl, fun j x hj => ?_⟩
    have hjl : j < 4 * l.length := by rw [← fds_len]; exact (List.getElem?_eq_some_iff.1 hj).1
    have hi : j / 4 < l.length := by omega
    have hrow : (l.map fdV)[j / 4]? = some (fdV l[j / 4]) := by simp [hi]
    obtain ⟨h1, h2, h3, h4⟩ := fds_at l (j / 4) hi
    have key := hc (j / 4) _ hrow
    rcases (show j % 4 = 0 ∨ j % 4 = 1 ∨ j % 4 = 2 ∨ j % 4 = 3 by omega) with hj0 | hj0 | hj0 | hj0
    · have e : j / 4 * 4 = j := by omega
      rw [e] at h1
      have hx := Option.some.inj (hj.symm.trans h1)
      have := key 0 x (by rw [hx]; rfl)
      rw [e] at this
      simpa using this
    · have e : j / 4 * 4 + 1 = j := by omega
      rw [e] at h2
      have hx := Option.some.inj (hj.symm.trans h2)
      have := key 1 x (by rw [hx]; rfl)
      rw [e] at this
      exact this
    · have e : j / 4 * 4 + 2 = j := by omega
      rw [e] at h3
      have hx := Option.some.inj (hj.symm.trans h3)
      have := key 2 x (by rw [hx]; rfl)
      rw [e] at this
      exact this
    · have e : j / 4 * 4 + 3 = j := by omega
      rw [e] at h4
      have hx := Option.some.inj (hj.symm.trans h4)
      have := key 3 x (by rw [hx]; rfl)
      rw [e] at this
      exact this
end
end Go.Proofs.YtpmilcfppcmodaaDoor

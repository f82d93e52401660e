/- What a slice of cards looks like, as an argument of a law. -/
import Derived.Test.YtpmilcfppcmodaaDoorFormR
import Derived.Test.YtpmilcfppcmodaaDoorDT
set_option linter.unusedVariables false
set_option linter.unusedSimpArgs false
namespace Go.Proofs.YtpmilcfppcmodaaDoor
open Go.ChangeShapes Go.WideShapes Go.ChangeAt Go.RowKit
section
variable {H : Type} {enc : TypeId × Value → H} {W : World} {base : Nat} {spare : Nat → Bool} {held : Bool} {fuel : Nat}
theorem card_cell : Tryd.prog.cellsOf 118 = 3 := by kernel_rfl
/-- The cards of such rows. -/
theorem rows_cards : ∀ (rows : List (List Value)), (∀ (i : Nat) row, rows[i]? = some row → ∃ (s : ByteArray) (a b : Wd), row = [.string s, .int .u64 (U a), .int .u64 (U b)] ∧ s.size ≤ 9223372036854775807) → ∃ l : List Cd, rows = l.map cdV ∧ CSz l
  | [], _ => ⟨[], rfl, fun x hx => by cases hx⟩
  | r :: rows, h => by
    obtain ⟨l, hl, hz⟩ := rows_cards rows fun i row hr => h (i + 1) row (by simpa using hr)
    obtain ⟨s, a, b, e, hs⟩ := h 0 r (by simp)
    refine ⟨⟨s, a, b⟩ :: l, by rw [hl, e]; rfl, fun x hx => ?_⟩
    rcases List.mem_cons.1 hx with rfl | hx
    · exact hs
    · exact hz x hx
set_option maxRecDepth 100000 in
theorem cards_form {r : Reach} {b0 : Nat} {v : Value} {d : DataW H} {p : List MemPlace} (hv : Value.okWide Tryd.prog W r b0 42 v) (h : DataW.Trod enc Tryd.prog W base spare held 42 v d p) :
    ∃ (A : Option Addr) (l : List Cd) (c : Nat), v = .slice A l.length c ∧ (l.length ≤ 9223372036854775807 ∧ CSz l ∧ Rd W A (cds l)) := by
  obtain ⟨A, rows, c, rfl, hm, hr, hc⟩ := rows_form Tryd.underlying42 card_cell (by decide) hv h
  obtain ⟨l, rfl, hz⟩ := rows_cards rows fun i row h => by
    obtain ⟨_, m, y, h1⟩ := hr i row h
    exact card_trod h1
  refine ⟨A, l, c, by rw [List.length_map], by rw [List.length_map] at hm; exact hm, hz, ?_⟩
  rcases hc with h0 | ⟨b, o, rfl, hc⟩
  · have : l = [] := by simpa using h0
    subst this
    exact .inl rfl
  · refine .inr ⟨b, o, rfl, fun j x hj => ?_⟩
    have hjl : j < 3 * l.length := by rw [← cds_len]; exact (List.getElem?_eq_some_iff.1 hj).1
    have hi : j / 3 < l.length := by omega
    have hrow : (l.map cdV)[j / 3]? = some (cdV l[j / 3]) := by simp [hi]
    have h2 := cds_at l (j / 3) hi
    have key := hc (j / 3) _ hrow
    rcases (show j % 3 = 0 ∨ j % 3 = 1 ∨ j % 3 = 2 by omega) with hj0 | hj0 | hj0
    · have e : j / 3 * 3 = j := by omega
      rw [e] at h2
      have hx : x = .string l[j / 3].s := Option.some.inj (hj.symm.trans h2.1)
      have := key 0 x (by rw [hx]; rfl)
      rw [e] at this
      simpa using this
    · have e : j / 3 * 3 + 1 = j := by omega
      rw [e] at h2
      have hx : x = .int .u64 (U l[j / 3].a) := Option.some.inj (hj.symm.trans h2.2.1)
      have := key 1 x (by rw [hx]; rfl)
      rw [e] at this
      exact this
    · have e : j / 3 * 3 + 2 = j := by omega
      rw [e] at h2
      have hx : x = .int .u64 (U l[j / 3].b) := Option.some.inj (hj.symm.trans h2.2.2)
      have := key 2 x (by rw [hx]; rfl)
      rw [e] at this
      exact this
end
end Go.Proofs.YtpmilcfppcmodaaDoor

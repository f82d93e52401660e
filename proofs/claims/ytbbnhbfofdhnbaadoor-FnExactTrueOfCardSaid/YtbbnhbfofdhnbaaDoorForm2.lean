/- What a slice of words looks like, as an argument of a law. -/
import Derived.Test.YtbbnhbfofdhnbaaDoorFormR
import Derived.Test.YtbbnhbfofdhnbaaDoorX5
set_option linter.unusedVariables false
set_option linter.unusedSimpArgs false
namespace Go.Proofs.YtbbnhbfofdhnbaaDoor
open Go.ChangeShapes Go.WideShapes Go.ChangeAt Go.RowKit
section
variable {H : Type} {enc : TypeId × Value → H} {W : World} {base : Nat} {spare : Nat → Bool} {held : Bool} {fuel : Nat}
def strOf : List Value → ByteArray
  | [.string s] => s
  | _ => ByteArray.empty
theorem string_cell : Tryd.prog.cellsOf 9 = 1 := by kernel_rfl
set_option maxRecDepth 100000 in
theorem strs_form {r : Reach} {b0 : Nat} {v : Value} {d : DataW H} {p : List MemPlace} (hv : Value.okWide Tryd.prog W r b0 23 v) (h : DataW.Trod enc Tryd.prog W base spare held 23 v d p) :
    ∃ (A : Option Addr) (l : List ByteArray) (c : Nat), v = .slice A l.length c ∧ (l.length ≤ 9223372036854775807 ∧ Szs l ∧ Rd W A (strs l)) := by
  obtain ⟨A, rows, c, rfl, hm, hr, hc⟩ := rows_form Tryd.underlying23 string_cell (by decide) hv h
  have hs : ∀ (i : Nat) row, rows[i]? = some row → row = [.string (strOf row)] ∧ (strOf row).size ≤ 9223372036854775807 := by
    intro i row h
    obtain ⟨_, m, y, h1⟩ := hr i row h
    obtain ⟨s, e0, _, w0⟩ := DataW.trod_string Tryd.underlying9 h1
    subst e0
    exact ⟨rfl, by unfold maxLen at w0; show s.size ≤ _; omega⟩
  refine ⟨A, rows.map strOf, c, by rw [List.length_map], by rw [List.length_map]; exact hm, ?_, ?_⟩
  · intro s hs'
    obtain ⟨row, hrow, rfl⟩ := List.mem_map.1 hs'
    obtain ⟨i, hi⟩ := List.getElem?_of_mem hrow
    exact (hs i row hi).2
  · rcases hc with rfl | ⟨b, o, rfl, hc⟩
    · exact .inl rfl
    · refine .inr ⟨b, o, rfl, fun j x hj => ?_⟩
      rw [strs, List.map_map, List.getElem?_map] at hj
      cases hrow : rows[j]? with
      | none => rw [hrow] at hj; simp at hj
      | some row =>
        rw [hrow] at hj
        have hx : x = .string (strOf row) := by simpa using hj.symm
        have := hc j row hrow 0 x (by rw [(hs j row hrow).1, hx]; rfl)
        simpa using this
end
end Go.Proofs.YtbbnhbfofdhnbaaDoor

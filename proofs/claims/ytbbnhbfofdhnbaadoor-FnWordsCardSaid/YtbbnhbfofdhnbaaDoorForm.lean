/- What the arguments of a law look like: values of its parameter types that can be read as data. -/
import Derived.Test.YtbbnhbfofdhnbaaDoorRd
import Derived.ProofKit
import Derived.OpenShut
import Derived.Lib.SmallJoins
import Derived.ChangeSlices
import Derived.DataReads
set_option linter.unusedVariables false
set_option linter.unusedSimpArgs false
namespace Go.Proofs.YtbbnhbfofdhnbaaDoor
open Go.ChangeShapes Go.WideShapes Go.ChangeAt Go.RowKit
open Go.ChangeMaps (open_string shut_string)

theorem own : ownKnob Tryd.prog.godebug = none := by kernel_rfl
theorem laidOut : laidOutB Tryd.prog = true := by kernel_rfl
section
variable {H : Type} {enc : TypeId × Value → H} {W : World} {base : Nat} {spare : Nat → Bool} {held : Bool} {fuel : Nat}
theorem okWide_array {P : Program} {w : World} {r : Reach} {b0 n : Nat} {t e : TypeId} {v : Value} (ht : P.underlying t = some (.array n e)) (h : Value.okWide P w r b0 t v) : ∃ cs, v = .agg cs ∧ cs.size = P.cellsOf t := by
  simp only [Value.okWide, ht] at h
  obtain ⟨cs, h1, h2, _⟩ := h
  exact ⟨cs, h1, h2⟩
theorem u64_of {n : Int} (h : (Lit.int .u64 n).wf = true) : ∃ x : Wd, n = U x := by
  have := bounds_u64 h
  exact ⟨_, U_ofInt (by omega) (by omega)⟩
theorem arr2 {α : Type} {l : List α} (h : l.length = 2) : ∃ x y, l = [x, y] := by
  match l, h with
  | [x, y], _ => exact ⟨x, y, rfl⟩
theorem arr3 {α : Type} {l : List α} (h : l.length = 3) : ∃ x y z, l = [x, y, z] := by
  match l, h with
  | [x, y, z], _ => exact ⟨x, y, z, rfl⟩
theorem arr4 {α : Type} {l : List α} (h : l.length = 4) : ∃ x y z u, l = [x, y, z, u] := by
  match l, h with
  | [x, y, z, u], _ => exact ⟨x, y, z, u, rfl⟩
set_option maxRecDepth 100000 in
theorem mask_trod {cs : List Value} {x : DataW H × List MemPlace} (h : DataW.trod enc Tryd.prog W base spare held fuel 48 cs = some x) : ∃ a b : Wd, cs = [.int .u64 (U a), .int .u64 (U b)] := by
  obtain ⟨xs, m, rfl, hx, hl, hn, hel⟩ := DataW.trod_array Tryd.underlying48 h
  have c2 : Tryd.prog.cellsOf 48 = 2 := by kernel_rfl
  have c1 : Tryd.prog.cellsOf 47 = 1 := by kernel_rfl
  obtain ⟨p, q, rfl⟩ := arr2 hn
  obtain ⟨c0, c1', rfl⟩ := arr2 (hl.trans c2)
  have h0 := hel 0 (by decide)
  have h1 := hel 1 (by decide)
  rw [c1] at h0 h1
  obtain ⟨k0, e0, _, w0⟩ := DataW.trod_int Tryd.underlying47 (show DataW.trod enc Tryd.prog W base spare held m 47 _ = some p from h0)
  obtain ⟨k1, e1, _, w1⟩ := DataW.trod_int Tryd.underlying47 (show DataW.trod enc Tryd.prog W base spare held m 47 _ = some q from h1)
  simp at e0 e1
  obtain ⟨a, rfl⟩ := u64_of w0
  obtain ⟨b, rfl⟩ := u64_of w1
  exact ⟨a, b, by rw [e0, e1]⟩
set_option maxRecDepth 100000 in
theorem mask_form {r : Reach} {b0 : Nat} {v : Value} {d : DataW H} {p : List MemPlace} (hv : Value.okWide Tryd.prog W r b0 48 v) (h : DataW.Trod enc Tryd.prog W base spare held 48 v d p) : ∃ a b : Wd, v = .agg #[.int .u64 (U a), .int .u64 (U b)] := by
  obtain ⟨cs, rfl, _⟩ := okWide_array Tryd.underlying48 hv
  obtain ⟨f, hf⟩ := h
  obtain ⟨a, b, e⟩ := mask_trod hf
  refine ⟨a, b, ?_⟩
  obtain ⟨l⟩ := cs
  simp only [Value.cells] at e
  simpa using e
theorem i16_of {n : Int} (h : (Lit.int .i16 n).wf = true) : I16 n := bounds_i16 h
set_option maxRecDepth 100000 in
theorem mix_trod {cs : List Value} {x : DataW H × List MemPlace} (h : DataW.trod enc Tryd.prog W base spare held fuel 38 cs = some x) : ∃ s z q : Int, cs = [.int .i16 s, .int .i16 z, .int .i16 q] ∧ I16 s ∧ I16 z ∧ I16 q := by
  obtain ⟨xs, m, rfl, hx, hl, hn, hel⟩ := DataW.trod_struct Tryd.underlying38 h
  have c3 : Tryd.prog.cellsOf 38 = 3 := by kernel_rfl
  have c1 : Tryd.prog.cellsOf 36 = 1 := by kernel_rfl
  obtain ⟨p, q, r, rfl⟩ := arr3 hn
  obtain ⟨x0, x1, x2, rfl⟩ := arr3 (hl.trans c3)
  have h0 : DataW.trod enc Tryd.prog W base spare held m 36 (([x0, x1, x2].drop 0).take (Tryd.prog.cellsOf 36)) = [p, q, r][0]? := hel 0 _ rfl
  have h1 : DataW.trod enc Tryd.prog W base spare held m 36 (([x0, x1, x2].drop 1).take (Tryd.prog.cellsOf 36)) = [p, q, r][1]? := hel 1 _ rfl
  have h2 : DataW.trod enc Tryd.prog W base spare held m 36 (([x0, x1, x2].drop 2).take (Tryd.prog.cellsOf 36)) = [p, q, r][2]? := hel 2 _ rfl
  rw [c1] at h0 h1 h2
  obtain ⟨k0, e0, _, w0⟩ := DataW.trod_int Tryd.underlying36 (show DataW.trod enc Tryd.prog W base spare held m 36 [x0] = some p from h0)
  obtain ⟨k1, e1, _, w1⟩ := DataW.trod_int Tryd.underlying36 (show DataW.trod enc Tryd.prog W base spare held m 36 [x1] = some q from h1)
  obtain ⟨k2, e2, _, w2⟩ := DataW.trod_int Tryd.underlying36 (show DataW.trod enc Tryd.prog W base spare held m 36 [x2] = some r from h2)
  simp at e0 e1 e2
  exact ⟨k0, k1, k2, by simp [e0, e1, e2], i16_of w0, i16_of w1, i16_of w2⟩
set_option maxRecDepth 100000 in
theorem mix_form {r : Reach} {b0 : Nat} {v : Value} {d : DataW H} {p : List MemPlace} (hv : Value.okWide Tryd.prog W r b0 38 v) (h : DataW.Trod enc Tryd.prog W base spare held 38 v d p) : ∃ s z q : Int, v = .agg #[.int .i16 s, .int .i16 z, .int .i16 q] ∧ (I16 s ∧ I16 z ∧ I16 q) := by
  obtain ⟨cs, rfl, _⟩ := okWide_struct Tryd.underlying38 hv
  obtain ⟨f, hf⟩ := h
  obtain ⟨a, b, c, g, hw⟩ := mix_trod hf
  refine ⟨a, b, c, ?_, hw⟩
  obtain ⟨l⟩ := cs
  simp only [Value.cells] at g
  simpa using g
theorem int64_cell : Tryd.prog.cellsOf 2 = 1 := by kernel_rfl
set_option maxRecDepth 100000 in
theorem ints_form {r : Reach} {b0 : Nat} {v : Value} {d : DataW H} {p : List MemPlace} (hv : Value.okWide Tryd.prog W r b0 26 v) (h : DataW.Trod enc Tryd.prog W base spare held 26 v d p) :
    ∃ (A : Option Addr) (l : List Int) (c : Nat), v = .slice A l.length c ∧ (l.length ≤ 9223372036854775807 ∧ Rd W A (ints l)) := by
  obtain ⟨a0, len0, cap0, rfl⟩ := okWide_slice Tryd.underlying26 hv
  obtain ⟨f, hf⟩ := h
  rcases open_ints Tryd.underlying26 Tryd.underlying2 int64_cell hf with ⟨hc, _⟩ | ⟨a, len, cap, zs, hc, hb, hlc, hcm, hz, hx, hcell, hwf⟩
  · simp only [Value.cells, List.cons.injEq, Value.slice.injEq, and_true] at hc
    obtain ⟨rfl, rfl, rfl⟩ := hc
    exact ⟨none, [], 0, rfl, by simp, Rd.nil _ _⟩
  · simp only [Value.cells, List.cons.injEq, Value.slice.injEq, and_true] at hc
    obtain ⟨rfl, rfl, rfl⟩ := hc
    have hlz : len0 ≤ zs.length := by rw [hz]; split <;> omega
    have hl : (zs.take len0).length = len0 := by simp; omega
    refine ⟨some a, zs.take len0, cap0, by rw [hl], by rw [hl]; unfold maxLen at hcm; omega, ?_⟩
    by_cases h0 : len0 = 0
    · subst h0; exact .inl (by simp [ints])
    · obtain ⟨b, off, spot⟩ := a
      cases spot with
      | some s =>
        have h1 := World.cell?_spot (hcell 0 (by omega))
        simp [Addr.add] at h1
      | none =>
        refine .inr ⟨b, off, rfl, fun j v hj => ?_⟩
        have hjl : j < len0 := by
          have := (List.getElem?_eq_some_iff.1 hj).1
          rw [ints, List.length_map, hl] at this; exact this
        have h1 := hcell j (by omega)
        rw [add_plain] at h1
        rw [h1, ← hj]
        simp [ints, List.getElem?_take, hjl, List.getD_eq_getElem?_getD, show j < zs.length by omega]
end
end Go.Proofs.YtbbnhbfofdhnbaaDoor

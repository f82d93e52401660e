/- What the arguments of a law look like: values of its parameter types that can be read as data. -/
import Derived.Test.YtpmilcfppcmodaaDoorRd
import Derived.ProofKit
import Derived.OpenShut
import Derived.Lib.SmallJoins
import Derived.ChangeSlices
import Derived.DataReads
set_option linter.unusedVariables false
set_option linter.unusedSimpArgs false
namespace Go.Proofs.YtpmilcfppcmodaaDoor
open Go.ChangeShapes Go.WideShapes Go.ChangeAt Go.RowKit
open Go.ChangeMaps (open_string shut_string)

theorem own : ownKnob Tryd.prog.godebug = none := by kernel_rfl
theorem laidOut : laidOutB Tryd.prog = true := by kernel_rfl
section
variable {H : Type} {enc : TypeId × Value → H} {W : World} {base : Nat} {spare : Nat → Bool} {held : Bool} {fuel : Nat}
theorem okWide_array {P : Program} {w : World} {r : Reach} {b0 n : Nat} {t e : TypeId} {v : Value} (ht : P.underlying t = some (.array n e)) (h : Value.okWide P w r b0 t v) : ∃ cs, v = .agg cs ∧ cs.size = P.cellsOf t := by
  simp only [Value.okWide, ht] at h
  obtain ⟨cs, h1, h2, _⟩ := h
  exact ⟨cs, h1, h2⟩
theorem u64_of {n : Int} (h : (Lit.int .u64 n).wf = true) : ∃ x : Wd, n = U x := by
  have := bounds_u64 h
  exact ⟨_, U_ofInt (by omega) (by omega)⟩
theorem arr2 {α : Type} {l : List α} (h : l.length = 2) : ∃ x y, l = [x, y] := by
  match l, h with
  | [x, y], _ => exact ⟨x, y, rfl⟩
theorem arr3 {α : Type} {l : List α} (h : l.length = 3) : ∃ x y z, l = [x, y, z] := by
  match l, h with
  | [x, y, z], _ => exact ⟨x, y, z, rfl⟩
theorem arr4 {α : Type} {l : List α} (h : l.length = 4) : ∃ x y z u, l = [x, y, z, u] := by
  match l, h with
  | [x, y, z, u], _ => exact ⟨x, y, z, u, rfl⟩
set_option maxRecDepth 100000 in
theorem mask_trod {cs : List Value} {x : DataW H × List MemPlace} (h : DataW.trod enc Tryd.prog W base spare held fuel 32 cs = some x) : ∃ a b : Wd, cs = [.int .u64 (U a), .int .u64 (U b)] := by
  obtain ⟨xs, m, rfl, hx, hl, hn, hel⟩ := DataW.trod_array Tryd.underlying32 h
  have c2 : Tryd.prog.cellsOf 32 = 2 := by kernel_rfl
  have c1 : Tryd.prog.cellsOf 31 = 1 := by kernel_rfl
  obtain ⟨p, q, rfl⟩ := arr2 hn
  obtain ⟨c0, c1', rfl⟩ := arr2 (hl.trans c2)
  have h0 := hel 0 (by decide)
  have h1 := hel 1 (by decide)
  rw [c1] at h0 h1
  obtain ⟨k0, e0, _, w0⟩ := DataW.trod_int Tryd.underlying31 (show DataW.trod enc Tryd.prog W base spare held m 31 _ = some p from h0)
  obtain ⟨k1, e1, _, w1⟩ := DataW.trod_int Tryd.underlying31 (show DataW.trod enc Tryd.prog W base spare held m 31 _ = some q from h1)
  simp at e0 e1
  obtain ⟨a, rfl⟩ := u64_of w0
  obtain ⟨b, rfl⟩ := u64_of w1
  exact ⟨a, b, by rw [e0, e1]⟩
set_option maxRecDepth 100000 in
theorem mask_form {r : Reach} {b0 : Nat} {v : Value} {d : DataW H} {p : List MemPlace} (hv : Value.okWide Tryd.prog W r b0 32 v) (h : DataW.Trod enc Tryd.prog W base spare held 32 v d p) : ∃ a b : Wd, v = .agg #[.int .u64 (U a), .int .u64 (U b)] := by
  obtain ⟨cs, rfl, _⟩ := okWide_array Tryd.underlying32 hv
  obtain ⟨f, hf⟩ := h
  obtain ⟨a, b, e⟩ := mask_trod hf
  refine ⟨a, b, ?_⟩
  obtain ⟨l⟩ := cs
  simp only [Value.cells] at e
  simpa using e
set_option maxRecDepth 100000 in
theorem query_trod {cs : List Value} {x : DataW H × List MemPlace} (h : DataW.trod enc Tryd.prog W base spare held fuel 66 cs = some x) : ∃ a b c e : Wd, cs = [.int .u64 (U a), .int .u64 (U b), .int .u64 (U c), .int .u64 (U e)] := by
  obtain ⟨xs, m, rfl, hx, hl, hn, hel⟩ := DataW.trod_struct Tryd.underlying66 h
  have c4 : Tryd.prog.cellsOf 66 = 4 := by kernel_rfl
  have c2 : Tryd.prog.cellsOf 32 = 2 := by kernel_rfl
  obtain ⟨p, q, rfl⟩ := arr2 hn
  obtain ⟨x0, x1, x2, x3, rfl⟩ := arr4 (hl.trans c4)
  have h0 : DataW.trod enc Tryd.prog W base spare held m 32 (([x0, x1, x2, x3].drop 0).take (Tryd.prog.cellsOf 32)) = [p, q][0]? := hel 0 _ rfl
  have h1 : DataW.trod enc Tryd.prog W base spare held m 32 (([x0, x1, x2, x3].drop 2).take (Tryd.prog.cellsOf 32)) = [p, q][1]? := hel 1 _ rfl
  rw [c2] at h0 h1
  obtain ⟨a, b, e0⟩ := mask_trod (show DataW.trod enc Tryd.prog W base spare held m 32 [x0, x1] = some p from h0)
  obtain ⟨c, d, e1⟩ := mask_trod (show DataW.trod enc Tryd.prog W base spare held m 32 [x2, x3] = some q from h1)
  simp at e0 e1
  exact ⟨a, b, c, d, by simp [e0, e1]⟩
set_option maxRecDepth 100000 in
theorem query_form {r : Reach} {b0 : Nat} {v : Value} {d : DataW H} {p : List MemPlace} (hv : Value.okWide Tryd.prog W r b0 66 v) (h : DataW.Trod enc Tryd.prog W base spare held 66 v d p) : ∃ a b c e : Wd, v = .agg #[.int .u64 (U a), .int .u64 (U b), .int .u64 (U c), .int .u64 (U e)] := by
  obtain ⟨cs, rfl, _⟩ := okWide_struct Tryd.underlying66 hv
  obtain ⟨f, hf⟩ := h
  obtain ⟨a, b, c, e, g⟩ := query_trod hf
  refine ⟨a, b, c, e, ?_⟩
  obtain ⟨l⟩ := cs
  simp only [Value.cells] at g
  simpa using g
set_option maxRecDepth 100000 in
theorem card_trod {cs : List Value} {x : DataW H × List MemPlace} (h : DataW.trod enc Tryd.prog W base spare held fuel 118 cs = some x) : ∃ (s : ByteArray) (a b : Wd), cs = [.string s, .int .u64 (U a), .int .u64 (U b)] ∧ s.size ≤ 9223372036854775807 := by
  obtain ⟨xs, m, rfl, hx, hl, hn, hel⟩ := DataW.trod_struct Tryd.underlying118 h
  have c3 : Tryd.prog.cellsOf 118 = 3 := by kernel_rfl
  have c2 : Tryd.prog.cellsOf 32 = 2 := by kernel_rfl
  have c1 : Tryd.prog.cellsOf 9 = 1 := by kernel_rfl
  obtain ⟨p, q, rfl⟩ := arr2 hn
  obtain ⟨x0, x1, x2, rfl⟩ := arr3 (hl.trans c3)
  have h0 : DataW.trod enc Tryd.prog W base spare held m 9 (([x0, x1, x2].drop 0).take (Tryd.prog.cellsOf 9)) = [p, q][0]? := hel 0 _ rfl
  have h1 : DataW.trod enc Tryd.prog W base spare held m 32 (([x0, x1, x2].drop 1).take (Tryd.prog.cellsOf 32)) = [p, q][1]? := hel 1 _ rfl
  rw [c1] at h0
  rw [c2] at h1
  obtain ⟨s, e0, _, w0⟩ := DataW.trod_string Tryd.underlying9 (show DataW.trod enc Tryd.prog W base spare held m 9 [x0] = some p from h0)
  obtain ⟨a, b, e1⟩ := mask_trod (show DataW.trod enc Tryd.prog W base spare held m 32 [x1, x2] = some q from h1)
  simp at e0 e1
  exact ⟨s, a, b, by simp [e0, e1], by unfold maxLen at w0; omega⟩
set_option maxRecDepth 100000 in
theorem card_form {r : Reach} {b0 : Nat} {v : Value} {d : DataW H} {p : List MemPlace} (hv : Value.okWide Tryd.prog W r b0 118 v) (h : DataW.Trod enc Tryd.prog W base spare held 118 v d p) : ∃ (s : ByteArray) (a b : Wd), v = .agg #[.string s, .int .u64 (U a), .int .u64 (U b)] ∧ s.size ≤ 9223372036854775807 := by
  obtain ⟨cs, rfl, _⟩ := okWide_struct Tryd.underlying118 hv
  obtain ⟨f, hf⟩ := h
  obtain ⟨s, a, b, g, hw⟩ := card_trod hf
  refine ⟨s, a, b, ?_, hw⟩
  obtain ⟨l⟩ := cs
  simp only [Value.cells] at g
  simpa using g
theorem i8_of {n : Int} (h : (Lit.int .i8 n).wf = true) : -128 ≤ n ∧ n ≤ 127 := bounds_i8 h
theorem i16_of' {n : Int} (h : (Lit.int .i16 n).wf = true) : I16 n := bounds_i16 h
set_option maxRecDepth 100000 in
theorem field_trod {cs : List Value} {x : DataW H × List MemPlace} (h : DataW.trod enc Tryd.prog W base spare held fuel 85 cs = some x) :
    ∃ (s : ByteArray) (k st sz : Int), cs = [.string s, .int .i8 k, .int .i16 st, .int .i16 sz] ∧ (s.size ≤ 9223372036854775807 ∧ (-128 ≤ k ∧ k ≤ 127) ∧ I16 st ∧ I16 sz) := by
  obtain ⟨xs, m, rfl, hx, hl, hn, hel⟩ := DataW.trod_struct Tryd.underlying85 h
  have c4 : Tryd.prog.cellsOf 85 = 4 := by kernel_rfl
  have c1 : Tryd.prog.cellsOf 9 = 1 := by kernel_rfl
  have c2 : Tryd.prog.cellsOf 82 = 1 := by kernel_rfl
  have c3 : Tryd.prog.cellsOf 83 = 1 := by kernel_rfl
  obtain ⟨p, q, r, u, rfl⟩ := arr4 hn
  obtain ⟨x0, x1, x2, x3, rfl⟩ := arr4 (hl.trans c4)
  have h0 : DataW.trod enc Tryd.prog W base spare held m 9 (([x0, x1, x2, x3].drop 0).take (Tryd.prog.cellsOf 9)) = [p, q, r, u][0]? := hel 0 _ rfl
  have h1 : DataW.trod enc Tryd.prog W base spare held m 82 (([x0, x1, x2, x3].drop 1).take (Tryd.prog.cellsOf 82)) = [p, q, r, u][1]? := hel 1 _ rfl
  have h2 : DataW.trod enc Tryd.prog W base spare held m 83 (([x0, x1, x2, x3].drop 2).take (Tryd.prog.cellsOf 83)) = [p, q, r, u][2]? := hel 2 _ rfl
  have h3 : DataW.trod enc Tryd.prog W base spare held m 83 (([x0, x1, x2, x3].drop 3).take (Tryd.prog.cellsOf 83)) = [p, q, r, u][3]? := hel 3 _ rfl
  rw [c1] at h0
  rw [c2] at h1
  rw [c3] at h2 h3
  obtain ⟨s, e0, _, w0⟩ := DataW.trod_string Tryd.underlying9 (show DataW.trod enc Tryd.prog W base spare held m 9 [x0] = some p from h0)
  obtain ⟨k1, e1, _, w1⟩ := DataW.trod_int Tryd.underlying82 (show DataW.trod enc Tryd.prog W base spare held m 82 [x1] = some q from h1)
  obtain ⟨k2, e2, _, w2⟩ := DataW.trod_int Tryd.underlying83 (show DataW.trod enc Tryd.prog W base spare held m 83 [x2] = some r from h2)
  obtain ⟨k3, e3, _, w3⟩ := DataW.trod_int Tryd.underlying83 (show DataW.trod enc Tryd.prog W base spare held m 83 [x3] = some u from h3)
  simp at e0 e1 e2 e3
  exact ⟨s, k1, k2, k3, by simp [e0, e1, e2, e3], by unfold maxLen at w0; omega, i8_of w1, i16_of' w2, i16_of' w3⟩
set_option maxRecDepth 100000 in
theorem field_form {r : Reach} {b0 : Nat} {v : Value} {d : DataW H} {p : List MemPlace} (hv : Value.okWide Tryd.prog W r b0 85 v) (h : DataW.Trod enc Tryd.prog W base spare held 85 v d p) :
    ∃ (s : ByteArray) (k st sz : Int), v = .agg #[.string s, .int .i8 k, .int .i16 st, .int .i16 sz] ∧ (s.size ≤ 9223372036854775807 ∧ (-128 ≤ k ∧ k ≤ 127) ∧ I16 st ∧ I16 sz) := by
  obtain ⟨cs, rfl, _⟩ := okWide_struct Tryd.underlying85 hv
  obtain ⟨f, hf⟩ := h
  obtain ⟨s, k, st, sz, g, hw⟩ := field_trod hf
  refine ⟨s, k, st, sz, ?_, hw⟩
  obtain ⟨l⟩ := cs
  simp only [Value.cells] at g
  simpa using g
theorem int64_cell : Tryd.prog.cellsOf 2 = 1 := by kernel_rfl
set_option maxRecDepth 100000 in
theorem ints_form {r : Reach} {b0 : Nat} {v : Value} {d : DataW H} {p : List MemPlace} (hv : Value.okWide Tryd.prog W r b0 28 v) (h : DataW.Trod enc Tryd.prog W base spare held 28 v d p) :
    ∃ (A : Option Addr) (l : List Int) (c : Nat), v = .slice A l.length c ∧ (l.length ≤ 9223372036854775807 ∧ Rd W A (ints l)) := by
  obtain ⟨a0, len0, cap0, rfl⟩ := okWide_slice Tryd.underlying28 hv
  obtain ⟨f, hf⟩ := h
  rcases open_ints Tryd.underlying28 Tryd.underlying2 int64_cell hf with ⟨hc, _⟩ | ⟨a, len, cap, zs, hc, hb, hlc, hcm, hz, hx, hcell, hwf⟩
  · simp only [Value.cells, List.cons.injEq, Value.slice.injEq, and_true] at hc
    obtain ⟨rfl, rfl, rfl⟩ := hc
    exact ⟨none, [], 0, rfl, by simp, Rd.nil _ _⟩
  · simp only [Value.cells, List.cons.injEq, Value.slice.injEq, and_true] at hc
    obtain ⟨rfl, rfl, rfl⟩ := hc
    have hlz : len0 ≤ zs.length := by rw [hz]; split <;> omega
    have hl : (zs.take len0).length = len0 := by simp; omega
    refine ⟨some a, zs.take len0, cap0, by rw [hl], by rw [hl]; unfold maxLen at hcm; omega, ?_⟩
    by_cases h0 : len0 = 0
    · subst h0; exact .inl (by simp [ints])
    · obtain ⟨b, off, spot⟩ := a
      cases spot with
      | some s =>
        have h1 := World.cell?_spot (hcell 0 (by omega))
        simp [Addr.add] at h1
      | none =>
        refine .inr ⟨b, off, rfl, fun j v hj => ?_⟩
        have hjl : j < len0 := by
          have := (List.getElem?_eq_some_iff.1 hj).1
          rw [ints, List.length_map, hl] at this; exact this
        have h1 := hcell j (by omega)
        rw [add_plain] at h1
        rw [h1, ← hj]
        simp [ints, List.getElem?_take, hjl, List.getD_eq_getElem?_getD, show j < zs.length by omega]
end
end Go.Proofs.YtpmilcfppcmodaaDoor

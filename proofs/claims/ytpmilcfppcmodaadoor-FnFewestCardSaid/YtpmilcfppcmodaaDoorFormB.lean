/- What a slice of bytes looks like, as an argument of a law. -/
import Derived.Test.YtpmilcfppcmodaaDoorFormR
import Derived.Test.YtpmilcfppcmodaaDoorGZ
set_option linter.unusedVariables false
set_option linter.unusedSimpArgs false
namespace Go.Proofs.YtpmilcfppcmodaaDoor
open Go.ChangeShapes Go.WideShapes Go.ChangeAt Go.RowKit
section
variable {H : Type} {enc : TypeId × Value → H} {W : World} {base : Nat} {spare : Nat → Bool} {held : Bool} {fuel : Nat}
def byteOf : List Value → UInt8
  | [.int _ n] => UInt8.ofNat n.toNat
  | _ => 0
theorem uint8_cell : Tryd.prog.cellsOf 5 = 1 := by kernel_rfl
set_option maxRecDepth 100000 in
theorem bytes_form {r : Reach} {b0 : Nat} {v : Value} {d : DataW H} {p : List MemPlace} (hv : Value.okWide Tryd.prog W r b0 22 v) (h : DataW.Trod enc Tryd.prog W base spare held 22 v d p) :
    ∃ (A : Option Addr) (l : List UInt8) (c : Nat), v = .slice A l.length c ∧ (l.length ≤ 9223372036854775807 ∧ Rd W A (bys l)) := by
  obtain ⟨A, rows, c, rfl, hm, hr, hc⟩ := rows_form Tryd.underlying22 uint8_cell (by decide) hv h
  have hs : ∀ (i : Nat) row, rows[i]? = some row → row = [.int .u8 (byteOf row).toNat] := by
    intro i row h
    obtain ⟨_, m, y, h1⟩ := hr i row h
    obtain ⟨n, e0, _, w0⟩ := DataW.trod_int Tryd.underlying5 h1
    subst e0
    have hb := bounds_u8 w0
    show [Value.int .u8 n] = [Value.int .u8 ((UInt8.ofNat n.toNat).toNat : Int)]
    have : (UInt8.ofNat n.toNat).toNat = n.toNat := by rw [UInt8.toNat_ofNat']; omega
    rw [this, Int.toNat_of_nonneg hb.1]
  refine ⟨A, rows.map byteOf, c, by rw [List.length_map], by rw [List.length_map]; exact hm, ?_⟩
  rcases hc with rfl | ⟨b, o, rfl, hc⟩
  · exact .inl rfl
  · refine .inr ⟨b, o, rfl, fun j x hj => ?_⟩
    rw [bys, List.map_map, List.getElem?_map] at hj
    cases hrow : rows[j]? with
    | none => rw [hrow] at hj; simp at hj
    | some row =>
      rw [hrow] at hj
      have hx : x = .int .u8 (byteOf row).toNat := by simpa using hj.symm
      have := hc j row hrow 0 x (by rw [hs j row hrow, hx]; rfl)
      simpa using this
end
end Go.Proofs.YtpmilcfppcmodaaDoor

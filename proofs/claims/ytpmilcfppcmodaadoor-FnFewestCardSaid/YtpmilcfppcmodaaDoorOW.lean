/- Rows of the call's own, and where they lie. -/
import Derived.Test.YtpmilcfppcmodaaDoorS3
set_option linter.unusedVariables false
set_option linter.unusedSimpArgs false
namespace Go.Proofs.YtpmilcfppcmodaaDoor
open Go.RowKit
/-- A row of the call's own, in a block from B on, and below H. -/
structure Own (w : World) (B H : Nat) (T : TypeId) (sz : Nat) (v : Value) (n : Nat) (xs : List Value) : Prop where
  out : w.ownsRow B T sz v n xs
  lt : ∀ k, v.ownBlock = some k → B ≤ k ∧ k < H
theorem Own.new {w : World} {B : Nat} {T : TypeId} {sz : Nat} {v : Value} {n : Nat} {xs : List Value} (h : w.ownsRow B T sz v n xs) : Own w B w.heap.size T sz v n xs := ⟨h, h.lt⟩
theorem Own.keep {w w' : World} {B H : Nat} {T : TypeId} {sz : Nat} {v : Value} {n : Nat} {xs : List Value} (h : Own w B H T sz v n xs) (k : Keep w w') : Own w' B H T sz v n xs := ⟨own_keep h.out k, h.lt⟩
theorem Own.rd {w : World} {B H : Nat} {T : TypeId} {sz : Nat} {A : Option Addr} {c n : Nat} {xs : List Value} (h : Own w B H T sz (.slice A n c) n xs) : Rd w A xs := by
  obtain ⟨A', c', hv, hR, _⟩ := own_row h.out
  simp only [Value.slice.injEq] at hv
  rw [hv.1]; exact hR
theorem Own.form {w : World} {B H : Nat} {T : TypeId} {sz : Nat} {v : Value} {n : Nat} {xs : List Value} (h : Own w B H T sz v n xs) : ∃ A c, v = .slice A n c := by
  obtain ⟨A', c', hv, hR, _⟩ := own_row h.out
  exact ⟨A', c', hv⟩
theorem Own.other {w w' : World} {B H : Nat} {T : TypeId} {sz : Nat} {v : Value} {n : Nat} {xs : List Value} {row : Option Nat} (h : Own w B H T sz v n xs) (hg : w.grownBy w' row) (hne : ∀ k, row = some k → k < B ∨ H ≤ k) : Own w' B H T sz v n xs := by
  refine ⟨h.out.kept hg ?_, h.lt⟩
  cases hv : v.ownBlock with
  | none => exact .inl rfl
  | some k =>
    refine .inr fun e => ?_
    have h1 := h.lt k hv
    have h2 := hne k e.symm
    omega
/-- What was written to is a row's own block: all else is as it was. -/
theorem Own.keepW {w w' W : World} {B H : Nat} {T : TypeId} {sz : Nat} {v : Value} {n : Nat} {xs : List Value} (h : Own w B H T sz v n xs) (hW : Keep W w) (hg : w.grownBy w' v.ownBlock) (hB : W.heap.size ≤ B) : Keep W w' :=
  hW.grown hg fun k hk => Nat.le_trans hB (h.lt k hk).1
theorem Own.size {w : World} {B H : Nat} {T : TypeId} {sz : Nat} {v : Value} {n : Nat} {xs : List Value} (h : Own w B H T sz v n xs) : xs.length = n * sz := h.out.1
theorem rd_len {w : World} {B H : Nat} {T : TypeId} {sz : Nat} {A : Option Addr} {c n : Nat} {xs : List Value} (h : Own w B H T sz (.slice A n c) n xs) : n ≤ c := by
  rcases h.out.2 with ⟨h1, h2⟩ | ⟨g, cap, cur, hv, hg, hb, hn, hm, hs, ht⟩
  · simp only [Value.slice.injEq] at h1; omega
  · simp only [Value.slice.injEq] at hv
    omega
end Go.Proofs.YtpmilcfppcmodaaDoor

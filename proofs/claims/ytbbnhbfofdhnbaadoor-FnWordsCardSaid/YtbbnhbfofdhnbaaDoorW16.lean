/- Drops by words: the law. -/
import Derived.Test.YtbbnhbfofdhnbaaDoorX8
set_option linter.unusedVariables false
set_option linter.unusedSimpArgs false
namespace Go.Proofs.YtbbnhbfofdhnbaaDoor
open Go.RowKit
set_option maxHeartbeats 4000000
set_option maxRecDepth 20000
theorem own_bx {w : World} {base g n : Nat} {e : TypeId} {xs : List Value} (h : w.ownsRow base e 1 (.slice (some ⟨g, 0, none⟩) n n) n xs) : Bx w g xs.toArray e ∧ base ≤ g := by
  rcases h.2 with ⟨h1, _⟩ | ⟨g', cap, cur, h1, h2, h3, h4, h5, h6, h7⟩
  · simp at h1
  · simp only [Value.slice.injEq, Option.some.injEq, Addr.mk.injEq, and_true] at h1
    obtain ⟨rfl, _, rfl⟩ := h1
    rw [List.take_of_length_le (by rw [Array.length_toList]; omega)] at h7
    subst h7
    exact ⟨by simpa using h3, h2⟩
theorem bx_rd {w : World} {g : Nat} {xs : List Value} {T : TypeId} (h : Bx w g xs.toArray T) : Rd w (some ⟨g, 0, none⟩) xs := by
  refine .inr ⟨g, 0, rfl, fun j v hj => ?_⟩
  rw [h.cell]
  simpa using hj
theorem toStringS_Sl (A : Option Addr) (l : List ByteArray) (c B : Nat) (w : World) (hn : l.length ≤ 1048576) (hR : Rd w A (strs l)) (hB : B ≤ w.heap.size) :
    Calls Tryd.prog 11 #[.slice A l.length c] w fun e w' => ∃ u, e = .returned u ∧ Keep w w' ∧ Sl B l.length (strs l).toArray 9 u w' := by
  refine (laws_toStringS A l c w hn hR).mono ?_
  rintro e w' ⟨g, rfl, ho, hk⟩
  obtain ⟨h1, h2⟩ := own_bx ho
  exact ⟨_, rfl, hk, g, rfl, h1, Nat.le_trans hB h2⟩
end Go.Proofs.YtbbnhbfofdhnbaaDoor

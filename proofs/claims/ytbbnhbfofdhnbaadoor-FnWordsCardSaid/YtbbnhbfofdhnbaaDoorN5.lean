/- Fields: the greatest value. -/
import Derived.Test.YtbbnhbfofdhnbaaDoorN4
set_option linter.unusedVariables false
set_option linter.unusedSimpArgs false
namespace Go.Proofs.YtbbnhbfofdhnbaaDoor
open Go.RowKit
set_option maxHeartbeats 2000000
/-- A base to some power. -/
def pw (b : Int) (n : Nat) : Int := b ^ n
theorem pw_zero (b : Int) : pw b 0 = 1 := Int.pow_zero b
theorem pw_succ (b : Int) (n : Nat) : pw b (n + 1) = pw b n * b := by unfold pw; exact Int.pow_succ b n
theorem pw_pos {b : Int} (h : 1 ≤ b) (n : Nat) : 1 ≤ pw b n := by
  induction n with
  | zero => simp [pw_zero]
  | succ n ih => rw [pw_succ]; exact Int.le_trans ih (by simpa using Int.mul_le_mul_of_nonneg_left h (by omega : 0 ≤ pw b n))
theorem pw_mono {b : Int} (h : 1 ≤ b) {m n : Nat} (hmn : m ≤ n) : pw b m ≤ pw b n := by
  induction n with
  | zero => have : m = 0 := by omega
            subst this; exact Int.le_refl _
  | succ n ih =>
    by_cases e : m = n + 1
    · subst e; exact Int.le_refl _
    · have h1 := ih (by omega)
      have h2 := pw_pos h n
      rw [pw_succ]
      exact Int.le_trans h1 (by simpa using Int.mul_le_mul_of_nonneg_left h (by omega : 0 ≤ pw b n))
def mostN (k sz : Int) : Int := if k = 0 then sz - 1 else if k = 3 then pw 2 sz.toNat - 1 else pw 10 sz.toNat - 1
def mostM (s : ByteArray) (k st sz : Int) : Int := cond (fieldB s k st sz) (mostN k sz) 0
/-- The sizes and kinds of valid fields. -/
def okSz (k sz : Int) : Prop := 1 ≤ sz ∧ ((k = 0 ∧ sz ≤ 24) ∨ (k = 1 ∧ sz ≤ 4) ∨ (k = 2 ∧ sz ≤ 4) ∨ (k = 3 ∧ sz ≤ 12))
theorem okSz_of {s : ByteArray} {k st sz : Int} (h : fieldB s k st sz = true) : okSz k sz := ⟨(fieldB_use h).1, (fieldB_use h).2.2.2.2⟩
theorem mostN_bound {k sz : Int} (h : okSz k sz) : 0 ≤ mostN k sz ∧ mostN k sz ≤ 9999 := by
  obtain ⟨h1, h2⟩ := h
  unfold mostN
  rcases h2 with ⟨rfl, h2⟩ | ⟨rfl, h2⟩ | ⟨rfl, h2⟩ | ⟨rfl, h2⟩
  · simp; omega
  · have a := pw_mono (b := 10) (by decide) (show sz.toNat ≤ 4 by omega)
    have b := pw_pos (b := 10) (by decide) sz.toNat
    have c : pw 10 4 = 10000 := by decide
    simp; omega
  · have a := pw_mono (b := 10) (by decide) (show sz.toNat ≤ 4 by omega)
    have b := pw_pos (b := 10) (by decide) sz.toNat
    have c : pw 10 4 = 10000 := by decide
    simp; omega
  · have a := pw_mono (b := 2) (by decide) (show sz.toNat ≤ 12 by omega)
    have b := pw_pos (b := 2) (by decide) sz.toNat
    have c : pw 2 12 = 4096 := by decide
    simp; omega
theorem wrap_shl (n : Nat) (h : n ≤ 12) : IntKind.i64.wrap (2 ^ n) = pw 2 n := by
  have a := pw_mono (b := 2) (by decide) h
  have b := pw_pos (b := 2) (by decide) n
  have c : pw 2 12 = 4096 := by decide
  have e : (2 : Int) ^ n = pw 2 n := rfl
  rw [e]
  exact wrapI64 ⟨by omega, by omega⟩
end Go.Proofs.YtbbnhbfofdhnbaaDoor

/- The holes that sort by a field, and keys: plain facts. -/
import Derived.Test.YtbbnhbfofdhnbaaDoorP1
import Derived.Test.YtbbnhbfofdhnbaaDoorN5
set_option linter.unusedVariables false
set_option linter.unusedSimpArgs false
namespace Go.Proofs.YtbbnhbfofdhnbaaDoor
open Go.RowKit
theorem bitLo_getI {p : Int} (h0 : 0 ≤ p) (j : Nat) (hj : j < 64) : (bitLo p).getLsbD j = decide ((j : Int) = p) := by
  obtain ⟨n, rfl⟩ := Int.eq_ofNat_of_zero_le h0
  rw [bitLo_get n j hj]
  congr 1; apply propext; omega
theorem bitHi_getI {p : Int} (h0 : 0 ≤ p) (j : Nat) (hj : j < 64) : (bitHi p).getLsbD j = decide ((j : Int) + 64 = p) := by
  obtain ⟨n, rfl⟩ := Int.eq_ofNat_of_zero_le h0
  rw [bitHi_get n j hj]
  congr 1; apply propext; omega
/-- One hole more. -/
theorem hasB_or {x y : Wd} {p h : Int} (p0 : 0 ≤ p) (h0 : 0 ≤ h) (h1 : h < 96) : hasB (x ||| bitLo p) (y ||| bitHi p) h = (hasB x y h || decide (h = p)) := by
  by_cases hh : h < 64
  · rw [hasB_lt hh, hasB_lt hh, BitVec.getLsbD_or, bitLo_getI p0 _ (by omega)]
    congr 1
    have : ((h.toNat : Int) = p) = (h = p) := by apply propext; omega
    simp only [this]
  · rw [hasB_ge hh, hasB_ge hh, BitVec.getLsbD_or, bitHi_getI p0 _ (by omega)]
    congr 1
    have : (((h - 64).toNat : Int) + 64 = p) = (h = p) := by apply propext; omega
    simp only [this]
theorem hasB_zero (h : Int) : hasB 0#64 0#64 h = false := by unfold hasB; split <;> simp
theorem hasB_range {s h : Int} (n : Nat) (s0 : 0 ≤ s) (h0 : 0 ≤ h) (h1 : h < 96) : hasB (rlo s n) (rhi s n) h = decide (s ≤ h ∧ h < s + n) := by
  induction n with
  | zero => rw [rlo, rhi, hasB_zero]; simp; try omega
  | succ n ih =>
    rw [rlo, rhi, hasB_or (by omega) h0 h1, ih]
    rw [Bool.eq_iff_iff]; simp; omega
/-- So many numbers from one on. -/
def upL (s : Int) (n : Nat) : List Int := (List.range n).map fun (i : Nat) => s + (i : Int)
theorem upL_len (s : Int) (n : Nat) : (upL s n).length = n := by simp [upL]
theorem upL_succ (s : Int) (n : Nat) : upL s (n + 1) = upL s n ++ [s + n] := by simp [upL, List.range_succ]
theorem upL_at (s : Int) (n i : Nat) (h : i < n) : (upL s n)[i]'(by rw [upL_len]; exact h) = s + i := by simp [upL]
theorem hs_range {s : Int} (n : Nat) (s0 : 0 ≤ s) (k : Nat) (hk : k ≤ 96) : hs (rlo s n) (rhi s n) k = upL s (min n (k - s.toNat)) := by
  induction k with
  | zero => rw [hs_zero]; simp [upL]
  | succ k ih =>
    have hb := hasB_range (s := s) (h := k) n s0 (by omega) (by omega)
    by_cases hin : s ≤ (k : Int) ∧ (k : Int) < s + n
    · have e : min n (k + 1 - s.toNat) = min n (k - s.toNat) + 1 := by omega
      rw [hs_yes (by rw [hb]; simpa using hin), ih (by omega), e, upL_succ]
      have : s + ((min n (k - s.toNat) : Nat) : Int) = k := by omega
      rw [this]
    · have e : min n (k + 1 - s.toNat) = min n (k - s.toNat) := by omega
      rw [hs_no (by rw [hb]; simpa using hin), ih (by omega), e]
theorem hs_part {s : Int} (n : Nat) (s0 : 0 ≤ s) (h : s + n ≤ 96) : hs (rlo s n) (rhi s n) 96 = upL s n := by
  rw [hs_range n s0 96 (by omega), show min n (96 - s.toNat) = n by omega]
/-- The same, the greatest one first. -/
def downL (s : Int) (n : Nat) (k : Nat) : List Int := (List.range k).map fun (i : Nat) => s + n - 1 - (i : Int)
theorem downL_len (s : Int) (n k : Nat) : (downL s n k).length = k := by simp [downL]
theorem downL_succ (s : Int) (n k : Nat) : downL s n (k + 1) = downL s n k ++ [s + n - 1 - k] := by simp [downL, List.range_succ]
theorem upL_reverse (s : Int) (n : Nat) : (upL s n).reverse = downL s n n := by
  apply List.ext_getElem
  · simp [upL, downL]
  · intro i h1 h2
    simp [upL] at h1
    simp [upL, downL, List.getElem_reverse]
    omega
def sortN (k sz : Int) : Nat := (if k = 3 then sz else widthN k sz).toNat
def sortL (k st sz : Int) : List Int := if k = 0 then upL st sz.toNat else downL st (sortN k sz) (sortN k sz)
theorem sortL_len {k st sz : Int} : (sortL k st sz).length = sortN k sz := by
  unfold sortL sortN
  by_cases h : k = 0
  · subst h; simp [upL_len, widthN]
  · simp [h, downL_len]
/-- The key of a mask. -/
def kv (a b : Wd) : List Int → Int
  | [] => 0
  | h :: t => cond (hasB a b h) 1 0 + 2 * kv a b t
theorem kv_nonneg (a b : Wd) (l : List Int) : 0 ≤ kv a b l ∧ kv a b l < pw 2 l.length := by
  induction l with
  | nil => simp [kv, pw_zero]
  | cons h t ih =>
    rw [kv, List.length_cons, pw_succ]
    cases hasB a b h <;> simp <;> omega
theorem kv_app (a b : Wd) (l : List Int) (h : Int) : kv a b (l ++ [h]) = kv a b l + cond (hasB a b h) (pw 2 l.length) 0 := by
  induction l with
  | nil => simp [kv, pw_zero]
  | cons x t ih =>
    rw [List.cons_append, kv, kv, ih, List.length_cons, pw_succ]
    cases hasB a b h <;> simp <;> omega
theorem or_pow {x : Int} {n : Nat} (h0 : 0 ≤ x) (h1 : x < pw 2 n) (hn : n ≤ 24) : bits .or .i64 x (pw 2 n) = x + pw 2 n := by
  have hm : pw 2 n ≤ 16777216 := by
    have a := pw_mono (b := 2) (by decide) hn
    have c : pw 2 24 = 16777216 := by decide
    omega
  have hp := pw_pos (b := 2) (by decide) n
  show IntKind.i64.wrap ((BitVec.ofInt 64 x ||| BitVec.ofInt 64 (pw 2 n)).toNat : Int) = _
  have e1 : (BitVec.ofInt 64 x).toNat = x.toNat := by rw [BitVec.toNat_ofInt]; omega
  have e2 : (BitVec.ofInt 64 (pw 2 n)).toNat = 2 ^ n := by
    rw [BitVec.toNat_ofInt]
    have : pw 2 n = ((2 ^ n : Nat) : Int) := by unfold pw; simp
    rw [this] at hm ⊢
    omega
  have e3 : pw 2 n = ((2 ^ n : Nat) : Int) := by unfold pw; simp
  rw [BitVec.toNat_or, e1, e2]
  have hx : x.toNat < 2 ^ n := by omega
  have e4 : x.toNat ||| 2 ^ n = 2 ^ n + x.toNat := by
    rw [Nat.or_comm]
    have := Nat.two_pow_add_eq_or_of_lt hx 1
    simpa using this.symm
  rw [e4]
  have : (((2 ^ n + x.toNat : Nat)) : Int) = x + pw 2 n := by omega
  rw [this]
  exact wrapI64 ⟨by omega, by omega⟩
end Go.Proofs.YtbbnhbfofdhnbaaDoor

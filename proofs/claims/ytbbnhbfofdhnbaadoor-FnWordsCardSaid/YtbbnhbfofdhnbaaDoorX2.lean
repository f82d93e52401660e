/- The holes of a word: plain facts. -/
import Derived.Test.YtbbnhbfofdhnbaaDoorX1
set_option linter.unusedVariables false
set_option linter.unusedSimpArgs false
namespace Go.Proofs.YtbbnhbfofdhnbaaDoor
open Go.RowKit
/-- The check of a word. -/
def chk (l : List UInt8) : Nat := l.foldl (fun a b => (a * 16777619 + b.toNat) % 4294967296) 1
theorem chk_lt (l : List UInt8) : chk l < 4294967296 := by
  unfold chk
  have : ∀ (l : List UInt8) (a : Nat), a < 4294967296 → l.foldl (fun a b => (a * 16777619 + b.toNat) % 4294967296) a < 4294967296 := by
    intro l
    induction l with
    | nil => intro a h; exact h
    | cons x t ih => intro a h; exact ih _ (Nat.mod_lt _ (by decide))
  exact this l 1 (by decide)
theorem chk_app (l : List UInt8) (b : UInt8) : chk (l ++ [b]) = (chk l * 16777619 + b.toNat) % 4294967296 := by unfold chk; rw [List.foldl_append, List.foldl_cons, List.foldl_nil]
/-- The hole that comes so many numbers on. -/
def wh (s z : Int) (a i : Nat) : Int := s + ((it (i + 1) a / 65536 : Nat) : Int) % z
theorem wh_range {s z : Int} (s0 : 0 ≤ s) (z0 : 1 ≤ z) (h : s + z ≤ 96) (a i : Nat) : s ≤ wh s z a i ∧ wh s z a i < s + z := by
  unfold wh
  have h1 := Int.emod_nonneg ((it (i + 1) a / 65536 : Nat) : Int) (by omega : z ≠ 0)
  have h2 := Int.emod_lt_of_pos ((it (i + 1) a / 65536 : Nat) : Int) (by omega : 0 < z)
  omega
def whLo (s z : Int) (a : Nat) : Nat → Wd
  | 0 => 0#64
  | i + 1 => whLo s z a i ||| bitLo (wh s z a i)
def whHi (s z : Int) (a : Nat) : Nat → Wd
  | 0 => 0#64
  | i + 1 => whHi s z a i ||| bitHi (wh s z a i)
theorem whLo_succ (s z : Int) (a i : Nat) : whLo s z a (i + 1) = whLo s z a i ||| bitLo (wh s z a i) := rfl
theorem whHi_succ (s z : Int) (a i : Nat) : whHi s z a (i + 1) = whHi s z a i ||| bitHi (wh s z a i) := rfl
def cnt (s z : Int) (a i : Nat) : Int := ((pc (whLo s z a i) + pc (whHi s z a i) : Nat) : Int)
theorem ok_of_bits {b : Wd} (h : ∀ i, 32 ≤ i → i < 64 → b.getLsbD i = false) : okB b = true := by
  unfold okB
  have : b.toNat < 2 ^ 32 := by
    apply Nat.lt_pow_two_of_testBit
    intro i hi
    by_cases h64 : i < 64
    · have := h i hi h64
      rwa [BitVec.getLsbD] at this
    · exact Nat.testBit_lt_two_pow (Nat.lt_of_lt_of_le b.isLt (Nat.pow_le_pow_right (by decide) (by omega)))
  simpa using this
theorem ok_or {b : Wd} {p : Int} (h : okB b = true) (p0 : 0 ≤ p) (p1 : p < 96) : okB (b ||| bitHi p) = true := by
  apply ok_of_bits
  intro i h1 h2
  rw [BitVec.getLsbD_or, high_zero h i h1, bitHi_getI p0 i h2]
  simp; omega
theorem ok_zero : okB 0#64 = true := by decide
theorem whHi_ok {s z : Int} (s0 : 0 ≤ s) (z0 : 1 ≤ z) (h : s + z ≤ 96) (a i : Nat) : okB (whHi s z a i) = true := by
  induction i with
  | zero => exact ok_zero
  | succ i ih => have := wh_range s0 z0 h a i; exact ok_or ih (by omega) (by omega)
theorem wh_has {s z : Int} (s0 : 0 ≤ s) (z0 : 1 ≤ z) (h : s + z ≤ 96) (a : Nat) {i n : Nat} (hi : i < n) : hasB (whLo s z a n) (whHi s z a n) (wh s z a i) = true := by
  have hr := wh_range s0 z0 h a i
  induction n with
  | zero => omega
  | succ n ih =>
    have hn := wh_range s0 z0 h a n
    rw [whLo_succ, whHi_succ, hasB_or (by omega) (by omega) (by omega)]
    by_cases e : i = n
    · subst e; simp
    · rw [ih (by omega)]; rfl
theorem hs_len_mono {a b c d : Wd} (k : Nat) (h : ∀ j : Nat, j < k → hasB a b j = true → hasB c d j = true) : (hs a b k).length ≤ (hs c d k).length := by
  induction k with
  | zero => rw [hs_zero, hs_zero]; exact Nat.le_refl _
  | succ k ih =>
    have := ih fun j hj => h j (by omega)
    cases h1 : hasB a b k
    · rw [hs_no h1]
      cases h2 : hasB c d k
      · rw [hs_no h2]; exact this
      · rw [hs_yes h2]; simp; omega
    · rw [hs_yes h1, hs_yes (h k (by omega) h1)]; simp; omega
theorem reach (s : Int) {z : Int} (z0 : 1 ≤ z) (zm : z ≤ 96) (a : Nat) (ha : a < 4294967296) (r : Int) (r0 : 0 ≤ r) (r1 : r < z) : ∃ i, wh s z a i = s + r := by
  obtain ⟨n, hn⟩ := cov (x := it 1 a) (y := r.toNat * 65536) (it_lt ha) (by omega)
  refine ⟨n, ?_⟩
  unfold wh
  rw [it_add, hn, Nat.mul_div_cancel _ (by decide)]
  have : ((r.toNat : Nat) : Int) = r := by omega
  rw [this, Int.emod_eq_of_lt r0 r1]
theorem reach_all (s : Int) {z : Int} (z0 : 1 ≤ z) (zm : z ≤ 96) (a : Nat) (ha : a < 4294967296) (m : Nat) (hm : (m : Int) ≤ z) : ∃ N, ∀ r : Nat, r < m → ∃ i, i < N ∧ wh s z a i = s + r := by
  induction m with
  | zero => exact ⟨0, fun r hr => by omega⟩
  | succ m ih =>
    obtain ⟨N, hN⟩ := ih (by omega)
    obtain ⟨i, hi⟩ := reach s z0 zm a ha m (by omega) (by omega)
    refine ⟨max N (i + 1), fun r hr => ?_⟩
    by_cases e : r = m
    · subst e; exact ⟨i, by omega, hi⟩
    · obtain ⟨j, hj, hw⟩ := hN r (by omega)
      exact ⟨j, by omega, hw⟩
theorem pc_range {s : Int} (n : Nat) (s0 : 0 ≤ s) (h : s + n ≤ 96) : pc (rlo s n) + pc (rhi s n) = n := by
  have hok : okB (rhi s n) = true := by
    have : ∀ n : Nat, s + n ≤ 96 → okB (rhi s n) = true := by
      intro n
      induction n with
      | zero => intro _; exact ok_zero
      | succ n ih => intro hh; exact ok_or (ih (by omega)) (by omega) (by omega)
    exact this n h
  rw [← hs_count hok, hs_part n s0 h, upL_len]
/-- There are enough holes at some time. -/
theorem enough {s z : Int} (s0 : 0 ≤ s) (z0 : 1 ≤ z) (h : s + z ≤ 96) (a : Nat) (ha : a < 4294967296) : ∃ N, z ≤ cnt s z a N := by
  obtain ⟨m, rfl⟩ := Int.eq_ofNat_of_zero_le (show 0 ≤ z by omega)
  obtain ⟨N, hN⟩ := reach_all s z0 (by omega) a ha m (Int.le_refl _)
  refine ⟨N, ?_⟩
  unfold cnt
  have h1 := hs_count (a := whLo s m a N) (whHi_ok s0 z0 h a N)
  have h2 := hs_part (s := s) m s0 h
  have h3 : (hs (rlo s m) (rhi s m) 96).length ≤ (hs (whLo s m a N) (whHi s m a N) 96).length := by
    apply hs_len_mono
    intro j hj hb
    rw [hasB_range m s0 (by omega) (by omega)] at hb
    simp at hb
    obtain ⟨i, hi, hw⟩ := hN (j - s.toNat) (by omega)
    have : s + ((j - s.toNat : Nat) : Int) = j := by omega
    rw [this] at hw
    rw [← hw]
    exact wh_has s0 z0 h a hi
  rw [h2, upL_len, h1] at h3
  exact_mod_cast h3
/-- The first time at which there are so many. -/
def Lst (s z p : Int) (a T : Nat) : Prop := p ≤ cnt s z a T ∧ ∀ i, i < T → cnt s z a i < p
theorem least (P : Nat → Prop) (n : Nat) (h : P n) : ∃ T, P T ∧ ∀ i, i < T → ¬ P i := by
  induction n using Nat.strongRecOn with
  | ind n ih =>
    by_cases hx : ∃ m, m < n ∧ P m
    · obtain ⟨m, hm, hp⟩ := hx; exact ih m hm hp
    · exact ⟨n, h, fun i hi hp => hx ⟨i, hi, hp⟩⟩
theorem exT {s z p : Int} (s0 : 0 ≤ s) (z0 : 1 ≤ z) (h : s + z ≤ 96) (hp : p ≤ z) (a : Nat) (ha : a < 4294967296) : ∃ T, Lst s z p a T := by
  obtain ⟨N, hN⟩ := enough s0 z0 h a ha
  obtain ⟨T, h1, h2⟩ := least (fun i => p ≤ cnt s z a i) N (by show p ≤ cnt s z a N; omega)
  exact ⟨T, h1, fun i hi => by have := h2 i hi; omega⟩
/-- For every word. -/
def Tim (s z p : Int) (T : List UInt8 → Nat) : Prop := ∀ l, Lst s z p (chk l) (T l)
theorem exTim {s z p : Int} (s0 : 0 ≤ s) (z0 : 1 ≤ z) (h : s + z ≤ 96) (hp : p ≤ z) : ∃ T, Tim s z p T :=
  ⟨fun l => Classical.choose (exT s0 z0 h hp (chk l) (chk_lt l)), fun l => Classical.choose_spec (exT s0 z0 h hp (chk l) (chk_lt l))⟩
end Go.Proofs.YtbbnhbfofdhnbaaDoor

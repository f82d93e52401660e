/- Plain laws on masks: sums of bits, lists of holes, a mask out of its holes. No program in sight. -/
import Derived.Test.YtpmilcfppcmodaaDoorS2
import Derived.Test.YtpmilcfppcmodaaDoorPop
set_option linter.unusedVariables false
set_option linter.unusedSimpArgs false
namespace Go.Proofs.YtpmilcfppcmodaaDoor
open Go.RowKit
/-- The bits of a word, of the first so many. -/
def pcB (x : Wd) : Nat → Nat
  | 0 => 0
  | f + 1 => pcB x f + (x.getLsbD f).toNat
theorem pcN_pcB (x : Wd) (f : Nat) : pcN f x.toNat = pcB x f := by
  induction f with
  | zero => unfold pcN; rfl
  | succ f ih =>
    have h := pcN_add f 1 x.toNat
    have h1 : pcN 1 (x.toNat / 2 ^ f) = x.toNat / 2 ^ f % 2 := by simp [pcN]
    rw [h, ih, h1]
    show _ = pcB x f + (x.getLsbD f).toNat
    rw [BitVec.getLsbD, Nat.testBit_eq_decide_div_mod_eq]
    rcases Nat.mod_two_eq_zero_or_one (x.toNat / 2 ^ f) with h | h <;> simp [h]
theorem pc_pcB (x : Wd) : pc x = pcB x 64 := by unfold pc; exact pcN_pcB x 64
theorem pcB_split (a c : Wd) (f : Nat) (hf : f ≤ 64) : pcB (a ||| c) f = pcB (a &&& c) f + pcB (a &&& ~~~c) f + pcB (c &&& ~~~a) f := by
  induction f with
  | zero => rfl
  | succ f ih =>
    simp only [pcB]
    rw [ih (by omega)]
    have h : f < 64 := by omega
    simp only [BitVec.getLsbD_or, BitVec.getLsbD_and, BitVec.getLsbD_not, h, decide_true, Bool.true_and]
    cases a.getLsbD f <;> cases c.getLsbD f <;> simp <;> omega
theorem pc_split (a c : Wd) : pc (a ||| c) = pc (a &&& c) + pc (a &&& ~~~c) + pc (c &&& ~~~a) := by
  simp only [pc_pcB]; exact pcB_split a c 64 (Nat.le_refl _)
theorem high_zero {b : Wd} (h : okB b = true) (i : Nat) (hi : 32 ≤ i) : b.getLsbD i = false := by
  unfold okB at h
  have h : b.toNat < 2 ^ 32 := by simpa using h
  rw [BitVec.getLsbD]
  exact Nat.testBit_lt_two_pow (Nat.lt_of_lt_of_le h (Nat.pow_le_pow_right (by decide) hi))
theorem pcB_high {b : Wd} (h : okB b = true) (d : Nat) : pcB b (32 + d) = pcB b 32 := by
  induction d with
  | zero => rfl
  | succ d ih =>
    show pcB b (32 + d) + (b.getLsbD (32 + d)).toNat = _
    rw [ih, high_zero h _ (by omega)]; rfl
theorem hs_len_eq (a b : Wd) (k : Nat) : (hs a b k).length = pcB a (min k 64) + pcB b (k - 64) := by
  induction k with
  | zero => rw [hs_zero]; rfl
  | succ k ih =>
    by_cases hk : k < 64
    · have e1 : min (k + 1) 64 = min k 64 + 1 := by omega
      have e2 : k + 1 - 64 = k - 64 := by omega
      have e3 : min k 64 = k := by omega
      have hb : hasB a b k = a.getLsbD k := by rw [hasB_lt (by omega)]; simp
      rw [e1, e2]
      show _ = pcB a (min k 64) + (a.getLsbD (min k 64)).toNat + _
      cases h : hasB a b k
      · rw [hs_no h, ih, e3, ← hb, h]; rfl
      · rw [hs_yes h, List.length_append, ih, e3, ← hb, h]; simp; omega
    · have e1 : min (k + 1) 64 = min k 64 := by omega
      have e2 : k + 1 - 64 = k - 64 + 1 := by omega
      have hb : hasB a b k = b.getLsbD (k - 64) := by rw [hasB_ge (by omega)]; congr 1; omega
      rw [e1, e2]
      show _ = _ + (pcB b (k - 64) + (b.getLsbD (k - 64)).toNat)
      cases h : hasB a b k
      · rw [hs_no h, ih, ← hb, h]; rfl
      · rw [hs_yes h, List.length_append, ih, ← hb, h]; simp; omega
theorem hs_count {a b : Wd} (h : okB b = true) : (hs a b 96).length = pc a + pc b := by
  rw [hs_len_eq, pc_pcB, pc_pcB, show (64 : Nat) = 32 + 32 from rfl, pcB_high h 32]
  rfl
theorem orLo_app (x : Wd) (l : List Int) (h : Int) : orLo x (l ++ [h]) = orLo x l ||| bitLo h := by unfold orLo; rw [List.foldl_append]; rfl
theorem orHi_app (x : Wd) (l : List Int) (h : Int) : orHi x (l ++ [h]) = orHi x l ||| bitHi h := by unfold orHi; rw [List.foldl_append]; rfl
theorem one_shl (k j : Nat) (hj : j < 64) : (1#64 <<< k).getLsbD j = decide (j = k) := by
  rw [BitVec.getLsbD_shiftLeft]
  have h : ∀ i, (1#64).getLsbD i = decide (i = 0) := fun i => by simp
  rw [h]
  by_cases e : j = k
  · subst e; simp [hj]
  · by_cases e2 : j < k
    · simp [e, e2]
    · have : j - k ≠ 0 := by omega
      simp [e, this]
theorem bitLo_get (k j : Nat) (hj : j < 64) : (bitLo k).getLsbD j = decide (j = k) := by
  unfold bitLo
  by_cases hk : (k : Int) < 64
  · rw [if_pos hk, one_shl _ _ hj]; simp
  · rw [if_neg hk]
    simp; omega
theorem bitHi_get (k j : Nat) (hj : j < 64) : (bitHi k).getLsbD j = decide (j + 64 = k) := by
  unfold bitHi
  by_cases hk : (k : Int) < 64
  · rw [if_pos hk]; simp; omega
  · rw [if_neg hk, one_shl _ _ hj]
    have : (j = ((k : Int) - 64).toNat) = (j + 64 = k) := by apply propext; omega
    simp only [this]
theorem orLo_hs (a b : Wd) (k : Nat) (j : Nat) (hj : j < 64) : (orLo 0#64 (hs a b k)).getLsbD j = (decide (j < k) && a.getLsbD j) := by
  induction k with
  | zero => rw [hs_zero]; simp [orLo]
  | succ k ih =>
    cases h : hasB a b k
    · rw [hs_no h, ih]
      by_cases hjk : j = k
      · subst hjk
        rw [hasB_lt (by omega)] at h
        have h : a.getLsbD j = false := by simpa using h
        simp [h]
      · have : (j < k + 1) = (j < k) := by apply propext; omega
        simp only [this]
    · rw [hs_yes h, orLo_app, BitVec.getLsbD_or, ih, bitLo_get k j hj]
      by_cases hjk : j = k
      · subst hjk
        rw [hasB_lt (by omega)] at h
        have h : a.getLsbD j = true := by simpa using h
        simp [h]
      · have : (j < k + 1) = (j < k) := by apply propext; omega
        simp [this, hjk]
theorem orHi_hs (a b : Wd) (k : Nat) (j : Nat) (hj : j < 64) : (orHi 0#64 (hs a b k)).getLsbD j = (decide (j + 64 < k) && b.getLsbD j) := by
  induction k with
  | zero => rw [hs_zero]; simp [orHi]
  | succ k ih =>
    cases h : hasB a b k
    · rw [hs_no h, ih]
      by_cases hjk : j + 64 = k
      · subst hjk
        rw [hasB_ge (by omega)] at h
        have h : b.getLsbD j = false := by
          have e : (((j + 64 : Nat) : Int) - 64).toNat = j := by omega
          rw [e] at h; exact h
        simp [h]
      · have : (j + 64 < k + 1) = (j + 64 < k) := by apply propext; omega
        simp only [this]
    · rw [hs_yes h, orHi_app, BitVec.getLsbD_or, ih, bitHi_get k j hj]
      by_cases hjk : j + 64 = k
      · subst hjk
        rw [hasB_ge (by omega)] at h
        have h : b.getLsbD j = true := by
          have e : (((j + 64 : Nat) : Int) - 64).toNat = j := by omega
          rw [e] at h; exact h
        simp [h]
      · have : (j + 64 < k + 1) = (j + 64 < k) := by apply propext; omega
        simp [this, hjk]
theorem back_lo (a b : Wd) : orLo 0#64 (hs a b 96) = a := by
  apply BitVec.eq_of_getLsbD_eq
  intro j hj
  rw [orLo_hs a b 96 j hj]
  simp; omega
theorem back_hi {a b : Wd} (h : okB b = true) : orHi 0#64 (hs a b 96) = b := by
  apply BitVec.eq_of_getLsbD_eq
  intro j hj
  rw [orHi_hs a b 96 j hj]
  by_cases h32 : j < 32
  · have : j + 64 < 96 := by omega
    simp [this]
  · rw [high_zero h j (by omega)]; simp
theorem hs_mem (a b : Wd) (k : Nat) (h : Int) : h ∈ hs a b k ↔ 0 ≤ h ∧ h < k ∧ hasB a b h = true := by
  induction k with
  | zero => rw [hs_zero]; simp; omega
  | succ k ih =>
    cases hb : hasB a b k
    · rw [hs_no hb, ih]
      constructor
      · rintro ⟨h1, h2, h3⟩; exact ⟨h1, by omega, h3⟩
      · rintro ⟨h1, h2, h3⟩
        refine ⟨h1, ?_, h3⟩
        rcases Int.lt_or_eq_of_le (show h ≤ k by omega) with h4 | h4
        · exact h4
        · subst h4; rw [hb] at h3; cases h3
    · rw [hs_yes hb, List.mem_append, ih, List.mem_singleton]
      constructor
      · rintro (⟨h1, h2, h3⟩ | h4)
        · exact ⟨h1, by omega, h3⟩
        · subst h4; exact ⟨by omega, by omega, hb⟩
      · rintro ⟨h1, h2, h3⟩
        by_cases h4 : h = k
        · exact .inr h4
        · exact .inl ⟨h1, by omega, h3⟩
theorem hs_hole (a b : Wd) : (hs a b 96).all holeB = true := by
  rw [all_iff]
  intro h hh
  have := (hs_mem a b 96 h).1 hh
  exact ⟨this.1, by omega⟩
end Go.Proofs.YtpmilcfppcmodaaDoor

/- Plain laws on a hole that is opened or filled. No program in sight. -/
import Derived.Test.YtpmilcfppcmodaaDoorP1
import Derived.Test.YtpmilcfppcmodaaDoorM3
set_option linter.unusedVariables false
set_option linter.unusedSimpArgs false
namespace Go.Proofs.YtpmilcfppcmodaaDoor
open Go.RowKit
theorem okB_of {b : Wd} (h : ∀ i, 32 ≤ i → b.getLsbD i = false) : okB b = true := by
  unfold okB
  have := Nat.lt_pow_two_of_testBit (n := 32) b.toNat (fun i hi => h i hi)
  simpa using this
theorem okB_bitHi {k : Nat} (hk : k < 96) : okB (bitHi k) = true := by
  refine okB_of fun i hi => ?_
  by_cases h : i < 64
  · rw [bitHi_get k i h]; simp; omega
  · exact BitVec.getLsbD_of_ge _ _ (by omega)
theorem hasB_nat (a b : Wd) (k : Nat) : hasB a b k = if k < 64 then a.getLsbD k else b.getLsbD (k - 64) := by
  unfold hasB
  by_cases h : k < 64
  · rw [if_pos h, if_pos (by omega)]; simp
  · rw [if_neg h, if_neg (by omega)]; congr 1; omega
theorem has_open (a b : Wd) {k : Nat} (hk : k < 96) : hasB (a ||| bitLo k) (b ||| bitHi k) k = true := by
  rw [hasB_nat]
  split
  · rw [BitVec.getLsbD_or, bitLo_get k k (by omega)]; simp
  · rw [BitVec.getLsbD_or, bitHi_get k (k - 64) (by omega)]; simp; right; omega
theorem has_shut (a b : Wd) {k : Nat} (hk : k < 96) : hasB (a &&& ~~~bitLo k) (b &&& ~~~bitHi k) k = false := by
  rw [hasB_nat]
  split
  · rw [BitVec.getLsbD_and, BitVec.getLsbD_not, bitLo_get k k (by omega)]; simp
  · rw [BitVec.getLsbD_and, BitVec.getLsbD_not, bitHi_get k (k - 64) (by omega)]; simp; intros; omega
theorem open_same {a b : Wd} {k : Nat} (h : hasB a b k = true) : a ||| bitLo k = a ∧ b ||| bitHi k = b := by
  rw [hasB_nat] at h
  constructor
  · apply BitVec.eq_of_getLsbD_eq
    intro i hi
    rw [BitVec.getLsbD_or, bitLo_get k i hi]
    by_cases e : i = k
    · subst e; rw [if_pos hi] at h; simp [h]
    · simp [e]
  · apply BitVec.eq_of_getLsbD_eq
    intro i hi
    rw [BitVec.getLsbD_or, bitHi_get k i hi]
    by_cases e : i + 64 = k
    · subst e; rw [if_neg (by omega)] at h; simp at h; simp [h]
    · simp [e]
theorem shut_same {a b : Wd} {k : Nat} (h : hasB a b k = false) : a &&& ~~~bitLo k = a ∧ b &&& ~~~bitHi k = b := by
  rw [hasB_nat] at h
  constructor
  · apply BitVec.eq_of_getLsbD_eq
    intro i hi
    rw [BitVec.getLsbD_and, BitVec.getLsbD_not, bitLo_get k i hi]
    by_cases e : i = k
    · subst e; rw [if_pos hi] at h; simp [h]
    · simp [e, hi]
  · apply BitVec.eq_of_getLsbD_eq
    intro i hi
    rw [BitVec.getLsbD_and, BitVec.getLsbD_not, bitHi_get k i hi]
    by_cases e : i + 64 = k
    · subst e; rw [if_neg (by omega)] at h; simp at h; simp [h]
    · simp [e, hi]
theorem okB_or2 {b d : Wd} (h1 : okB b = true) (h2 : okB d = true) : okB (b ||| d) = true := okB_of fun i hi => by rw [BitVec.getLsbD_or, high_zero h1 i hi, high_zero h2 i hi]; rfl
theorem okB_less {b : Wd} (d : Wd) (h1 : okB b = true) : okB (b &&& ~~~d) = true := okB_of fun i hi => by rw [BitVec.getLsbD_and, high_zero h1 i hi]; rfl
theorem hs_any (a b : Wd) {k : Nat} (hk : k < 96) : ((hs a b 96).any fun x => x == (k : Int)) = hasB a b k := by
  rw [Bool.eq_iff_iff, List.any_eq_true]
  constructor
  · rintro ⟨x, hx, he⟩
    have e : x = (k : Int) := by simpa using he
    subst e
    exact ((hs_mem a b 96 _).1 hx).2.2
  · intro h
    exact ⟨(k : Int), (hs_mem a b 96 _).2 ⟨by omega, by omega, h⟩, by simp⟩
end Go.Proofs.YtpmilcfppcmodaaDoor

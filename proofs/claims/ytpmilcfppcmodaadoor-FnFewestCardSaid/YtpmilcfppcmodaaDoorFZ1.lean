/- The fewest needles: they have few holes, and with one less more drops. Plain. -/
import Derived.Test.YtpmilcfppcmodaaDoorFWZ
import Derived.Test.YtpmilcfppcmodaaDoorGP
import Derived.Test.YtpmilcfppcmodaaDoorAO
set_option linter.unusedVariables false
set_option linter.unusedSimpArgs false
namespace Go.Proofs.YtpmilcfppcmodaaDoor
open Go.RowKit
set_option maxHeartbeats 1000000
set_option maxRecDepth 20000
def oL (a : Wd) : List Nat → Wd
  | [] => a
  | h :: L => oL (a ||| bitLo h) L
def oH (b : Wd) : List Nat → Wd
  | [] => b
  | h :: L => oH (b ||| bitHi h) L
/-- Rising holes that may be in the mask, from one on. -/
def upM (may : Nat → Bool) : Nat → List Nat → Prop
  | _, [] => True
  | f, h :: L => f ≤ h ∧ h < 96 ∧ may h = true ∧ upM may (h + 1) L
theorem has_bit1 (a b : Wd) {h k : Nat} (hk : k < 96) : hasB (a ||| bitLo h) (b ||| bitHi h) k = (hasB a b k || decide (k = h)) := by
  rw [hasB_nat, hasB_nat]
  split
  · rw [BitVec.getLsbD_or, bitLo_get h k (by omega)]
  · rw [BitVec.getLsbD_or, bitHi_get h (k - 64) (by omega)]
    have : (k - 64 + 64 = h) = (k = h) := by apply propext; omega
    simp only [this]
theorem has_oL : ∀ (L : List Nat) (a b : Wd) {k : Nat}, k < 96 → hasB (oL a L) (oH b L) k = (hasB a b k || decide (k ∈ L))
  | [], a, b, k, hk => by simp [oL, oH]
  | h :: L, a, b, k, hk => by
    rw [oL, oH, has_oL L _ _ hk, has_bit1 _ _ hk, Bool.eq_iff_iff]
    simp [or_assoc]
theorem ok_oH : ∀ (L : List Nat) (b : Wd), okB b = true → (∀ h ∈ L, h < 96) → okB (oH b L) = true
  | [], b, hb, _ => hb
  | h :: L, b, hb, hl => ok_oH L _ (okB_or2 hb (okB_bitHi (hl h (by simp)))) (fun x hx => hl x (by simp [hx]))
theorem up_lt {may : Nat → Bool} : ∀ {f : Nat} {L : List Nat}, upM may f L → ∀ h ∈ L, f ≤ h ∧ h < 96 ∧ may h = true
  | f, [], _, h, hm => by simp at hm
  | f, x :: L, hu, h, hm => by
    rcases List.mem_cons.1 hm with rfl | hm
    · exact ⟨hu.1, hu.2.1, hu.2.2.1⟩
    · have := up_lt hu.2.2.2 h hm
      exact ⟨by have := hu.1; omega, this.2⟩
theorem up_mono {may : Nat → Bool} {f g : Nat} {L : List Nat} (h : upM may g L) (hf : f ≤ g) : upM may f L := by
  cases L with
  | nil => trivial
  | cons x L => exact ⟨Nat.le_trans hf h.1, h.2⟩
theorem up_filter {may : Nat → Bool} (x : Nat) : ∀ {f : Nat} {L : List Nat}, upM may f L → upM may f (L.filter (fun y => y != x))
  | f, [], _ => trivial
  | f, y :: L, hu => by
    have ih := up_filter x hu.2.2.2
    by_cases e : y = x
    · subst e
      rw [List.filter_cons_of_neg (by simp)]
      exact up_mono ih (by have := hu.1; omega)
    · rw [List.filter_cons_of_pos (by simp [e])]
      exact ⟨hu.1, hu.2.1, hu.2.2.1, ih⟩
theorem up_len {may : Nat → Bool} {x : Nat} : ∀ {f : Nat} {L : List Nat}, upM may f L → x ∈ L → (L.filter (fun y => y != x)).length + 1 = L.length
  | f, [], _, hm => by simp at hm
  | f, y :: L, hu, hm => by
    by_cases e : y = x
    · subst e
      rw [List.filter_cons_of_neg (by simp)]
      have : L.filter (fun z => z != y) = L := List.filter_eq_self.2 fun z hz => by
        have := (up_lt hu.2.2.2 z hz).1
        simp; omega
      rw [this]; rfl
    · rw [List.filter_cons_of_pos (by simp [e]), List.length_cons, List.length_cons]
      have hm2 : x ∈ L := by
        rcases List.mem_cons.1 hm with h | h
        · exact absurd h.symm e
        · exact h
      have := up_len hu.2.2.2 hm2
      omega
theorem mask_ext2 {a b x y : Wd} (h1 : okB b = true) (h2 : okB y = true) (h : ∀ k : Nat, k < 96 → hasB a b k = hasB x y k) : a = x ∧ b = y := by
  constructor
  · apply BitVec.eq_of_getLsbD_eq
    intro i hi
    have := h i (by omega)
    rw [hasB_nat, hasB_nat, if_pos hi, if_pos hi] at this
    exact this
  · apply BitVec.eq_of_getLsbD_eq
    intro i hi
    by_cases hi2 : i < 32
    · have := h (i + 64) (by omega)
      rw [hasB_nat, hasB_nat, if_neg (by omega), if_neg (by omega)] at this
      simpa using this
    · rw [high_zero h1 i (by omega), high_zero h2 i (by omega)]
theorem scan_no {α : Type} {g : Nat → Option α} {f : Nat} : ∀ {n : Nat}, scan g f n = none → ∀ i, i < n → g (f + i) = none
  | 0, _, i, hi => by omega
  | n + 1, h, i, hi => by
    unfold scan at h
    cases hs : scan g f n with
    | some r => rw [hs] at h; simp at h
    | none =>
      rw [hs] at h
      by_cases e : i = n
      · subst e; exact h
      · exact scan_no hs i (by omega)
theorem scan_yes {α : Type} {g : Nat → Option α} {f : Nat} {r : α} : ∀ {n : Nat}, scan g f n = some r → ∃ i, i < n ∧ g (f + i) = some r
  | 0, h => by simp [scan] at h
  | n + 1, h => by
    unfold scan at h
    cases hs : scan g f n with
    | some r' =>
      rw [hs] at h
      obtain ⟨i, h1, h2⟩ := scan_yes hs
      simp only [Option.some.injEq] at h
      subst h
      exact ⟨i, by omega, h2⟩
    | none => rw [hs] at h; exact ⟨n, by omega, h⟩
theorem srch_no {P : Wd → Wd → Bool} {may : Nat → Bool} : ∀ {k f : Nat} {a b : Wd}, srch P may k f a b = none → ∀ L : List Nat, L.length = k → upM may f L → P (oL a L) (oH b L) = false
  | 0, f, a, b, h, L, hl, hu => by
    obtain rfl := List.eq_nil_of_length_eq_zero hl
    rw [srch_zero] at h
    cases hp : P a b
    · simpa [oL, oH] using hp
    · rw [if_pos hp] at h; simp at h
  | k + 1, f, a, b, h, L, hl, hu => by
    match L, hl, hu with
    | x :: L, hl, hu =>
      rw [srch_succ] at h
      have h1 := scan_no h (x - f) (by have := hu.1; have := hu.2.1; omega)
      rw [show f + (x - f) = x by have := hu.1; omega] at h1
      unfold srG at h1
      rw [if_pos hu.2.2.1] at h1
      exact srch_no h1 L (by simpa using hl) hu.2.2.2
theorem srch_yes {P : Wd → Wd → Bool} {may : Nat → Bool} {z : Wd × Wd} : ∀ {k f : Nat} {a b : Wd}, srch P may k f a b = some z → ∃ L : List Nat, L.length = k ∧ upM may f L ∧ z = (oL a L, oH b L) ∧ P (oL a L) (oH b L) = true
  | 0, f, a, b, h => by
    rw [srch_zero] at h
    cases hp : P a b
    · rw [if_neg (by rw [hp]; simp)] at h; simp at h
    · rw [if_pos hp] at h
      exact ⟨[], rfl, trivial, (Option.some.inj h).symm, hp⟩
  | k + 1, f, a, b, h => by
    rw [srch_succ] at h
    obtain ⟨i, hi, h1⟩ := scan_yes h
    unfold srG at h1
    by_cases hm : may (f + i) = true
    · rw [if_pos hm] at h1
      obtain ⟨L, e1, e2, e3, e4⟩ := srch_yes h1
      exact ⟨(f + i) :: L, by simp [e1], ⟨by omega, by omega, hm, e2⟩, e3, e4⟩
    · rw [if_neg hm] at h1; simp at h1
theorem fn_least {P : Wd → Wd → Bool} {may : Nat → Bool} {z : Wd × Wd} (h : fnR P may = some z) : ∃ k, k < 4 ∧ srch P may k 0 0#64 0#64 = some z ∧ ∀ j, j < k → srch P may j 0 0#64 0#64 = none := by
  unfold fnR at h
  cases h0 : srch P may 0 0 0#64 0#64 with
  | some r => rw [h0] at h; exact ⟨0, by omega, by rw [h0]; exact h, fun j hj => by omega⟩
  | none =>
    rw [h0] at h
    cases h1 : srch P may 1 0 0#64 0#64 with
    | some r => rw [h1] at h; exact ⟨1, by omega, by rw [h1]; exact h, fun j hj => by obtain rfl : j = 0 := by omega
                                                                                      exact h0⟩
    | none =>
      rw [h1] at h
      cases h2 : srch P may 2 0 0#64 0#64 with
      | some r =>
        rw [h2] at h
        refine ⟨2, by omega, by rw [h2]; exact h, fun j hj => ?_⟩
        rcases (show j = 0 ∨ j = 1 by omega) with rfl | rfl
        · exact h0
        · exact h1
      | none =>
        rw [h2] at h
        refine ⟨3, by omega, h, fun j hj => ?_⟩
        rcases (show j = 0 ∨ j = 1 ∨ j = 2 by omega) with rfl | rfl | rfl
        · exact h0
        · exact h1
        · exact h2
theorem hs_bit_len (a b : Wd) (h : Nat) : ∀ n, n ≤ 96 → (hs (a ||| bitLo h) (b ||| bitHi h) n).length ≤ (hs a b n).length + (if h < n then 1 else 0)
  | 0, _ => by rw [hs_zero]; simp
  | n + 1, hn => by
    have ih := hs_bit_len a b h n (by omega)
    have e := has_bit1 a b (h := h) (k := n) (by omega)
    by_cases c : n = h
    · subst c
      have e1 : hasB (a ||| bitLo n) (b ||| bitHi n) n = true := by rw [e]; simp
      rw [hs_yes e1, List.length_append, if_pos (by omega)]
      rw [if_neg (by omega)] at ih
      have h2 : (hs a b n).length ≤ (hs a b (n + 1)).length := by
        cases h3 : hasB a b n
        · rw [hs_no h3]; omega
        · rw [hs_yes h3]; simp
      simp only [List.length_cons, List.length_nil]
      omega
    · have e1 : (if h < n + 1 then 1 else 0) = (if h < n then 1 else 0) := by
        by_cases q : h < n
        · rw [if_pos q, if_pos (by omega)]
        · rw [if_neg q, if_neg (by omega)]
      rw [e1]
      have e2 : hasB (a ||| bitLo h) (b ||| bitHi h) n = hasB a b n := by rw [e]; simp [c]
      cases h3 : hasB a b n
      · rw [hs_no h3, hs_no (by rw [e2, h3])]; exact ih
      · rw [hs_yes h3, hs_yes (by rw [e2, h3]), List.length_append, List.length_append]
        simp only [List.length_cons, List.length_nil]; omega
theorem hs_oL_len : ∀ (L : List Nat) (a b : Wd), (hs (oL a L) (oH b L) 96).length ≤ (hs a b 96).length + L.length
  | [], a, b => by simp [oL, oH]
  | h :: L, a, b => by
    have h1 := hs_oL_len L (a ||| bitLo h) (b ||| bitHi h)
    have h2 := hs_bit_len a b h 96 (by omega)
    have h3 : (if h < 96 then 1 else 0) ≤ 1 := by split <;> omega
    rw [oL, oH, List.length_cons]
    omega
theorem hs_none : hs 0#64 0#64 96 = [] := by
  apply List.eq_nil_iff_forall_not_mem.2
  intro x hx
  have := ((hs_mem 0#64 0#64 96 _).1 hx).2.2
  unfold hasB at this
  split at this <;> simp at this
theorem ok_z : okB 0#64 = true := by decide
/-- What was found: few holes, and none that may be left out. -/
theorem few_less {P : Wd → Wd → Bool} {may : Nat → Bool} {z : Wd × Wd} (h : fnR P may = some z) :
    okB z.2 = true ∧ P z.1 z.2 = true ∧ (hs z.1 z.2 96).length ≤ 3 ∧ ∀ x ∈ hs z.1 z.2 96, P (z.1 &&& ~~~bitLo x) (z.2 &&& ~~~bitHi x) = false := by
  obtain ⟨k, hk, h1, h2⟩ := fn_least h
  obtain ⟨L, e1, e2, rfl, e4⟩ := srch_yes h1
  have hlt := up_lt e2
  have hok : okB (oH 0#64 L) = true := ok_oH L _ ok_z (fun x hx => (hlt x hx).2.1)
  refine ⟨hok, e4, ?_, ?_⟩
  · have := hs_oL_len L 0#64 0#64
    rw [hs_none] at this
    simp only [List.length_nil] at this
    show (hs (oL 0#64 L) (oH 0#64 L) 96).length ≤ 3
    omega
  · intro x hx
    obtain ⟨x0, x1, x2⟩ := (hs_mem _ _ 96 _).1 hx
    obtain ⟨n, rfl⟩ := Int.eq_ofNat_of_zero_le x0
    have hn : n < 96 := by omega
    have hz0 : ∀ k : Nat, hasB 0#64 0#64 k = false := fun k => by unfold hasB; split <;> simp
    have x3 : hasB (oL 0#64 L) (oH 0#64 L) n = true := x2
    rw [has_oL L _ _ hn, hz0, Bool.false_or, decide_eq_true_eq] at x3
    have hf := up_filter n e2
    have hfl := up_lt hf
    have hl := up_len e2 x3
    have h3 := srch_no (h2 (L.filter (fun y => y != n)).length (by omega)) _ rfl hf
    have h4 : oL 0#64 L &&& ~~~bitLo n = oL 0#64 (L.filter (fun y => y != n)) ∧ oH 0#64 L &&& ~~~bitHi n = oH 0#64 (L.filter (fun y => y != n)) := by
      refine mask_ext2 (okB_less _ hok) (ok_oH _ _ ok_z (fun y hy => (hfl y hy).2.1)) (fun j hj => ?_)
      rw [has_oL _ _ _ hj, hz0, Bool.false_or]
      by_cases e : j = n
      · subst e
        rw [has_shut _ _ hj]; simp
      · have h5 : hasB (oL 0#64 L &&& ~~~bitLo n) (oH 0#64 L &&& ~~~bitHi n) j = hasB (oL 0#64 L) (oH 0#64 L) j := by
          rw [hasB_nat, hasB_nat]
          split
          · rw [BitVec.getLsbD_and, BitVec.getLsbD_not, bitLo_get n j (by omega)]
            simp [e]; intro; omega
          · rw [BitVec.getLsbD_and, BitVec.getLsbD_not, bitHi_get n (j - 64) (by omega)]
            have : ¬ (j - 64 + 64 = n) := by omega
            simp [this]; intro; omega
        rw [h5, has_oL L _ _ hj, hz0, Bool.false_or, Bool.eq_iff_iff]
        simp [e]
    show P (oL 0#64 L &&& ~~~bitLo n) (oH 0#64 L &&& ~~~bitHi n) = false
    rw [h4.1, h4.2]
    exact h3
theorem an_sub {l : List Cd} {qs qt : List Qy} (h : ∀ i, drAt l qs i = true → drAt l qt i = true) : ∀ n, (anN l qs n).length ≤ (anN l qt n).length ∧ ((anN l qs n).length = (anN l qt n).length → anN l qs n = anN l qt n)
  | 0 => by simp [anN]
  | n + 1 => by
    have ih := an_sub h n
    cases h1 : drAt l qs n
    · rw [anN_no h1]
      cases h2 : drAt l qt n
      · rw [anN_no h2]; exact ih
      · rw [anN_yes h2, List.length_append]
        simp only [List.length_cons, List.length_nil]
        exact ⟨by omega, fun e => by omega⟩
    · have h2 := h n h1
      rw [anN_yes h1, anN_yes h2, List.length_append, List.length_append]
      simp only [List.length_cons, List.length_nil]
      exact ⟨by omega, fun e => by rw [ih.2 (by omega)]⟩
theorem within_less {a b x y c d : Wd} (h : withinB a b x y = true) : withinB (a &&& ~~~c) (b &&& ~~~d) x y = true := by
  unfold withinB at *
  simp only [Bool.and_eq_true, beq_iff_eq] at *
  have e : ∀ p q r : Wd, p &&& ~~~r = 0#64 → (p &&& ~~~q) &&& ~~~r = 0#64 := fun p q r hp => by
    rw [BitVec.and_assoc, BitVec.and_comm (~~~q), ← BitVec.and_assoc, hp]; simp
  exact ⟨e _ _ _ h.1, e _ _ _ h.2⟩
/-- With holes left out more drops, where not the same does. -/
theorem more_drops {l : List Cd} {wd : List Int} {a b c d : Wd} (h : ansL l [⟨a, b, 0#64, 0#64⟩] = wd) (h2 : fitB l wd (a &&& ~~~c) (b &&& ~~~d) = false) : wd.length < (ansL l [⟨a &&& ~~~c, b &&& ~~~d, 0#64, 0#64⟩]).length := by
  have hs := an_sub (l := l) (qs := [⟨a, b, 0#64, 0#64⟩]) (qt := [⟨a &&& ~~~c, b &&& ~~~d, 0#64, 0#64⟩]) (fun i hi => by
    unfold drAt at *
    cases hc : l[i]? with
    | none => rw [hc] at hi; simp at hi
    | some x =>
      rw [hc] at hi
      simp only [List.any_cons, List.any_nil, Bool.or_false, qdr_all] at hi ⊢
      exact within_less hi) l.length
  unfold fitB at h2
  rw [decide_eq_false_iff_not] at h2
  unfold ansL at *
  rw [h] at hs
  have h3 := hs.1
  have h4 : wd.length ≠ (anN l [⟨a &&& ~~~c, b &&& ~~~d, 0#64, 0#64⟩] l.length).length := fun e => h2 (hs.2 e).symm
  omega
theorem an_in {l : List Cd} {qs : List Qy} : ∀ n, (anN l qs n).Pairwise (· < ·) ∧ ∀ x ∈ anN l qs n, 0 ≤ x ∧ x < (n : Int)
  | 0 => by simp [anN]
  | n + 1 => by
    obtain ⟨h1, h2⟩ := an_in (l := l) (qs := qs) n
    cases h3 : drAt l qs n
    · rw [anN_no h3]
      exact ⟨h1, fun x hx => by have := h2 x hx; omega⟩
    · rw [anN_yes h3]
      refine ⟨List.pairwise_append.2 ⟨h1, by simp, fun x hx y hy => ?_⟩, fun x hx => ?_⟩
      · have := h2 x hx
        obtain rfl : y = (n : Int) := by simpa using hy
        omega
      · rcases List.mem_append.1 hx with h | h
        · have := h2 x h; omega
        · obtain rfl : x = (n : Int) := by simpa using h
          omega
theorem an_wanted (l : List Cd) (qs : List Qy) : wnB (ansL l qs) l.length = true := by
  obtain ⟨h1, h2⟩ := an_in (l := l) (qs := qs) l.length
  unfold wnB ansL
  generalize anN l qs l.length = L at *
  rw [List.all_eq_true]
  intro i hi
  have hi := List.mem_range.1 hi
  have h3 := h2 L[i] (List.getElem_mem hi)
  have h4 : inB L[i] 0 ((l.length : Int) - 1) = true := by unfold inB; simp; omega
  cases i with
  | zero => rw [wnAt_zero hi]; exact h4
  | succ m =>
    rw [wnAt_succ hi, h4, Bool.true_and, decide_eq_true_eq]
    exact List.pairwise_iff_getElem.1 h1 m (m + 1) (by omega) hi (by omega)
end Go.Proofs.YtpmilcfppcmodaaDoor

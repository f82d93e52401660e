/- Numbers of holes in words, and the words of a text; plain. -/
import Derived.Test.YtagldpbmadfokaaGreatDoorCT3
import Derived.Lib.ParseIntBTie
import Derived.Lib.Split
set_option linter.unusedVariables false
set_option linter.unusedSimpArgs false
namespace Go.Proofs.YtagldpbmadfokaaGreatDoor
open Go.RowKit Go.Shelf Go.Lib
set_option maxHeartbeats 1000000
set_option maxRecDepth 20000
/-- The digits of a small number. -/
def dgS (n : Nat) : List UInt8 := if n < 10 then [UInt8.ofNat (48 + n)] else [UInt8.ofNat (48 + n / 10), UInt8.ofNat (48 + n % 10)]
theorem decS_dg {n : Nat} (h : n < 100) : decS (n : Int) = ⟨(dgS n).toArray⟩ := by
  unfold decS dgS
  rw [Int.toNat_natCast]
  by_cases h1 : n < 10
  · rw [decDigits_one h1, if_pos h1]
  · rw [decDigits_two h1 h, if_neg h1]
/-- The hole that a word tells. -/
def numB (w : ByteArray) : Option Nat := (List.range 96).find? (fun n => decide (decS (n : Int) = w))
theorem numB_some {w : ByteArray} {n : Nat} (h : numB w = some n) : n < 96 ∧ w = decS (n : Int) := by
  unfold numB at h
  have h1 := List.find?_some h
  have h2 := List.mem_of_find?_eq_some h
  exact ⟨List.mem_range.1 h2, (by simpa using h1 : decS (n : Int) = w).symm⟩
theorem numB_is {w : ByteArray} {n : Nat} (hn : n < 96) (h : w = decS (n : Int)) : (numB w).isSome = true := by
  unfold numB
  rw [List.find?_isSome]
  exact ⟨n, List.mem_range.2 hn, by simp [h]⟩
/-- What a reader of numbers tells of a word: a hole's number, or that there is none. -/
def rdN (w : ByteArray) (v : Int) (b : Bool) : Prop := (b && holeB v) = (numB w).isSome ∧ ∀ n : Nat, numB w = some n → v = n ∧ b = true
theorem rdN_of {w : ByteArray} {v : Int} {b : Bool} (h1 : b = true → 0 ≤ v → v < 96 → w = decS v) (h2 : ∀ n : Nat, n < 96 → w = decS (n : Int) → v = n ∧ b = true) : rdN w v b := by
  refine ⟨?_, fun n hn => ?_⟩
  · cases hq : numB w with
    | some n =>
      obtain ⟨a, e⟩ := numB_some hq
      obtain ⟨e1, e2⟩ := h2 n a e
      rw [e1, e2]
      have : holeB (n : Int) = true := holeB_iff.2 ⟨by omega, by omega⟩
      rw [this]; rfl
    | none =>
      cases hb : b
      · rfl
      · cases hv : holeB v
        · rfl
        · obtain ⟨x0, x1⟩ := holeB_iff.1 hv
          have e := h1 hb x0 x1
          obtain ⟨m, rfl⟩ : ∃ m : Nat, v = m := ⟨v.toNat, by omega⟩
          have := numB_is (by omega) e
          rw [hq] at this; simp at this
  · obtain ⟨a, e⟩ := numB_some hn
    exact h2 n a e
theorem parse_dg (n : Nat) (h : n < 96) : parseIntB 64 (dgS n) = .ok (n : Int) := by
  have : ∀ n : Fin 96, parseIntB 64 (dgS n.val) = .ok (n.val : Int) := by decide +kernel
  exact this ⟨n, h⟩
theorem parse_dec (n : Nat) (h : n < 96) : parseIntB 64 (decS (n : Int)).data.toList = .ok (n : Int) := by
  rw [decS_dg (by omega)]; exact parse_dg n h
/-- A digit. -/
def dgB (c : UInt8) : Bool := decide (48 ≤ c.toNat) && decide (c.toNat ≤ 57)
/-- The number that these digits tell. -/
def vlN (l : List UInt8) : Nat := l.foldl (fun n c => 10 * n + (c.toNat - 48)) 0
theorem vl_succ {l : List UInt8} {i : Nat} (h : i < l.length) : vlN (l.take (i + 1)) = 10 * vlN (l.take i) + (l[i].toNat - 48) := by
  unfold vlN; rw [List.take_succ_eq_append_getElem h, List.foldl_append]; rfl
theorem vl_bound {l : List UInt8} (h : l.all dgB = true) : vlN l < 10 ^ l.length := by
  have : ∀ (l : List UInt8) (a k : Nat), l.all dgB = true → a < 10 ^ k → l.foldl (fun n c => 10 * n + (c.toNat - 48)) a < 10 ^ (k + l.length) := by
    intro l
    induction l with
    | nil => intro a k _ h; simpa using h
    | cons c l ih =>
      intro a k hl h
      rw [List.all_cons, Bool.and_eq_true] at hl
      have h1 : c.toNat ≤ 57 := by have := hl.1; unfold dgB at this; simp at this; exact this.2
      have := ih (10 * a + (c.toNat - 48)) (k + 1) hl.2 (by rw [Nat.pow_succ]; omega)
      rw [List.foldl_cons, List.length_cons, show k + (l.length + 1) = k + 1 + l.length by omega]
      exact this
  have := this l 0 0 h (by simp)
  simpa [vlN] using this
/-- Is the word a number of at most ten digits, without a zero ahead? -/
def nmB (l : List UInt8) : Bool := decide (l ≠ []) && decide (l.length ≤ 10) && !(decide (l.head? = some 48) && decide (1 < l.length)) && l.all dgB
def nmV (l : List UInt8) : Nat := cond (nmB l) (vlN l) 0
theorem vl_grow (l : List UInt8) (a : Nat) : a ≤ l.foldl (fun n c => 10 * n + (c.toNat - 48)) a := by
  induction l generalizing a with
  | nil => exact Nat.le_refl _
  | cons c l ih => rw [List.foldl_cons]; exact Nat.le_trans (by omega) (ih _)
theorem dgB_num {c : UInt8} (h : dgB c = true) : 48 ≤ c.toNat ∧ c.toNat ≤ 57 := by unfold dgB at h; simpa using h
theorem u8_of {c : UInt8} {n : Nat} (h : c.toNat = n) : UInt8.ofNat n = c := by rw [← h]; exact UInt8.ofNat_toNat
theorem nm_dg (n : Nat) (h : n < 96) : nmB (dgS n) = true ∧ vlN (dgS n) = n := by
  have : ∀ n : Fin 96, nmB (dgS n.val) = true ∧ vlN (dgS n.val) = n.val := by decide +kernel
  exact this ⟨n, h⟩
theorem nm_small {l : List UInt8} (h : nmB l = true) (hv : vlN l < 96) : l = dgS (vlN l) := by
  unfold nmB at h
  simp only [Bool.and_eq_true] at h
  obtain ⟨⟨⟨h1, h2⟩, h3⟩, h4⟩ := h
  match l, h1, h3, h4, hv with
  | [], h1, _, _, _ => simp at h1
  | [c], _, _, h4, hv =>
    have hc : dgB c = true := by simpa using h4
    obtain ⟨a, b⟩ := dgB_num hc
    have e : vlN [c] = c.toNat - 48 := by simp [vlN]
    rw [e]; unfold dgS; rw [if_pos (by omega), u8_of (c := c) (by omega)]
  | [c, d], _, h3, h4, hv =>
    simp only [List.all_cons, List.all_nil, Bool.and_true, Bool.and_eq_true] at h4
    obtain ⟨a, b⟩ := dgB_num h4.1
    obtain ⟨a2, b2⟩ := dgB_num h4.2
    have hne : c ≠ 48 := by intro e; subst e; simp at h3
    have hne2 : c.toNat ≠ 48 := fun e => hne (by rw [← UInt8.toNat_inj]; exact e)
    have e : vlN [c, d] = 10 * (c.toNat - 48) + (d.toNat - 48) := by simp [vlN]
    rw [e]; unfold dgS; rw [if_neg (by omega), u8_of (c := c) (by omega), u8_of (c := d) (by omega)]
  | c :: d :: x :: r, _, h3, h4, hv =>
    simp only [List.all_cons, Bool.and_eq_true] at h4
    obtain ⟨a, b⟩ := dgB_num h4.1
    obtain ⟨a2, b2⟩ := dgB_num h4.2.1
    have hne : c ≠ 48 := by intro e; subst e; simp at h3
    have hne2 : c.toNat ≠ 48 := fun e => hne (by rw [← UInt8.toNat_inj]; exact e)
    have e : vlN (c :: d :: x :: r) = r.foldl (fun n c => 10 * n + (c.toNat - 48)) (10 * (10 * (10 * 0 + (c.toNat - 48)) + (d.toNat - 48)) + (x.toNat - 48)) := rfl
    have := vl_grow r (10 * (10 * (10 * 0 + (c.toNat - 48)) + (d.toNat - 48)) + (x.toNat - 48))
    rw [← e] at this
    omega
theorem bytes_list (s : ByteArray) : (⟨s.data.toList.toArray⟩ : ByteArray) = s := rfl
theorem nm_rdN (s : ByteArray) : rdN s (nmV s.data.toList : Nat) (nmB s.data.toList) := by
  refine rdN_of (fun hb h0 h1 => ?_) (fun n hn e => ?_)
  · unfold nmV at h1 ⊢
    rw [hb, cond_true] at h1 ⊢
    have := nm_small hb (by omega)
    rw [decS_dg (by omega), ← this]
  · have e1 : s.data.toList = dgS n := by rw [e, decS_dg (by omega)]
    obtain ⟨h1, h2⟩ := nm_dg n hn
    rw [e1]
    unfold nmV
    rw [h1, cond_true, h2]; exact ⟨rfl, rfl⟩
/-- The words of a text, cut at each such byte. -/
def spl (c : UInt8) : List UInt8 → List (List UInt8)
  | [] => [[]]
  | x :: r => if x = c then [] :: spl c r else match spl c r with
    | [] => [[x]]
    | w :: ws => (x :: w) :: ws
theorem spl_cut {c : UInt8} : ∀ (p r : List UInt8), (∀ x ∈ p, x ≠ c) → spl c (p ++ c :: r) = p :: spl c r
  | [], r, _ => by simp [spl]
  | x :: p, r, h => by
    have ih := spl_cut p r (fun y hy => h y (List.mem_cons_of_mem _ hy))
    rw [List.cons_append, spl, if_neg (h x List.mem_cons_self), ih]
theorem spl_no {c : UInt8} : ∀ p : List UInt8, (∀ x ∈ p, x ≠ c) → spl c p = [p]
  | [], _ => rfl
  | x :: p, h => by
    have ih := spl_no p (fun y hy => h y (List.mem_cons_of_mem _ hy))
    rw [spl, if_neg (h x List.mem_cons_self), ih]
theorem occ_one {s : List UInt8} {c : UInt8} {j : Nat} (hj : j < s.length) : occAt s [c] j = decide (s[j] = c) := by
  rw [occAt_iff_take s [c] j (by simp; omega), List.drop_eq_getElem_cons hj]
  simp only [List.length_cons, List.length_nil, Nat.zero_add, List.take_succ_cons, List.take_zero]
  by_cases e : s[j] = c
  · simp [e]
  · simp [e]
theorem splitK_spl (c : UInt8) : ∀ (n : Nat) (s : List UInt8), s.length ≤ n → splitK [c] 0 (count s [c]) s = spl c s
  | 0, s, hn => by
    obtain rfl := List.eq_nil_of_length_eq_zero (by omega : s.length = 0)
    rcases index_spec [] [c] with ⟨h, _⟩ | ⟨i, h, hi, ho, _⟩
    · rw [count_miss h]; rfl
    · rcases occAt_room ho with h1 | h1
      · simp at h1
      · simp at h1
  | n + 1, s, hn => by
    rcases index_spec s [c] with ⟨h, hno⟩ | ⟨i, h, hi, ho, hno⟩
    · rw [count_miss h, spl_no s]
      · rfl
      · intro x hx e
        obtain ⟨j, hj, rfl⟩ := List.getElem_of_mem hx
        have := hno j (by omega)
        rw [occ_one hj, e] at this; simp at this
    · have hlt : i < s.length := by
        rcases occAt_room ho with h1 | h1
        · simp at h1; omega
        · simp at h1
      rw [occ_one hlt] at ho
      have hc : s[i] = c := by simpa using ho
      rw [count_hit (by simp) h, Nat.add_comm 1, splitK, if_neg (by rw [h]; simp), h]
      simp only [Int.toNat_natCast, List.length_cons, List.length_nil, Nat.zero_add, Nat.add_zero]
      rw [splitK_spl c n _ (by rw [List.length_drop]; omega)]
      conv => rhs; rw [← List.take_append_drop i s, List.drop_eq_getElem_cons hlt, hc]
      rw [spl_cut]
      intro x hx e
      obtain ⟨j, hj, rfl⟩ := List.getElem_of_mem hx
      rw [List.length_take] at hj
      have := hno j (by omega)
      rw [occ_one (by omega)] at this
      rw [List.getElem_take] at e
      rw [e] at this; simp at this
/-- The words of a text. -/
def wds (c : UInt8) (s : ByteArray) : List ByteArray := (spl c s.data.toList).map (fun l => ⟨l.toArray⟩)
theorem split_wds (c : UInt8) (s : ByteArray) : splitB ⟨#[c]⟩ 0 (countB s ⟨#[c]⟩) s = wds c s := by
  have h := splitB_data ⟨#[c]⟩ 0 (countB s ⟨#[c]⟩) s
  have h2 := splitK_spl c s.data.toList.length s.data.toList (Nat.le_refl _)
  rw [show splitK (⟨#[c]⟩ : ByteArray).data.toList 0 (countB s ⟨#[c]⟩) s.data.toList = spl c s.data.toList from h2] at h
  unfold wds
  rw [← h, List.map_map]
  conv => lhs; rw [← List.map_id (splitB ⟨#[c]⟩ 0 (countB s ⟨#[c]⟩) s)]
  rfl
theorem spl_ne (c : UInt8) : ∀ s, spl c s ≠ []
  | [] => by simp [spl]
  | x :: r => by
    unfold spl
    split
    · simp
    · split <;> simp
theorem spl_len (c : UInt8) : ∀ s, (spl c s).length ≤ s.length + 1
  | [] => by simp [spl]
  | x :: r => by
    have ih := spl_len c r
    unfold spl
    split
    · simp; omega
    · split
      · simp
      · rename_i w ws e
        rw [e] at ih; simp at ih ⊢; omega
theorem spl_size (c : UInt8) : ∀ s, ∀ w ∈ spl c s, w.length ≤ s.length
  | [], w, h => by simp [spl] at h; simp [h]
  | x :: r, w, h => by
    have ih := spl_size c r
    unfold spl at h
    split at h
    · rcases List.mem_cons.1 h with rfl | h
      · simp
      · have := ih w h; simp; omega
    · split at h
      · simp at h; simp [h]
      · rename_i v vs e
        rcases List.mem_cons.1 h with rfl | h
        · have := ih v (by rw [e]; exact List.mem_cons_self); simp; omega
        · have := ih w (by rw [e]; exact List.mem_cons_of_mem _ h); simp; omega
theorem wds_len (c : UInt8) (s : ByteArray) : 1 ≤ (wds c s).length ∧ (wds c s).length ≤ s.size + 1 := by
  unfold wds
  rw [List.length_map]
  have h1 := spl_len c s.data.toList
  have h2 : (spl c s.data.toList).length ≠ 0 := fun e => spl_ne c _ (List.eq_nil_of_length_eq_zero e)
  rw [Lib.size_eq]
  omega
theorem wds_size {c : UInt8} {s w : ByteArray} (h : w ∈ wds c s) : w.size ≤ s.size := by
  unfold wds at h
  obtain ⟨l, hl, rfl⟩ := List.mem_map.1 h
  have := spl_size c _ l hl
  rw [Lib.size_eq, Lib.size_eq]; exact this
end Go.Proofs.YtagldpbmadfokaaGreatDoor

/- How many bits of a word are set: the sum by halves, and the sum bit by bit. No program in sight. -/
import Derived.Test.YtpmilcfppcmodaaDoorPure
set_option linter.unusedVariables false
namespace Go.Proofs.YtpmilcfppcmodaaDoor
open Go.RowKit
def pcN : Nat → Nat → Nat
  | 0, _ => 0
  | f + 1, x => x % 2 + pcN f (x / 2)
/-- How many bits are set. -/
def pc (x : Wd) : Nat := pcN 64 x.toNat
theorem pcN_zero (f : Nat) : pcN f 0 = 0 := by induction f with
  | zero => rfl
  | succ f ih => simp [pcN, ih]
theorem pcN_add (a b x : Nat) : pcN (a + b) x = pcN a x + pcN b (x / 2 ^ a) := by
  induction a generalizing x with
  | zero => simp [pcN]
  | succ a ih =>
    rw [show a + 1 + b = (a + b) + 1 by omega]
    simp only [pcN]
    rw [ih, Nat.div_div_eq_div_mul, Nat.pow_succ, Nat.mul_comm 2]; omega
theorem pcN_le (f x : Nat) : pcN f x ≤ f := by
  induction f generalizing x with
  | zero => simp [pcN]
  | succ f ih => simp only [pcN]; have := ih (x / 2); omega
theorem pcN_more (f x : Nat) (h : x < 2 ^ f) (g : Nat) (hg : f ≤ g) : pcN g x = pcN f x := by
  obtain ⟨d, rfl⟩ : ∃ d, g = f + d := ⟨g - f, by omega⟩
  rw [pcN_add, Nat.div_eq_of_lt h, pcN_zero]; omega
theorem pcN_mod (f x : Nat) : pcN f x = pcN f (x % 2 ^ f) := by
  induction f generalizing x with
  | zero => rfl
  | succ f ih =>
    simp only [pcN]
    rw [ih (x / 2), ih (x % 2 ^ (f + 1) / 2)]
    have e1 : x % 2 ^ (f + 1) % 2 = x % 2 := Nat.mod_mod_of_dvd _ ⟨2 ^ f, by rw [Nat.pow_succ, Nat.mul_comm]⟩
    have e2 : x % 2 ^ (f + 1) / 2 % 2 ^ f = x / 2 % 2 ^ f := by
      rw [Nat.pow_succ, Nat.mul_comm, Nat.mod_mul_right_div_self, Nat.mod_mod]
    rw [e1, e2]

/-- The same byte again and again. -/
def rep (c : Nat) : Nat → Nat
  | 0 => 0
  | n + 1 => c + 256 * rep c n
/-- Each byte through a function. -/
def mapB (g : Nat → Nat) : Nat → Nat → Nat
  | 0, _ => 0
  | n + 1, x => g (x % 256) + 256 * mapB g n (x / 256)
theorem and_split (a b x y : Nat) (ha : a < 256) (hb : b < 256) : (a + 256 * x) &&& (b + 256 * y) = (a &&& b) + 256 * (x &&& y) := by
  have h1 : ((a + 256 * x) &&& (b + 256 * y)) % 2 ^ 8 = a &&& b := by
    rw [Nat.and_mod_two_pow]; congr 1 <;> omega
  have h2 : ((a + 256 * x) &&& (b + 256 * y)) / 2 ^ 8 = x &&& y := by
    rw [Nat.and_div_two_pow]; congr 1 <;> omega
  omega
theorem mapB_add (g h : Nat → Nat) (n x : Nat) : mapB g n x + mapB h n x = mapB (fun b => g b + h b) n x := by
  induction n generalizing x with
  | zero => rfl
  | succ n ih => simp only [mapB]; rw [← ih]; omega
theorem mapB_congr {g h : Nat → Nat} (hg : ∀ b, b < 256 → g b = h b) (n x : Nat) : mapB g n x = mapB h n x := by
  induction n generalizing x with
  | zero => rfl
  | succ n ih => simp only [mapB]; rw [ih, hg _ (Nat.mod_lt _ (by decide))]
theorem mapB_mapB {g h : Nat → Nat} (hh : ∀ b, b < 256 → h b < 256) (n x : Nat) : mapB g n (mapB h n x) = mapB (fun b => g (h b)) n x := by
  induction n generalizing x with
  | zero => rfl
  | succ n ih =>
    have := hh (x % 256) (Nat.mod_lt _ (by decide))
    simp only [mapB]
    rw [show (h (x % 256) + 256 * mapB h n (x / 256)) % 256 = h (x % 256) by omega, show (h (x % 256) + 256 * mapB h n (x / 256)) / 256 = mapB h n (x / 256) by omega, ih]
theorem and_mask (c n x : Nat) (hc : c < 256) : x &&& rep c n = mapB (fun b => b &&& c) n x := by
  induction n generalizing x with
  | zero => simp [rep, mapB]
  | succ n ih =>
    simp only [rep, mapB]
    rw [← ih]
    have := and_split (x % 256) c (x / 256) (rep c n) (Nat.mod_lt _ (by decide)) hc
    rw [show x % 256 + 256 * (x / 256) = x by omega] at this
    exact this
theorem shr_mask (k c n x : Nat) (hk : 2 ^ k ≤ 256) (hc : c < 256) (hd : ∀ b q, b < 256 → q < 2 ^ k → ((b / 2 ^ k + 256 / 2 ^ k * q) &&& c) = (b / 2 ^ k &&& c)) (h8 : 2 ^ k * (256 / 2 ^ k) = 256) :
    x / 2 ^ k &&& rep c n = mapB (fun b => b / 2 ^ k &&& c) n x := by
  induction n generalizing x with
  | zero => simp [rep, mapB]
  | succ n ih =>
    simp only [rep, mapB]
    rw [← ih]
    have hp : 0 < 2 ^ k := Nat.two_pow_pos k
    have e1 : x / 2 ^ k = (x / 2 ^ k) % 256 + 256 * (x / 256 / 2 ^ k) := by
      have : x / 256 / 2 ^ k = x / 2 ^ k / 256 := by rw [Nat.div_div_eq_div_mul, Nat.div_div_eq_div_mul, Nat.mul_comm]
      rw [this]; omega
    have e2 : (x / 2 ^ k) % 256 = (x % 256) / 2 ^ k + 256 / 2 ^ k * (x / 256 % 2 ^ k) := by
      have hx : x = 2 ^ k * (256 / 2 ^ k) * (x / 256) + x % 256 := by rw [h8]; omega
      have a1 : x / 2 ^ k = 256 / 2 ^ k * (x / 256) + x % 256 / 2 ^ k := by
        conv => lhs; rw [hx]
        rw [Nat.mul_assoc, Nat.mul_add_div hp]
      have a2 : x / 256 = 2 ^ k * (x / 256 / 2 ^ k) + x / 256 % 2 ^ k := (Nat.div_add_mod _ _).symm
      have a3 : 256 / 2 ^ k * (x / 256) = 256 * (x / 256 / 2 ^ k) + 256 / 2 ^ k * (x / 256 % 2 ^ k) := by
        conv => lhs; rw [a2]
        rw [Nat.mul_add, ← Nat.mul_assoc, Nat.mul_comm (256 / 2 ^ k), h8]
      have lt : x % 256 / 2 ^ k + 256 / 2 ^ k * (x / 256 % 2 ^ k) < 256 := by
        have b1 : x % 256 / 2 ^ k < 256 / 2 ^ k := by
          rw [Nat.div_lt_iff_lt_mul hp, Nat.mul_comm, h8]; exact Nat.mod_lt _ (by decide)
        have b2 : x / 256 % 2 ^ k + 1 ≤ 2 ^ k := Nat.mod_lt _ hp
        have b3 : 256 / 2 ^ k * (x / 256 % 2 ^ k + 1) ≤ 256 / 2 ^ k * 2 ^ k := Nat.mul_le_mul_left _ b2
        rw [Nat.mul_comm _ (2 ^ k), h8, Nat.mul_add] at b3
        omega
      omega
    rw [e1, and_split _ _ _ _ (Nat.mod_lt _ (by decide)) hc, e2, hd _ _ (Nat.mod_lt _ (by decide)) (Nat.mod_lt _ hp)]

def g1 (b : Nat) : Nat := (b / 2 &&& 85) + (b &&& 85)
def g2 (b : Nat) : Nat := (b / 4 &&& 51) + (b &&& 51)
def g3 (b : Nat) : Nat := (b / 16 + b) % 16
theorem shr1 : ∀ b : Fin 256, ∀ q : Fin 2, ((b.val / 2 + 128 * q.val) &&& 85) = (b.val / 2 &&& 85) := by decide +kernel
theorem shr2 : ∀ b : Fin 256, ∀ q : Fin 4, ((b.val / 4 + 64 * q.val) &&& 51) = (b.val / 4 &&& 51) := by decide +kernel
theorem g1_lt : ∀ b : Fin 256, g1 b.val < 256 := by decide +kernel
theorem g2_lt : ∀ b : Fin 256, g2 (g1 b.val) < 256 ∧ g2 (g1 b.val) / 16 ≤ 4 ∧ g2 (g1 b.val) % 16 ≤ 4 := by decide +kernel
theorem g3_pc : ∀ b : Fin 256, g3 (g2 (g1 b.val)) = pcN 8 b.val := by decide +kernel
theorem stage1 (n x : Nat) : (x / 2 &&& rep 85 n) + (x &&& rep 85 n) = mapB g1 n x := by
  have h := shr_mask 1 85 n x (by decide) (by decide) (fun b q hb hq => shr1 ⟨b, hb⟩ ⟨q, hq⟩) (by decide)
  rw [show x / 2 = x / 2 ^ 1 by simp, h, and_mask 85 n x (by decide), mapB_add]; rfl
theorem stage2 (n x : Nat) : (x / 4 &&& rep 51 n) + (x &&& rep 51 n) = mapB g2 n x := by
  have h := shr_mask 2 51 n x (by decide) (by decide) (fun b q hb hq => shr2 ⟨b, hb⟩ ⟨q, hq⟩) (by decide)
  rw [show x / 4 = x / 2 ^ 2 by simp, h, and_mask 51 n x (by decide), mapB_add]; rfl
/-- Each byte's halves are small. -/
def Small : Nat → Nat → Prop
  | 0, x => x = 0
  | n + 1, x => x % 256 / 16 ≤ 4 ∧ x % 16 ≤ 4 ∧ Small n (x / 256)
theorem stage3 (n x : Nat) (hs : Small n x) : (x / 16 + x) &&& rep 15 n = mapB g3 n x := by
  induction n generalizing x with
  | zero => simp [rep, mapB]
  | succ n ih =>
    obtain ⟨h1, h2, h3⟩ := hs
    have h4 : x / 256 % 16 ≤ 4 := by
      cases n with
      | zero => have h3 : x / 256 = 0 := h3; rw [h3]; omega
      | succ n => exact h3.2.1
    simp only [rep, mapB]
    rw [← ih _ h3]
    have e : x / 16 + x = (x % 256 / 16 + x % 256 + 16 * (x / 256 % 16)) + 256 * (x / 256 / 16 + x / 256) := by omega
    rw [e, and_split _ _ _ _ (by omega) (by decide)]
    congr 1
    unfold g3
    rw [show (15 : Nat) = 2 ^ 4 - 1 from rfl, Nat.and_two_pow_sub_one_eq_mod]
    omega
theorem small_of {n x : Nat} : Small n (mapB (fun b => g2 (g1 b)) n x) := by
  induction n generalizing x with
  | zero => rfl
  | succ n ih =>
    have h := g2_lt ⟨x % 256, Nat.mod_lt _ (by decide)⟩
    simp only at h
    simp only [mapB, Small]
    refine ⟨by omega, by omega, ?_⟩
    rw [show (g2 (g1 (x % 256)) + 256 * mapB (fun b => g2 (g1 b)) n (x / 256)) / 256 = mapB (fun b => g2 (g1 b)) n (x / 256) by omega]
    exact ih
theorem mapB_pc (x : Nat) : ∃ p0 p1 p2 p3 p4 p5 p6 p7 : Nat, p0 ≤ 8 ∧ p1 ≤ 8 ∧ p2 ≤ 8 ∧ p3 ≤ 8 ∧ p4 ≤ 8 ∧ p5 ≤ 8 ∧ p6 ≤ 8 ∧ p7 ≤ 8 ∧
    mapB (fun b => pcN 8 b) 8 x = p0 + 256 * (p1 + 256 * (p2 + 256 * (p3 + 256 * (p4 + 256 * (p5 + 256 * (p6 + 256 * (p7 + 256 * 0))))))) ∧ pcN 64 x = p0 + (p1 + (p2 + (p3 + (p4 + (p5 + (p6 + p7)))))) := by
  refine ⟨_, _, _, _, _, _, _, _, pcN_le 8 _, pcN_le 8 _, pcN_le 8 _, pcN_le 8 _, pcN_le 8 _, pcN_le 8 _, pcN_le 8 _, pcN_le 8 _, rfl, ?_⟩
  rw [show (64 : Nat) = 8 + (8 + (8 + (8 + (8 + (8 + (8 + 8)))))) from rfl]
  simp only [pcN_add]
  have e : ∀ y, pcN 8 y = pcN 8 (y % 256) := fun y => pcN_mod 8 y
  rw [e x, e (x / 2 ^ 8), e (x / 2 ^ 8 / 2 ^ 8), e (x / 2 ^ 8 / 2 ^ 8 / 2 ^ 8), e (x / 2 ^ 8 / 2 ^ 8 / 2 ^ 8 / 2 ^ 8), e (x / 2 ^ 8 / 2 ^ 8 / 2 ^ 8 / 2 ^ 8 / 2 ^ 8), e (x / 2 ^ 8 / 2 ^ 8 / 2 ^ 8 / 2 ^ 8 / 2 ^ 8 / 2 ^ 8), e (x / 2 ^ 8 / 2 ^ 8 / 2 ^ 8 / 2 ^ 8 / 2 ^ 8 / 2 ^ 8 / 2 ^ 8)]
def st1 (x : Wd) : Wd := (x >>> 1 &&& 6148914691236517205#64) + (x &&& 6148914691236517205#64)
def st2 (x : Wd) : Wd := (x >>> 2 &&& 3689348814741910323#64) + (x &&& 3689348814741910323#64)
def st3 (x : Wd) : Wd := (x >>> 4 + x) &&& 1085102592571150095#64
def st4 (x : Wd) : Wd := x + x >>> 8
def st5 (x : Wd) : Wd := x + x >>> 16
def st6 (x : Wd) : Wd := x + x >>> 32
theorem mapB_lt {g : Nat → Nat} {c : Nat} (hg : ∀ b, b < 256 → g b ≤ c) (n x : Nat) : mapB g n x ≤ rep c n := by
  induction n generalizing x with
  | zero => simp [mapB, rep]
  | succ n ih =>
    have h1 := hg (x % 256) (Nat.mod_lt _ (by decide))
    have h2 := ih (x / 256)
    simp only [mapB, rep]; omega
theorem st1_nat (x : Wd) : (st1 x).toNat = mapB g1 8 x.toNat := by
  have h := stage1 8 x.toNat
  have l : mapB g1 8 x.toNat ≤ rep 170 8 := mapB_lt (fun b hb => (by decide +kernel : ∀ b : Fin 256, g1 b.val ≤ 170) ⟨b, hb⟩) 8 _
  have r : rep 85 8 = 6148914691236517205 := rfl
  have r2 : rep 170 8 = 12297829382473034410 := rfl
  rw [r] at h; rw [r2] at l
  unfold st1
  rw [BitVec.toNat_add, BitVec.toNat_and, BitVec.toNat_and, BitVec.toNat_ushiftRight, Nat.shiftRight_eq_div_pow]
  simp only [BitVec.toNat_ofNat, Nat.reducePow, Nat.reduceMod]
  omega
theorem st2_nat (x : Wd) (n : Nat) (hx : x.toNat = mapB g1 8 n) : (st2 x).toNat = mapB (fun b => g2 (g1 b)) 8 n := by
  have h := stage2 8 x.toNat
  have hm : mapB g2 8 (mapB g1 8 n) = mapB (fun b => g2 (g1 b)) 8 n := mapB_mapB (fun b hb => g1_lt ⟨b, hb⟩) 8 n
  have l : mapB g2 8 x.toNat ≤ rep 102 8 := mapB_lt (fun b hb => (by decide +kernel : ∀ b : Fin 256, g2 b.val ≤ 102) ⟨b, hb⟩) 8 _
  have r : rep 51 8 = 3689348814741910323 := rfl
  have r2 : rep 102 8 = 7378697629483820646 := rfl
  rw [r] at h; rw [r2] at l
  rw [← hm, ← hx, ← h]
  unfold st2
  rw [BitVec.toNat_add, BitVec.toNat_and, BitVec.toNat_and, BitVec.toNat_ushiftRight, Nat.shiftRight_eq_div_pow]
  simp only [BitVec.toNat_ofNat, Nat.reducePow, Nat.reduceMod]
  omega
theorem st3_nat (x : Wd) (n : Nat) (hx : x.toNat = mapB (fun b => g2 (g1 b)) 8 n) : (st3 x).toNat = mapB (fun b => pcN 8 b) 8 n := by
  have hs : Small 8 x.toNat := by rw [hx]; exact small_of
  have h := stage3 8 x.toNat hs
  have hm : mapB g3 8 (mapB (fun b => g2 (g1 b)) 8 n) = mapB (fun b => g3 (g2 (g1 b))) 8 n := mapB_mapB (fun b hb => (g2_lt ⟨b, hb⟩).1) 8 n
  have hc : mapB (fun b => g3 (g2 (g1 b))) 8 n = mapB (fun b => pcN 8 b) 8 n := mapB_congr (fun b hb => g3_pc ⟨b, hb⟩) 8 n
  have l : x.toNat ≤ rep 68 8 := by rw [hx]; exact mapB_lt (fun b hb => (by decide +kernel : ∀ b : Fin 256, g2 (g1 b.val) ≤ 68) ⟨b, hb⟩) 8 _
  have r : rep 15 8 = 1085102592571150095 := rfl
  have r2 : rep 68 8 = 4919131752989213764 := rfl
  rw [r] at h; rw [r2] at l
  rw [← hc, ← hm, ← hx, ← h]
  unfold st3
  rw [BitVec.toNat_and, BitVec.toNat_add, BitVec.toNat_ushiftRight, Nat.shiftRight_eq_div_pow]
  simp only [BitVec.toNat_ofNat]
  rw [show (x.toNat / 2 ^ 4 + x.toNat) % 2 ^ 64 = x.toNat / 16 + x.toNat by omega]
theorem divs {z L H k : Nat} (hk : 0 < k) (h : z = L + k * H) (hl : L < k) : z / k = H := by
  rw [h, Nat.add_mul_div_left _ _ hk, Nat.div_eq_of_lt hl, Nat.zero_add]
theorem swarN {y p0 p1 p2 p3 p4 p5 p6 p7 : Nat} (l0 : p0 ≤ 8) (l1 : p1 ≤ 8) (l2 : p2 ≤ 8) (l3 : p3 ≤ 8) (l4 : p4 ≤ 8) (l5 : p5 ≤ 8) (l6 : p6 ≤ 8) (l7 : p7 ≤ 8)
    (hy : y = p0 + 256 * (p1 + 256 * (p2 + 256 * (p3 + 256 * (p4 + 256 * (p5 + 256 * (p6 + 256 * (p7 + 256 * 0)))))))) :
    ∃ a b c, y + y / 256 = a ∧ a < 18446744073709551616 ∧ a + a / 65536 = b ∧ b < 18446744073709551616 ∧ b + b / 4294967296 = c ∧ c < 18446744073709551616 ∧ c % 128 = p0 + (p1 + (p2 + (p3 + (p4 + (p5 + (p6 + p7)))))) := by
  obtain ⟨a, ha⟩ : ∃ a, a = p0 + p1 + 256 * (p1 + p2 + 256 * (p2 + p3 + 256 * (p3 + p4 + 256 * (p4 + p5 + 256 * (p5 + p6 + 256 * (p6 + p7 + 256 * (p7))))))) := ⟨_, rfl⟩
  obtain ⟨b, hb⟩ : ∃ b, b = p0 + p1 + p2 + p3 + 256 * (p1 + p2 + p3 + p4 + 256 * (p2 + p3 + p4 + p5 + 256 * (p3 + p4 + p5 + p6 + 256 * (p4 + p5 + p6 + p7 + 256 * (p5 + p6 + p7 + 256 * (p6 + p7 + 256 * (p7))))))) := ⟨_, rfl⟩
  obtain ⟨c, hc⟩ : ∃ c, c = p0 + p1 + p2 + p3 + p4 + p5 + p6 + p7 + 256 * (p1 + p2 + p3 + p4 + p5 + p6 + p7 + 256 * (p2 + p3 + p4 + p5 + p6 + p7 + 256 * (p3 + p4 + p5 + p6 + p7 + 256 * (p4 + p5 + p6 + p7 + 256 * (p5 + p6 + p7 + 256 * (p6 + p7 + 256 * (p7))))))) := ⟨_, rfl⟩
  have d1 : y / 256 = p1 + 256 * (p2 + 256 * (p3 + 256 * (p4 + 256 * (p5 + 256 * (p6 + 256 * (p7)))))) := divs (L := p0) (by omega) (by clear l0 l1 l2 l3 l4 l5 l6 l7 ha hb hc; omega) (by clear hy ha hb hc; omega)
  have d2 : a / 65536 = p2 + p3 + 256 * (p3 + p4 + 256 * (p4 + p5 + 256 * (p5 + p6 + 256 * (p6 + p7 + 256 * (p7))))) := divs (L := p0 + p1 + 256 * (p1 + p2)) (by omega) (by clear l0 l1 l2 l3 l4 l5 l6 l7 hy hb hc; omega) (by clear hy ha hb hc; omega)
  have d3 : b / 4294967296 = p4 + p5 + p6 + p7 + 256 * (p5 + p6 + p7 + 256 * (p6 + p7 + 256 * (p7))) := divs (L := p0 + p1 + p2 + p3 + 256 * (p1 + p2 + p3 + p4 + 256 * (p2 + p3 + p4 + p5 + 256 * (p3 + p4 + p5 + p6)))) (by omega) (by clear l0 l1 l2 l3 l4 l5 l6 l7 hy ha hc; omega) (by clear hy ha hb hc; omega)
  refine ⟨a, b, c, ?_, ?_, ?_, ?_, ?_, ?_, ?_⟩
  · rw [d1, hy, ha]; clear hb hc d2 d3; clear l0 l1 l2 l3 l4 l5 l6 l7; omega
  · rw [ha]; clear hy ha hb hc d1 d2 d3; omega
  · rw [d2, ha, hb]; clear hy hc d1 d3; clear l0 l1 l2 l3 l4 l5 l6 l7; omega
  · rw [hb]; clear hy ha hb hc d1 d2 d3; omega
  · rw [d3, hb, hc]; clear hy ha d1 d2; clear l0 l1 l2 l3 l4 l5 l6 l7; omega
  · rw [hc]; clear hy ha hb hc d1 d2 d3; omega
  · have e : c = p0 + (p1 + (p2 + (p3 + (p4 + (p5 + (p6 + p7)))))) + 128 * (2 * (p1 + p2 + p3 + p4 + p5 + p6 + p7 + 256 * (p2 + p3 + p4 + p5 + p6 + p7 + 256 * (p3 + p4 + p5 + p6 + p7 + 256 * (p4 + p5 + p6 + p7 + 256 * (p5 + p6 + p7 + 256 * (p6 + p7 + 256 * (p7)))))))) := by rw [hc]; clear hy ha hb hc d1 d2 d3; clear l0 l1 l2 l3 l4 l5 l6 l7; omega
    rw [e, Nat.add_mul_mod_self_left, Nat.mod_eq_of_lt (by clear e hy ha hb hc d1 d2 d3; omega)]
theorem swar (x : Wd) : (st6 (st5 (st4 (st3 (st2 (st1 x)))))).toNat % 128 = pc x := by
  obtain ⟨p0, p1, p2, p3, p4, p5, p6, p7, l0, l1, l2, l3, l4, l5, l6, l7, hm, hp⟩ := mapB_pc x.toNat
  have h3 := st3_nat _ _ (st2_nat _ _ (st1_nat x))
  rw [hm] at h3
  obtain ⟨a, b, c, e1, f1, e2, f2, e3, f3, hr⟩ := swarN l0 l1 l2 l3 l4 l5 l6 l7 h3
  clear hm h3 l0 l1 l2 l3 l4 l5 l6 l7
  have h4 : (st4 (st3 (st2 (st1 x)))).toNat = a := by
    generalize st3 (st2 (st1 x)) = y at *
    unfold st4
    rw [BitVec.toNat_add, BitVec.toNat_ushiftRight, Nat.shiftRight_eq_div_pow]; simp only [Nat.reducePow]; rw [e1]; exact Nat.mod_eq_of_lt f1
  generalize st4 (st3 (st2 (st1 x))) = z at *
  have h5 : (st5 z).toNat = b := by
    unfold st5
    rw [BitVec.toNat_add, BitVec.toNat_ushiftRight, Nat.shiftRight_eq_div_pow, h4]; simp only [Nat.reducePow]; rw [e2]; exact Nat.mod_eq_of_lt f2
  generalize st5 z = u at *
  have h6 : (st6 u).toNat = c := by
    unfold st6
    rw [BitVec.toNat_add, BitVec.toNat_ushiftRight, Nat.shiftRight_eq_div_pow, h5]; simp only [Nat.reducePow]; rw [e3]; exact Nat.mod_eq_of_lt f3
  rw [h6, hr]
  exact hp.symm
theorem pc_le (x : Wd) : pc x ≤ 64 := pcN_le 64 _
/-! As the walk spells it. -/
theorem wrap_add_U (x y : Wd) : IntKind.u64.wrap (U x + U y) = U (x + y) := by
  unfold U; rw [IntKind.wrap_u64, BitVec.toNat_add]; simp
theorem and_m0 (x : Wd) : bits .and .u64 (U x) 6148914691236517205 = U (x &&& 6148914691236517205#64) := bits_and_U x 6148914691236517205#64
theorem and_m1 (x : Wd) : bits .and .u64 (U x) 3689348814741910323 = U (x &&& 3689348814741910323#64) := bits_and_U x 3689348814741910323#64
theorem and_m2 (x : Wd) : bits .and .u64 (U x) 1085102592571150095 = U (x &&& 1085102592571150095#64) := bits_and_U x 1085102592571150095#64
theorem shr_1 (x : Wd) : U x / (2 : Int) = U (x >>> 1) := shr_U x 1
theorem shr_2 (x : Wd) : U x / (4 : Int) = U (x >>> 2) := shr_U x 2
theorem shr_4 (x : Wd) : U x / (16 : Int) = U (x >>> 4) := shr_U x 4
theorem shr_8 (x : Wd) : U x / (256 : Int) = U (x >>> 8) := shr_U x 8
theorem shr_16 (x : Wd) : U x / (65536 : Int) = U (x >>> 16) := shr_U x 16
theorem shr_32 (x : Wd) : U x / (4294967296 : Int) = U (x >>> 32) := shr_U x 32
theorem pc_zero : pc 0#64 = 0 := pcN_zero 64
attribute [irreducible] pcN pc
end Go.Proofs.YtpmilcfppcmodaaDoor

/- Words added to a mask: the walks. -/
import Derived.Test.YtbbnhbfofdhnbaaDoorX8
import Derived.Test.YtbbnhbfofdhnbaaDoorM2
import Derived.Test.YtbbnhbfofdhnbaaDoorX3
import Derived.Test.YtbbnhbfofdhnbaaDoorW15
import Derived.Test.YtbbnhbfofdhnbaaDoorAKZ
import Derived.Test.YtbbnhbfofdhnbaaDoorGZ
import Derived.Test.YtbbnhbfofdhnbaaDoorX5
import Derived.Test.YtbbnhbfofdhnbaaDoorT2
import Derived.Test.YtbbnhbfofdhnbaaDoorOW
import Derived.Test.YtbbnhbfofdhnbaaDoorM4
import Derived.Test.YtbbnhbfofdhnbaaDoorM5
import Derived.Test.YtbbnhbfofdhnbaaDoorM6
import Derived.Test.YtbbnhbfofdhnbaaDoorW16
set_option linter.unusedVariables false
set_option linter.unusedSimpArgs false
namespace Go.Proofs.YtbbnhbfofdhnbaaDoor
open Go.RowKit
set_option maxHeartbeats 4000000
set_option maxRecDepth 20000
def adLo (s z p : Int) (a b : Wd) (T : List UInt8 → Nat) (l : List ByteArray) : Wd := cond (drE s z p b l == 0) (a ||| aLo s z T l) 0#64
def adHi (s z p : Int) (b : Wd) (T : List UInt8 → Nat) (l : List ByteArray) : Wd := cond (drE s z p b l == 0) (b ||| aHi s z T l) 0#64
theorem impl_AddWords (s z p : Int) (a b : Wd) (A : Option Addr) (l : List ByteArray) (c : Nat) (T : List UInt8 → Nat) (w : World) (hw : I16 s ∧ I16 z ∧ I16 p) (hm : l.length ≤ 9223372036854775807) (hz : Szs l) (hR : Rd w A (strs l)) (hT : MTim s z p T) :
    Calls Tryd.prog 41 #[.agg #[.int .i16 s, .int .i16 z, .int .i16 p], .agg #[.int .u64 (U a), .int .u64 (U b)], .slice A l.length c] w fun e w' => e = .returned (.tuple #[.agg #[.int .u64 (U (adLo s z p a b T l)), .int .u64 (U (adHi s z p b T l))], .int .i64 (drE s z p b l)]) ∧ Keep w w' := by
  have hc := fun W h => impl_checkWords s z p A l c W hw hm hz h
  rcases drE_cases s z p b l with ⟨hb, h0, hd, hmx⟩ | ⟨hb, h0, hd⟩ | ⟨hb, hd⟩
  · have hmf := mix_facts hmx
    have hh := fun W h => impl_holesOf s z p A l c T W hm hz h hmf.1 (by omega) hmf.2.2.1 ⟨by omega, by omega⟩ (hT hmx)
    have e1 : adLo s z p a b T l = a ||| aLo s z T l := by simp [adLo, hd]
    have e2 : adHi s z p b T l = b ||| aHi s z T l := by simp [adHi, hd]
    rw [e1, e2, hd]
    rw [h0] at hc
    clear hT h0 e1 hd
    generalize aLo s z T l = lo at *
    generalize aHi s z T l = hi at *
    go_enter Tryd.func41, Tryd.ntmps41
    (go_wp2_with fail); (go_at_call 75); (refine (impl_isMask _ _ _).mono ?_); rintro e w1 ⟨rfl, hk1⟩
    rw [hb]
    have hX : Bx w1 w.heap.size #[.int .i16 s, .int .i16 z, .int .i16 p] 42 := (((Bx.new _ _ _).alloc _).alloc _).keep hk1
    have hM : Bx w1 (w.heap.size + 1) #[.int .u64 (U a), .int .u64 (U b)] 50 := ((Bx.new1 _ _ _ _).alloc _).keep hk1
    have hO : Bx w1 (w.heap.size + 1 + 1) #[.int .u64 0, .int .u64 0] 50 := (Bx.new2 _ _ _ _ _).keep hk1
    have k1 : Keep w w1 := (by ((repeat (first | (with_reducible assumption) | ((with_reducible refine Keep.setCell ?_ ?_ _); rotate_left; focus (first | omega | (simp; done) | (simp; omega))) | (with_reducible refine Keep.alloc ?_ _) | (with_reducible refine Keep.drewN ?_ _) | (with_reducible refine Keep.drew ?_) | (with_reducible exact Keep.refl _) | refine Keep.trans ?_ (by with_reducible assumption) | exact Keep.refl _ | assumption))))
    clear hk1
    have hXs := hX.three
    (go_wp2_with fail); (go_at_call 67); (refine (hc _ (hR.keep k1)).mono ?_); rintro e w2 ⟨rfl, hk2⟩
    have hX2 := hX.keep hk2
    have hM2 := hM.keep hk2
    have hO2 := hO.keep hk2
    have k2 : Keep w w2 := (by ((repeat (first | (with_reducible assumption) | ((with_reducible refine Keep.setCell ?_ ?_ _); rotate_left; focus (first | omega | (simp; done) | (simp; omega))) | (with_reducible refine Keep.alloc ?_ _) | (with_reducible refine Keep.drewN ?_ _) | (with_reducible refine Keep.drew ?_) | (with_reducible exact Keep.refl _) | refine Keep.trans ?_ (by with_reducible assumption) | exact Keep.refl _ | assumption))))
    have hR2 := hR.keep k2
    clear hXs hX hM hO hk2 k1
    go_wp2_with fail
    apply wp_region_mono 5 [Fx _, Fx _, Fx _, Fx _, Fx _] (by kernel_rfl) (by kernel_rfl) (mono_of ⟨Fx.mono _, Fx.mono _, Fx.mono _, Fx.mono _, Fx.mono _, trivial⟩) ?st11 ?tl11
    case st11 =>
      simp only [List.take_succ_cons, List.take_zero, List.drop_succ_cons, List.drop_zero, putAll, Act.put, List.setIfInBounds_toArray, List.set_cons_succ, List.set_cons_zero, Nat.zero_add, Nat.reduceAdd]
      refine steps_cons ?_ (steps_cons ?_ (steps_cons ?_ (steps_cons ?_ (steps_cons ?_ steps_nil))))
      all_goals
        intro v w2 hk hd
        obtain ⟨hX2_0, hX2_1, hX2_2, hX2_3, hX2_4, hX2_5, hX2_6⟩ := (hX2.keep hk).three
        obtain ⟨hM2_0, hM2_1, hM2_2, hM2_3, hM2_4⟩ := (hM2.keep hk).two
        obtain ⟨hO2_0, hO2_1, hO2_2, hO2_3, hO2_4⟩ := (hO2.keep hk).two
        have hkz := hk.size
        simp [DepsOf, factAt, Fx, Region.binds] at hd
        simp only [factAt, List.getD_cons_zero, List.getD_cons_succ]
        refine Gives.mk ?_
        go_simp
        first | exact ⟨Keep.refl _, Fx.self _ _⟩ | exact ⟨(Keep.refl _).alloc _, _, rfl, Bx.new _ _ _, by first | omega | (simp; omega)⟩ | (go_at_call 76; exact gives_fx (hh _ (hR2.keep hk))) | (go_at_call 39; exact gives_fx (impl_JoinMasks _ _ _ _ _))
    simp only [List.take_succ_cons, List.take_zero, List.drop_succ_cons, List.drop_zero, putAll, Act.put, List.setIfInBounds_toArray, List.set_cons_succ, List.set_cons_zero, Nat.zero_add, Nat.reduceAdd]
    intro v w2 hk hh
    obtain ⟨hX2_0, hX2_1, hX2_2, hX2_3, hX2_4, hX2_5, hX2_6⟩ := (hX2.keep hk).three
    obtain ⟨hM2_0, hM2_1, hM2_2, hM2_3, hM2_4⟩ := (hM2.keep hk).two
    obtain ⟨hO2_0, hO2_1, hO2_2, hO2_3, hO2_4⟩ := (hO2.keep hk).two
    have hkz := hk.size
    simp only [Held, factAt, List.getD_cons_zero, List.getD_cons_succ, Fx, true_and] at hh
    obtain ⟨⟨⟨⟨v_0, v_1⟩, v_2⟩, v_3⟩, v_4⟩ := hh
    simp only [v_0, v_1, v_2, v_3, v_4]
    have k3 : Keep w w2 := Keep.trans k2 hk
    go_wp2
    (apply bodyPost_ret; rotate_left; rfl; exact ⟨rfl, (by ((repeat (first | (with_reducible assumption) | ((with_reducible refine Keep.setCell ?_ ?_ _); rotate_left; focus (first | omega | (simp; done) | (simp; omega))) | (with_reducible refine Keep.alloc ?_ _) | (with_reducible refine Keep.drewN ?_ _) | (with_reducible refine Keep.drew ?_) | (with_reducible exact Keep.refl _) | refine Keep.trans ?_ (by with_reducible assumption) | exact Keep.refl _ | assumption))))⟩; simp [results, Tryd.results41, go_sem, U_zero, *])
  · have e0 : (drE s z p b l == 0) = false := by rw [hd]; simpa using h0
    have e1 : adLo s z p a b T l = 0#64 := by simp only [adLo, e0, cond_false]
    have e2 : adHi s z p b T l = 0#64 := by simp only [adHi, e0, cond_false]
    rw [e1, e2, hd]
    clear hT e1 e2 e0 hd
    generalize ckE s z p l 12 = y at *
    go_enter Tryd.func41, Tryd.ntmps41
    (go_wp2_with fail); (go_at_call 75); (refine (impl_isMask _ _ _).mono ?_); rintro e w1 ⟨rfl, hk1⟩
    rw [hb]
    have hX : Bx w1 w.heap.size #[.int .i16 s, .int .i16 z, .int .i16 p] 42 := (((Bx.new _ _ _).alloc _).alloc _).keep hk1
    have hO : Bx w1 (w.heap.size + 1 + 1) #[.int .u64 0, .int .u64 0] 50 := (Bx.new2 _ _ _ _ _).keep hk1
    have k1 : Keep w w1 := (by ((repeat (first | (with_reducible assumption) | ((with_reducible refine Keep.setCell ?_ ?_ _); rotate_left; focus (first | omega | (simp; done) | (simp; omega))) | (with_reducible refine Keep.alloc ?_ _) | (with_reducible refine Keep.drewN ?_ _) | (with_reducible refine Keep.drew ?_) | (with_reducible exact Keep.refl _) | refine Keep.trans ?_ (by with_reducible assumption) | exact Keep.refl _ | assumption))))
    clear hk1
    have hXs := hX.three
    (go_wp2_with fail); (go_at_call 67); (refine (hc _ (hR.keep k1)).mono ?_); rintro e w2 ⟨rfl, hk2⟩
    have hO2 := hO.keep hk2
    have k2 : Keep w w2 := (by ((repeat (first | (with_reducible assumption) | ((with_reducible refine Keep.setCell ?_ ?_ _); rotate_left; focus (first | omega | (simp; done) | (simp; omega))) | (with_reducible refine Keep.alloc ?_ _) | (with_reducible refine Keep.drewN ?_ _) | (with_reducible refine Keep.drew ?_) | (with_reducible exact Keep.refl _) | refine Keep.trans ?_ (by with_reducible assumption) | exact Keep.refl _ | assumption))))
    have hOs := hO2.two
    clear hXs hX hO hk2 k1
    go_wp2
    (apply bodyPost_ret; rotate_left; rfl; exact ⟨rfl, (by ((repeat (first | (with_reducible assumption) | ((with_reducible refine Keep.setCell ?_ ?_ _); rotate_left; focus (first | omega | (simp; done) | (simp; omega))) | (with_reducible refine Keep.alloc ?_ _) | (with_reducible refine Keep.drewN ?_ _) | (with_reducible refine Keep.drew ?_) | (with_reducible exact Keep.refl _) | refine Keep.trans ?_ (by with_reducible assumption) | exact Keep.refl _ | assumption))))⟩; simp [results, Tryd.results41, go_sem, U_zero, *])
  · have e1 : adLo s z p a b T l = 0#64 := by simp [adLo, hd]
    have e2 : adHi s z p b T l = 0#64 := by simp [adHi, hd]
    rw [e1, e2, hd]
    clear hT e1 e2 hd
    go_enter Tryd.func41, Tryd.ntmps41
    (go_wp2_with fail); (go_at_call 75); (refine (impl_isMask _ _ _).mono ?_); rintro e w1 ⟨rfl, hk1⟩
    rw [hb]
    have hO : Bx w1 (w.heap.size + 1 + 1) #[.int .u64 0, .int .u64 0] 50 := (Bx.new2 _ _ _ _ _).keep hk1
    have k1 : Keep w w1 := (by ((repeat (first | (with_reducible assumption) | ((with_reducible refine Keep.setCell ?_ ?_ _); rotate_left; focus (first | omega | (simp; done) | (simp; omega))) | (with_reducible refine Keep.alloc ?_ _) | (with_reducible refine Keep.drewN ?_ _) | (with_reducible refine Keep.drew ?_) | (with_reducible exact Keep.refl _) | refine Keep.trans ?_ (by with_reducible assumption) | exact Keep.refl _ | assumption))))
    clear hk1
    have hOs := hO.two
    go_wp2
    (apply bodyPost_ret; rotate_left; rfl; exact ⟨rfl, (by ((repeat (first | (with_reducible assumption) | ((with_reducible refine Keep.setCell ?_ ?_ _); rotate_left; focus (first | omega | (simp; done) | (simp; omega))) | (with_reducible refine Keep.alloc ?_ _) | (with_reducible refine Keep.drewN ?_ _) | (with_reducible refine Keep.drew ?_) | (with_reducible exact Keep.refl _) | refine Keep.trans ?_ (by with_reducible assumption) | exact Keep.refl _ | assumption))))⟩; simp [results, Tryd.results41, go_sem, U_zero, *])
end Go.Proofs.YtbbnhbfofdhnbaaDoor

set_option linter.unusedVariables false
set_option linter.unusedSimpArgs false
namespace Go.Proofs.YtbbnhbfofdhnbaaDoor
open Go.RowKit
set_option maxHeartbeats 2000000
def wcM (s : ByteArray) : Nat := cond (nameB s) (chk s.data.toList) 0
def wcE (s : ByteArray) : Int := cond (nameB s) 0 2
theorem impl_WordCheck (s : ByteArray) (w : World) (hs : s.size ≤ 9223372036854775807) :
    Calls Tryd.prog 36 #[.string s] w fun e w' => e = .returned (.tuple #[.int .u32 (wcM s : Nat), .int .i64 (wcE s)]) ∧ Keep w w' := by
  cases h1 : nameB s <;> simp only [wcM, wcE, h1, cond_true, cond_false]
  · go_enter Tryd.func36, Tryd.ntmps36
    (go_wp2_with fail); (go_at_call 68); (refine (impl_isName _ _ hs).mono ?_); rintro e w1 ⟨rfl, hk1⟩
    rw [h1]
    go_wp2
    go_ret2; exact ⟨rfl, (by ((repeat (first | (with_reducible assumption) | ((with_reducible refine Keep.setCell ?_ ?_ _); rotate_left; focus (first | omega | (simp; done) | (simp; omega))) | (with_reducible refine Keep.alloc ?_ _) | (with_reducible refine Keep.drewN ?_ _) | (with_reducible refine Keep.drew ?_) | (with_reducible exact Keep.refl _) | refine Keep.trans ?_ (by with_reducible assumption) | exact Keep.refl _ | assumption))))⟩
  · go_enter Tryd.func36, Tryd.ntmps36
    (go_wp2_with fail); (go_at_call 68); (refine (impl_isName _ _ hs).mono ?_); rintro e w1 ⟨rfl, hk1⟩
    rw [h1]
    go_wp2_with fail
    (go_wp2_with fail); (go_at_call 69); (refine (impl_wordCheck _ _ hs).mono ?_); rintro e w2 ⟨rfl, hk2⟩
    go_wp2
    go_ret2; exact ⟨rfl, (by ((repeat (first | (with_reducible assumption) | ((with_reducible refine Keep.setCell ?_ ?_ _); rotate_left; focus (first | omega | (simp; done) | (simp; omega))) | (with_reducible refine Keep.alloc ?_ _) | (with_reducible refine Keep.drewN ?_ _) | (with_reducible refine Keep.drew ?_) | (with_reducible exact Keep.refl _) | refine Keep.trans ?_ (by with_reducible assumption) | exact Keep.refl _ | assumption))))⟩
theorem spec_WordCheck (s : ByteArray) (w : World) (hs : s.size ≤ 9223372036854775807) :
    Calls Tryd.prog 37 #[.string s] w fun e w' => e = .returned (.tuple #[.int .u32 (wcM s : Nat), .int .i64 (wcE s)]) ∧ Keep w w' := by
  cases h1 : nameB s <;> simp only [wcM, wcE, h1, cond_true, cond_false]
  · go_enter Tryd.func37, Tryd.ntmps37
    (go_wp2_with fail); (go_at_call 70); (refine (spec_l03Word _ _ hs).mono ?_); rintro e w1 ⟨rfl, hk1⟩
    rw [h1]
    go_wp2
    go_ret2; exact ⟨rfl, (by ((repeat (first | (with_reducible assumption) | ((with_reducible refine Keep.setCell ?_ ?_ _); rotate_left; focus (first | omega | (simp; done) | (simp; omega))) | (with_reducible refine Keep.alloc ?_ _) | (with_reducible refine Keep.drewN ?_ _) | (with_reducible refine Keep.drew ?_) | (with_reducible exact Keep.refl _) | refine Keep.trans ?_ (by with_reducible assumption) | exact Keep.refl _ | assumption))))⟩
  · go_enter Tryd.func37, Tryd.ntmps37
    (go_wp2_with fail); (go_at_call 70); (refine (spec_l03Word _ _ hs).mono ?_); rintro e w1 ⟨rfl, hk1⟩
    rw [h1]
    go_wp2_with fail
    (go_wp2_with fail); (go_at_call 71); (refine (spec_l03Check _ _ hs).mono ?_); rintro e w2 ⟨rfl, hk2⟩
    go_wp2
    go_ret2; exact ⟨rfl, (by ((repeat (first | (with_reducible assumption) | ((with_reducible refine Keep.setCell ?_ ?_ _); rotate_left; focus (first | omega | (simp; done) | (simp; omega))) | (with_reducible refine Keep.alloc ?_ _) | (with_reducible refine Keep.drewN ?_ _) | (with_reducible refine Keep.drew ?_) | (with_reducible exact Keep.refl _) | refine Keep.trans ?_ (by with_reducible assumption) | exact Keep.refl _ | assumption))))⟩
end Go.Proofs.YtbbnhbfofdhnbaaDoor

set_option linter.unusedVariables false
set_option linter.unusedSimpArgs false
namespace Go.Proofs.YtbbnhbfofdhnbaaDoor
open Go.RowKit
set_option maxHeartbeats 1000000
set_option maxRecDepth 20000
theorem hasB_ors (a b x y : Wd) (h : Int) : hasB (a ||| x) (b ||| y) h = (hasB a b h || hasB x y h) := by
  by_cases hh : h < 64
  · rw [hasB_lt hh, hasB_lt hh, hasB_lt hh, BitVec.getLsbD_or]
  · rw [hasB_ge hh, hasB_ge hh, hasB_ge hh, BitVec.getLsbD_or]
theorem hs_or_len (a b x y : Wd) : ∀ k, (hs (a ||| x) (b ||| y) k).length ≤ (hs a b k).length + (hs x y k).length
  | 0 => by rw [hs_zero]; simp
  | k + 1 => by
    have ih := hs_or_len a b x y k
    have e := hasB_ors a b x y k
    cases h1 : hasB a b k <;> cases h2 : hasB x y k
    · rw [hs_no h1, hs_no h2, hs_no (by rw [e, h1, h2]; rfl)]; exact ih
    · rw [hs_no h1, hs_yes h2, hs_yes (by rw [e, h1, h2]; rfl)]; simp; omega
    · rw [hs_yes h1, hs_no h2, hs_yes (by rw [e, h1, h2]; rfl)]; simp; omega
    · rw [hs_yes h1, hs_yes h2, hs_yes (by rw [e, h1, h2]; rfl)]; simp; omega
theorem ok_ors {b y : Wd} (h1 : okB b = true) (h2 : okB y = true) : okB (b ||| y) = true := by
  apply ok_of_bits
  intro i hi1 hi2
  rw [BitVec.getLsbD_or, high_zero h1 i hi1, high_zero h2 i hi1]; rfl
theorem pc_ors {a b x y : Wd} (h1 : okB b = true) (h2 : okB y = true) : pc (a ||| x) + pc (b ||| y) ≤ (pc a + pc b) + (pc x + pc y) := by
  rw [← hs_count (ok_ors h1 h2), ← hs_count h1, ← hs_count h2]
  exact hs_or_len a b x y 96
theorem pc_one {h : Int} (h0 : 0 ≤ h) (h1 : h < 96) : pc (bitLo h) + pc (bitHi h) = 1 := by
  have : ∀ n : Fin 96, pc (bitLo (n.val : Int)) + pc (bitHi (n.val : Int)) = 1 := by decide +kernel
  have := this ⟨h.toNat, by omega⟩
  rwa [show ((h.toNat : Nat) : Int) = h by omega] at this
theorem ok_one {h : Int} (h0 : 0 ≤ h) (h1 : h < 96) : okB (bitHi h) = true := by
  have := ok_or (b := 0#64) ok_zero h0 h1
  rwa [BitVec.zero_or] at this
theorem cnt_zero (s z : Int) (a : Nat) : cnt s z a 0 = 0 := by
  unfold cnt whLo whHi
  have : pc 0#64 = 0 := by decide +kernel
  rw [this]; rfl
theorem cnt_step {s z : Int} (s0 : 0 ≤ s) (z0 : 1 ≤ z) (h : s + z ≤ 96) (a i : Nat) : cnt s z a (i + 1) ≤ cnt s z a i + 1 := by
  have hr := wh_range s0 z0 h a i
  have h1 := pc_ors (a := whLo s z a i) (x := bitLo (wh s z a i)) (whHi_ok s0 z0 h a i) (ok_one (h := wh s z a i) (by omega) (by omega))
  have h2 := pc_one (h := wh s z a i) (by omega) (by omega)
  unfold cnt
  rw [whLo_succ, whHi_succ]
  omega
theorem Lst_eq {s z p : Int} (s0 : 0 ≤ s) (z0 : 1 ≤ z) (h : s + z ≤ 96) {a T : Nat} (hp : 1 ≤ p) (hL : Lst s z p a T) : cnt s z a T = p := by
  cases T with
  | zero => have := hL.1; rw [cnt_zero] at this; omega
  | succ T =>
    have h1 := hL.2 T (by omega)
    have h2 := cnt_step s0 z0 h a T
    have := hL.1
    omega
theorem within_of {a b x y : Wd} (h1 : okB b = true) (h : ∀ j : Nat, j < 96 → hasB a b j = true → hasB x y j = true) : withinB a b x y = true := by
  unfold withinB
  simp only [Bool.and_eq_true, beq_iff_eq]
  constructor
  · apply BitVec.eq_of_getLsbD_eq
    intro i hi
    rw [BitVec.getLsbD_and, BitVec.getLsbD_not]
    cases hq : a.getLsbD i
    · simp
    · have := h i (by omega) (by rw [hasB_lt (by omega)]; simpa using hq)
      rw [hasB_lt (by omega)] at this
      have h3 : x.getLsbD i = true := by simpa using this
      simp [h3]
  · apply BitVec.eq_of_getLsbD_eq
    intro i hi
    rw [BitVec.getLsbD_and, BitVec.getLsbD_not]
    cases hq : b.getLsbD i
    · simp
    · have hi2 : i < 32 := by
        rcases Nat.lt_or_ge i 32 with h4 | h4
        · exact h4
        · rw [high_zero h1 i h4] at hq; cases hq
      have e : (((64 + i : Nat) : Int) - 64).toNat = i := by omega
      have := h (64 + i) (by omega) (by rw [hasB_ge (by omega), e]; exact hq)
      rw [hasB_ge (by omega), e] at this
      simp [this]
/-- A word's holes lie in the part of the mix. -/
theorem wh_in {s z : Int} (s0 : 0 ≤ s) (z0 : 1 ≤ z) (h : s + z ≤ 96) (a n : Nat) : withinB (whLo s z a n) (whHi s z a n) (rlo s z.toNat) (rhi s z.toNat) = true := by
  refine within_of (whHi_ok s0 z0 h a n) (fun j hj hb => ?_)
  rw [hasB_range z.toNat s0 (by omega) (by omega)]
  have : ∀ n, hasB (whLo s z a n) (whHi s z a n) j = true → s ≤ j ∧ (j : Int) < s + z := by
    intro n
    induction n with
    | zero => intro hb; unfold whLo whHi at hb; rw [hasB_zero] at hb; cases hb
    | succ n ih =>
      intro hb
      have hr := wh_range s0 z0 h a n
      rw [whLo_succ, whHi_succ, hasB_or (by omega) (by omega) (by omega)] at hb
      rcases Bool.or_eq_true _ _ |>.mp hb with h1 | h1
      · exact ih h1
      · have := of_decide_eq_true h1; omega
  have := this n hb
  simp; omega
/-- The count of the holes of a word. -/
theorem wd_count {s z p : Int} {T : List UInt8 → Nat} (hm : mixB s z p = true) (hT : MTim s z p T) (x : ByteArray) : ((pc (wLo s z T x) + pc (wHi s z T x) : Nat) : Int) = p := by
  obtain ⟨s0, z0, h, hp, _, _⟩ := mix_facts hm
  exact Lst_eq s0 (by omega) h hp (hT hm x.data.toList)
theorem wd_ok {s z p : Int} (T : List UInt8 → Nat) (hm : mixB s z p = true) (x : ByteArray) : okB (wHi s z T x) = true := by
  obtain ⟨s0, z0, h, hp, _, _⟩ := mix_facts hm
  exact whHi_ok s0 (by omega) h _ _
theorem wd_in {s z p : Int} (T : List UInt8 → Nat) (hm : mixB s z p = true) (x : ByteArray) : withinB (wLo s z T x) (wHi s z T x) (mpLo s z p) (mpHi s z p) = true := by
  obtain ⟨s0, z0, h, hp, _, _⟩ := mix_facts hm
  unfold mpLo mpHi
  rw [hm, cond_true, cond_true]
  exact wh_in s0 (by omega) h _ _
theorem mp_count {s z p : Int} (hm : mixB s z p = true) : ((pc (mpLo s z p) + pc (mpHi s z p) : Nat) : Int) = z := by
  obtain ⟨s0, z0, h, hp, _, _⟩ := mix_facts hm
  unfold mpLo mpHi
  rw [hm, cond_true, cond_true, pc_range z.toNat s0 (by omega)]
  omega
theorem aHi_ok {s z p : Int} (T : List UInt8 → Nat) (hm : mixB s z p = true) (l : List ByteArray) : okB (aHi s z T l) = true := by
  unfold aHi
  have : ∀ (l : List ByteArray) (b : Wd), okB b = true → okB (l.foldl (fun a x => a ||| wHi s z T x) b) = true := by
    intro l
    induction l with
    | nil => intro b hb; exact hb
    | cons x l ih => intro b hb; exact ih _ (ok_ors hb (wd_ok T hm x))
  exact this l _ ok_zero
/-- The count of the holes of all words. -/
theorem all_count {s z p : Int} {T : List UInt8 → Nat} (hm : mixB s z p = true) (hT : MTim s z p T) (l : List ByteArray) : ∀ i, i ≤ l.length → ((pc (aLo s z T (l.take i)) + pc (aHi s z T (l.take i)) : Nat) : Int) ≤ p * i
  | 0, _ => by
    have : pc 0#64 = 0 := by decide +kernel
    simp [aLo, aHi, this]
  | i + 1, hi => by
    have ih := all_count hm hT l i (by omega)
    have h1 := pc_ors (a := aLo s z T (l.take i)) (x := wLo s z T l[i]) (aHi_ok T hm (l.take i)) (wd_ok T hm l[i])
    have h2 := wd_count hm hT l[i]
    rw [aLo_take s z T l i (by omega), aHi_take s z T l i (by omega)]
    have h3 : p * ((i + 1 : Nat) : Int) = p * i + p := by rw [Int.natCast_add, Int.mul_add]; simp
    rw [h3]
    omega
end Go.Proofs.YtbbnhbfofdhnbaaDoor

set_option linter.unusedVariables false
set_option linter.unusedSimpArgs false
namespace Go.Proofs.YtbbnhbfofdhnbaaDoor
open Go.RowKit
set_option maxHeartbeats 2000000
set_option maxRecDepth 20000
theorem laws_f6big (A : Option Addr) (n c : Nat) (w : World) :
    Calls Tryd.prog 29 #[.slice A n c] w fun e w' => e = .returned (.bool (decide (4096 < (n : Int)))) ∧ Keep w w' := by
  go_enter Tryd.func29, Tryd.ntmps29
  go_wp2
  go_ret; exact ⟨rb (by simp), (by ((repeat (first | (with_reducible assumption) | ((with_reducible refine Keep.setCell ?_ ?_ _); rotate_left; focus (first | omega | (simp; done) | (simp; omega))) | (with_reducible refine Keep.alloc ?_ _) | (with_reducible refine Keep.drewN ?_ _) | (with_reducible refine Keep.drew ?_) | (with_reducible exact Keep.refl _) | refine Keep.trans ?_ (by with_reducible assumption) | exact Keep.refl _ | assumption))))⟩
theorem spec_l00Min (a b : Int) (w : World) :
    Calls Tryd.prog 91 #[.int .i64 a, .int .i64 b] w fun e w' => e = .returned (.int .i64 (if a < b then a else b)) ∧ Keep w w' := by
  by_cases h : a < b
  · rw [if_pos h]
    go_enter Tryd.func91, Tryd.ntmps91
    go_wp2
    go_ret; exact ⟨rfl, (by ((repeat (first | (with_reducible assumption) | ((with_reducible refine Keep.setCell ?_ ?_ _); rotate_left; focus (first | omega | (simp; done) | (simp; omega))) | (with_reducible refine Keep.alloc ?_ _) | (with_reducible refine Keep.drewN ?_ _) | (with_reducible refine Keep.drew ?_) | (with_reducible exact Keep.refl _) | refine Keep.trans ?_ (by with_reducible assumption) | exact Keep.refl _ | assumption))))⟩
  · rw [if_neg h]
    go_enter Tryd.func91, Tryd.ntmps91
    go_wp2
    go_ret; exact ⟨rfl, (by ((repeat (first | (with_reducible assumption) | ((with_reducible refine Keep.setCell ?_ ?_ _); rotate_left; focus (first | omega | (simp; done) | (simp; omega))) | (with_reducible refine Keep.alloc ?_ _) | (with_reducible refine Keep.drewN ?_ _) | (with_reducible refine Keep.drew ?_) | (with_reducible exact Keep.refl _) | refine Keep.trans ?_ (by with_reducible assumption) | exact Keep.refl _ | assumption))))⟩
theorem src_among (l : List Int) (q g k : Nat) (w : World) (h0 : 1 ≤ l.length ∧ l.length ≤ 200) (hk : k ≤ 100000) (hS : Srcx w g k) (hB : Bx w q (ints l).toArray 2) (hne : q ≠ g) :
    Calls Tryd.prog 90 #[.pointer (some ⟨g, 0, none⟩), .slice (some ⟨q, 0, none⟩) l.length l.length] w fun e w' => ∃ x, e = .returned (.int .i64 x) ∧ x ∈ l ∧ w.grownBy w' (some g) ∧ Srcx w' g (k + 1) := by
  go_enter Tryd.func90, Tryd.ntmps90
  (go_wp2_with fail); (go_at_call 62); refine (srcx_pick l.length g k _ ⟨by omega, by omega⟩ (by omega) hS).mono ?_; rintro e w1 ⟨r, rfl, r0, r1, hg1, hS1⟩
  obtain ⟨n, rfl⟩ : ∃ n : Nat, r = n := ⟨r.toNat, by omega⟩
  have hn : n < l.length := by omega
  have hB1 := hB.grownBy hg1 (by simpa using hne)
  have hcell : w1.cell? ⟨q, n, none⟩ = some (.int .i64 l[n]) := (hB1.cell n).trans (by simpa using ints_at l n hn)
  have HM := Aside.mk (List.getElem_mem hn)
  clear hB hB1 hS
  generalize l[n] = x at *
  go_wp2
  go_ret; exact ⟨x, rfl, HM.out, hg1, hS1⟩
theorem src_text (l : List ByteArray) (q g k : Nat) (w : World) (h0 : 1 ≤ l.length ∧ l.length ≤ 200) (hk : k ≤ 100000) (hS : Srcx w g k) (hB : Bx w q (strs l).toArray 9) (hne : q ≠ g) :
    Calls Tryd.prog 63 #[.pointer (some ⟨g, 0, none⟩), .slice (some ⟨q, 0, none⟩) l.length l.length] w fun e w' => ∃ x, e = .returned (.string x) ∧ x ∈ l ∧ w.grownBy w' (some g) ∧ Srcx w' g (k + 1) := by
  go_enter Tryd.func63, Tryd.ntmps63
  (go_wp2_with fail); (go_at_call 62); refine (srcx_pick l.length g k _ ⟨by omega, by omega⟩ (by omega) hS).mono ?_; rintro e w1 ⟨r, rfl, r0, r1, hg1, hS1⟩
  obtain ⟨n, rfl⟩ : ∃ n : Nat, r = n := ⟨r.toNat, by omega⟩
  have hn : n < l.length := by omega
  have hB1 := hB.grownBy hg1 (by simpa using hne)
  have hcell : w1.cell? ⟨q, n, none⟩ = some (.string l[n]) := (hB1.cell n).trans (by simpa using strs_at l n hn)
  have HM := Aside.mk (List.getElem_mem hn)
  clear hB hB1 hS
  generalize l[n] = x at *
  go_wp2
  go_ret; exact ⟨x, rfl, HM.out, hg1, hS1⟩
/-- The words that are drawn. -/
def vocab : List ByteArray := [⟨#[97, 110, 116]⟩, ⟨#[98, 101, 101]⟩, ⟨#[102, 108, 121]⟩, ⟨#[109, 111, 116, 104]⟩, ⟨#[119, 97, 115, 112]⟩, ⟨#[116, 105, 99, 107]⟩, ⟨#[109, 105, 116, 101]⟩, ⟨#[108, 111, 117, 115, 101]⟩, ⟨#[102, 108, 101, 97]⟩, ⟨#[103, 110, 97, 116]⟩, ⟨#[98, 101, 101, 116, 108, 101]⟩, ⟨#[99, 114, 105, 99, 107, 101, 116]⟩, ⟨#[108, 111, 99, 117, 115, 116]⟩, ⟨#[104, 111, 114, 110, 101, 116]⟩]
theorem vocab_ok : ∀ x ∈ vocab, nameB x = true ∧ x.size ≤ 16 := by decide +kernel
theorem spec_l03Vocabulary (w : World) :
    Calls Tryd.prog 64 #[] w fun e w' => ∃ g, e = .returned (.slice (some ⟨g, 0, none⟩) vocab.length vocab.length) ∧ Bx w' g (strs vocab).toArray 9 ∧ w.heap.size ≤ g ∧ Keep w w' := by
  go_enter Tryd.func64, Tryd.ntmps64
  go_wp2
  go_ret; exact ⟨w.heap.size, rfl, Bx.new _ _ _, Nat.le_refl _, (by ((repeat (first | (with_reducible assumption) | ((with_reducible refine Keep.setCell ?_ ?_ _); rotate_left; focus (first | omega | (simp; done) | (simp; omega))) | (with_reducible refine Keep.alloc ?_ _) | (with_reducible refine Keep.drewN ?_ _) | (with_reducible refine Keep.drew ?_) | (with_reducible exact Keep.refl _) | refine Keep.trans ?_ (by with_reducible assumption) | exact Keep.refl _ | assumption))))⟩
theorem grown_set1 (w : World) (g j : Nat) (v : Value) : w.grownBy (w.setCell ⟨g, j, none⟩ v) (some g) :=
  ⟨rfl, rfl, rfl, by simp, fun i hi hne => Below.heap_setCell w ⟨g, j, none⟩ v i (by simpa using hne)⟩
theorem grown_own {a b c : World} {row r2 : Option Nat} (h : a.grownBy b row) (hg : b.grownBy c r2) (hr : ∀ k, r2 = some k → a.heap.size ≤ k) : a.grownBy c row :=
  ⟨hg.os.trans h.os, hg.tape.trans h.tape, hg.output.trans h.output, Nat.le_trans h.size hg.size, fun i hi hne => (hg.block i (Nat.lt_of_lt_of_le hi h.size) (fun e => by have := hr i e.symm; omega)).trans (h.block i hi hne)⟩
theorem Srcx.grown {w w' : World} {g k : Nat} {row : Option Nat} (h : Srcx w g k) (hg : w.grownBy w' row) (hr : ∀ j, row = some j → g < j) : Srcx w' g k := by
  obtain ⟨S, l, c, ⟨i, sd, h1, h5⟩, h2, h3, h4⟩ := h
  refine ⟨S, l, c, ⟨i, sd, h1, h5.grownBy hg (fun e => by have := hr _ e.symm; omega)⟩, ?_, h3, h4⟩
  by_cases h0 : l = []
  · subst h0; exact .inl rfl
  · exact rd_grown h2 hg (fun _ b o hb e => by have := h3 h0 b o hb; have := hr _ e.symm; omega)
theorem own_src {w w' : World} {B g : Nat} {T : TypeId} {sz : Nat} {v : Value} {n : Nat} {xs : List Value} (h : w.ownsRow B T sz v n xs) (hg : w.grownBy w' (some g)) (hb : g < B) : w'.ownsRow B T sz v n xs := by
  refine h.kept hg ?_
  cases hv : v.ownBlock with
  | none => exact .inl rfl
  | some j => exact .inr (fun e => by have := (h.lt j hv).1; cases e; omega)
theorem i16_small {x : Int} (h0 : 0 ≤ x) (h1 : x ≤ 1000) : IntKind.i16.wrap x = x := by
  simp [IntKind.wrap, IntKind.bits, IntKind.signed]; omega
theorem src_drawn (g : Nat) (w : World) (hS : Srcx w g 0) :
    Calls Tryd.prog 60 #[.pointer (some ⟨g, 0, none⟩)] w fun e w' => ∃ s z p : Int, e = .returned (.agg #[.int .i16 s, .int .i16 z, .int .i16 p]) ∧ mixB s z p = true ∧ w.grownBy w' (some g) := by
  have hz := hS.lt
  have hA := Bx.new w #[.int .i16 0, .int .i16 0, .int .i16 0] 42
  have hS0 := hS.keep ((Keep.refl w).alloc (.cells #[.int .i16 0, .int .i16 0, .int .i16 0] 42))
  have hG0 : w.grownBy (w.alloc (.cells #[.int .i16 0, .int .i16 0, .int .i16 0] 42)) (some g) := grown_keep ((Keep.refl w).alloc _) _
  go_enter Tryd.func60, Tryd.ntmps60
  (go_wp2_with fail); (go_at_call 90); refine (src_among [8, 12, 20, 30, 40, 60, 96] (w.heap.size + 1) g 0 _ (by decide) (by omega) (hS0.keep ((Keep.refl _).alloc _)) (Bx.new1 _ _ _ _) (by omega)).mono ?_; rintro e w1 ⟨z, rfl, hzm, hg1, hS1⟩
  have hA1 := (hA.alloc (.cells (ints [8, 12, 20, 30, 40, 60, 96]).toArray 2)).grownBy hg1 (by simp; omega)
  have hG1 := grown_trans (grown_trans hG0 (grown_keep ((Keep.refl _).alloc (.cells (ints [8, 12, 20, 30, 40, 60, 96]).toArray 2)) _)) hg1
  have hz1 : 8 ≤ z ∧ z ≤ 96 := by
    simp at hzm
    omega
  have q1 : IntKind.i16.wrap z = z := i16_small (by omega) (by omega)
  have q2 : IntKind.i64.wrap (97 - z) = 97 - z := wrapI64 ⟨by omega, by omega⟩
  clear hS hA hG0 hS0 hg1 hzm
  (go_wp2_with fail); (go_at_call 62); refine (srcx_pick (97 - z) g _ _ ⟨by omega, by omega⟩ (by omega) hS1).mono ?_; rintro e w2 ⟨s, rfl, s0, s1, hg2, hS2⟩
  have hA2 := hA1.grownBy hg2 (by simp; omega)
  have hG2 := grown_trans hG1 hg2
  have q3 : IntKind.i16.wrap s = s := i16_small (by omega) (by omega)
  have q4 : z.tdiv 2 = z / 2 := Int.tdiv_eq_ediv_of_nonneg (by omega)
  have q5 : IntKind.i64.wrap (z / 2) = z / 2 := wrapI64 ⟨by omega, by omega⟩
  have z2 := hA2.lt
  have hg2 := hG2.size
  clear hA1 hG1 hS1
  obtain ⟨m, hm⟩ : ∃ m : Int, (if (5 : Int) < z / 2 then 5 else z / 2) = m := ⟨_, rfl⟩
  have hmb : 1 ≤ m ∧ m ≤ 5 ∧ m ≤ z / 2 := by rw [← hm]; split <;> omega
  have hmin := Aside.mk (fun W => spec_l00Min 5 (z / 2) W)
  rw [hm] at hmin
  clear hm
  (go_wp2_with fail); (go_at_call 91); refine (hmin.out _).mono ?_; rintro e w3 ⟨rfl, hk3⟩
  have hX : Bx w3 w2.heap.size #[.int .i16 s, .int .i16 z, .int .i16 0] 42 := (Bx.new _ _ _).keep hk3
  have hA3 := (hA2.alloc (.cells #[.int .i16 s, .int .i16 z, .int .i16 0] 42)).keep hk3
  have hS3 := (hS2.keep ((Keep.refl _).alloc (.cells #[.int .i16 s, .int .i16 z, .int .i16 0] 42))).keep hk3
  have hG3 := grown_trans (grown_trans hG2 (grown_keep ((Keep.refl _).alloc (.cells #[.int .i16 s, .int .i16 z, .int .i16 0] 42)) _)) (grown_keep hk3 _)
  clear hA2 hG2 hS2 hk3 hmin
  (go_wp2_with fail); (go_at_call 62); refine (srcx_pick m g _ _ ⟨by omega, by omega⟩ (by omega) hS3).mono ?_; rintro e w4 ⟨r, rfl, r0, r1, hg4, hS4⟩
  have hX4 := hX.grownBy hg4 (by simp; omega)
  have hA4 := hA3.grownBy hg4 (by simp; omega)
  have HG := Aside.mk (grown_trans hG3 hg4)
  have zX := hX4.lt
  have zA := hA4.lt
  clear hX hA3 hG3 hS3 hg4 hS4
  have q6 : IntKind.i64.wrap (1 + r) = 1 + r := wrapI64 ⟨by omega, by omega⟩
  have q7 : IntKind.i16.wrap (1 + r) = 1 + r := i16_small (by omega) (by omega)
  have HM := Aside.mk (show mixB s z (1 + r) = true from mixB_iff.2 (by omega))
  have hXs := hX4.three
  have hAs := hA4.three
  clear hX4 hA4
  go_wp2
  apply bodyPost_ret; rotate_left; rfl; exact ⟨s, z, 1 + r, rfl, HM.out, grown_setCell (grown_setCell (grown_setCell (grown_setCell HG.out (by simp; omega) _) (by simp) _) (by simp) _) (by simp) _⟩; simp [results, Tryd.results60, go_sem, *]
theorem spec_P6Mix (S : Option Addr) (l : List UInt8) (c : Nat) (w : World) (hm : l.length ≤ 9223372036854775807) (hR : Rd w S (bys l)) :
    Calls Tryd.prog 30 #[.slice S l.length c] w fun e w' => ∃ s z p : Int, e = .returned (.agg #[.int .i16 s, .int .i16 z, .int .i16 p]) ∧ mixB s z p = true ∧ Keep w w' := by
  go_enter Tryd.func30, Tryd.ntmps30
  (go_wp2_with fail); (go_at_call 61); refine (srcx_from S l c _ hm (hR.keep ((Keep.refl _).alloc _))).mono ?_; rintro e w1 ⟨g, rfl, hg, hk1, hS⟩
  have hA : Bx w1 w.heap.size #[.int .i16 0, .int .i16 0, .int .i16 0] 42 := (Bx.new _ _ _).keep hk1
  have k1 : Keep w w1 := (by ((repeat (first | (with_reducible assumption) | ((with_reducible refine Keep.setCell ?_ ?_ _); rotate_left; focus (first | omega | (simp; done) | (simp; omega))) | (with_reducible refine Keep.alloc ?_ _) | (with_reducible refine Keep.drewN ?_ _) | (with_reducible refine Keep.drew ?_) | (with_reducible exact Keep.refl _) | refine Keep.trans ?_ (by with_reducible assumption) | exact Keep.refl _ | assumption))))
  have hg0 : w.heap.size + 1 ≤ g := by simpa using hg
  clear hk1 hg
  (go_wp2_with fail); (go_at_call 60); refine (src_drawn g _ hS).mono ?_; rintro e w2 ⟨s, z, p, rfl, hmx, hG⟩
  have hA2 := hA.grownBy hG (by simp; omega)
  have k2 : Keep w w2 := k1.grown hG (by intro k hk; simp at hk; omega)
  have HM := Aside.mk hmx
  clear hA hG hS k1 hmx
  have hAs := hA2.three
  go_wp2
  apply bodyPost_ret; rotate_left; rfl; exact ⟨s, z, p, rfl, HM.out, (by ((repeat (first | (with_reducible assumption) | ((with_reducible refine Keep.setCell ?_ ?_ _); rotate_left; focus (first | omega | (simp; done) | (simp; omega))) | (with_reducible refine Keep.alloc ?_ _) | (with_reducible refine Keep.drewN ?_ _) | (with_reducible refine Keep.drew ?_) | (with_reducible exact Keep.refl _) | refine Keep.trans ?_ (by with_reducible assumption) | exact Keep.refl _ | assumption))))⟩; simp [results, Tryd.results30, go_sem, *]
theorem spec_P6Words (S : Option Addr) (l : List UInt8) (c : Nat) (w : World) (hm : l.length ≤ 9223372036854775807) (hR : Rd w S (bys l)) :
    Calls Tryd.prog 31 #[.slice S l.length c] w fun e w' => ∃ (v : Value) (ws : List ByteArray), e = .returned v ∧ ws.length ≤ 4 ∧ (∀ x ∈ ws, x ∈ vocab) ∧ w'.ownsRow w.heap.size 9 1 v ws.length (strs ws) ∧ Keep w w' := by
  obtain ⟨i0, hi0, hz0, hz1, hz2⟩ := info_parts string_info
  go_enter Tryd.func31, Tryd.ntmps31
  (go_wp2_with fail); (go_at_call 61); refine (srcx_from S l c _ hm hR).mono ?_; rintro e w1 ⟨g, rfl, hg, hk1, hS⟩
  have hgl := hS.lt
  have hS1 := hS.keep ((Keep.refl _).alloc (.cells #[] 9))
  have hO1 := own_empty w1 w1.heap.size 9 (Nat.le_refl _)
  have hG1 : w1.grownBy (w1.alloc (.cells #[] 9)) (some g) := grown_keep ((Keep.refl _).alloc _) _
  clear hS
  (go_wp2_with fail); (go_at_call 62); refine (srcx_pick 5 g _ _ (by decide) (by omega) hS1).mono ?_; rintro e w2 ⟨r, rfl, r0, r1, hg2, hS2⟩
  have hO2 := own_src hO1 hg2 hgl
  have hG2 := grown_trans hG1 hg2
  clear hS1 hO1 hG1 hg2
  go_wp2_with fail
  go_loopg [4, 5] r.toNat (fun mm s4 s5 wr => ∃ (m : Nat) (ws : List ByteArray), m = mm ∧ s5 = .int .i64 ((m : Int)) ∧ m + ws.length ≤ 4 ∧ (∀ x ∈ ws, x ∈ vocab) ∧ wr.ownsRow w1.heap.size 9 1 s4 ws.length (strs ws) ∧ w1.grownBy wr (some g) ∧ Srcx wr g (5 - m))
  case atStart => exact ⟨_, [], rfl, by rw [Int.toNat_of_nonneg r0], by simp; omega, fun x hx => (by simp at hx), by simpa [strs] using hO2, hG2, hS2.more (by omega)⟩
  case round =>
    obtain ⟨m, ws, rfl, rfl, hmw, hvs, hO, hG, hS⟩ := hrel
    have HO := Aside.mk hO
    have HV := Aside.mk hvs
    clear hO hvs hO2 hG2 hS2
    by_cases hm0 : 0 < m
    · have hgs := hG.size
      (go_wp2_with fail); (go_at_call 64); (refine (spec_l03Vocabulary _).mono ?_); rintro e w3 ⟨q, rfl, hB, hq, hk3⟩
      have hS3 := hS.keep hk3
      have hO3 := own_keep HO.out hk3
      have hG3 := grown_trans hG (grown_keep hk3 _)
      have hq2 := hB.lt
      clear hS HO hG hk3
      (go_wp2_with fail); (go_at_call 63); (refine (src_text vocab q g _ _ (by decide) (by omega) hS3 hB (by omega)).mono ?_); rintro e w4 ⟨x, rfl, hxv, hg4, hS4⟩
      have HO4 := Aside.mk (own_src hO3 hg4 hgl)
      have hG4 := grown_trans hG3 hg4
      have hs4 := hG4.size
      have HV4 : Aside (∀ y ∈ ws ++ [x], y ∈ vocab) := Aside.mk (fun y hy => by
        rcases List.mem_append.1 hy with h | h
        · exact HV.out y h
        · simp at h; subst h; exact hxv)
      clear hO3 hG3 hS3 hg4 hB HV hxv
      go_wp2_with (at_builtin; refine wpList_append_own _ rfl _ _ 23 rfl w1.heap.size 9 i0 (.string ByteArray.empty) 1 16 Tryd.underlying23 hi0 hz0 hz1 hz2 rfl (by decide) _ _ _ rfl (own_keep HO4.out ((Keep.refl _).alloc _)) ⟨w4.heap.size, 0, none⟩ 1 1 [.string x] rfl rfl ?c1 ?c2 ?c3 ?c4 ?c5 ?_)
      case c1 =>
        intro j u hj
        match j, hj with
        | 0, hj => simp at hj; subst hj; simp [Addr.add]
      case c2 => intro u hu; simp at hu; subst hu; rfl
      case c3 => unfold maxLen; omega
      case c4 => omega
      case c5 => simp; omega
      · intro v' w5 hown5 hg5 _
        have HO5 := Aside.mk hown5
        have HG5 := Aside.mk (grown_own (grown_trans hG4 (grown_keep ((Keep.refl _).alloc (.cells #[.string x] 9)) _)) hg5 (fun k hk => (HO4.out.lt k hk).1))
        have HS5 := Aside.mk ((hS4.keep ((Keep.refl _).alloc (.cells #[.string x] 9))).grown hg5 (fun j hj => by have := (HO4.out.lt j hj).1; omega))
        clear hown5 hg5 HO4 hS4 hG4
        go_wp2
        go_roundg (m - 1)
        case measure => omega
        case rel => exact ⟨m - 1, ws ++ [x], rfl, by rw [show ((m - 1 : Nat) : Int) = (m : Int) - 1 by omega], by rw [List.length_append]; simp; omega, HV4.out, by rw [List.length_append]; simpa [strs] using HO5.out, HG5.out, HS5.out.more (by omega)⟩
    · obtain rfl : m = 0 := by omega
      have HOW := Aside.mk (own_base HO.out hk1.size)
      have k2 : Keep w wr := hk1.grown hG (fun k hk => by cases hk; omega)
      clear HO hS
      go_wp2
      go_ret; exact ⟨_, ws, rfl, by omega, HV.out, HOW.out, (by ((repeat (first | (with_reducible assumption) | ((with_reducible refine Keep.setCell ?_ ?_ _); rotate_left; focus (first | omega | (simp; done) | (simp; omega))) | (with_reducible refine Keep.alloc ?_ _) | (with_reducible refine Keep.drewN ?_ _) | (with_reducible refine Keep.drew ?_) | (with_reducible exact Keep.refl _) | refine Keep.trans ?_ (by with_reducible assumption) | exact Keep.refl _ | assumption))))⟩
end Go.Proofs.YtbbnhbfofdhnbaaDoor

set_option linter.unusedVariables false
set_option linter.unusedSimpArgs false
namespace Go.Proofs.YtbbnhbfofdhnbaaDoor
open Go.RowKit
set_option maxHeartbeats 2000000
set_option maxRecDepth 20000
theorem spec_P6Mask (S : Option Addr) (l : List UInt8) (c : Nat) (w : World) (hm : l.length ≤ 9223372036854775807) (hR : Rd w S (bys l)) :
    Calls Tryd.prog 40 #[.slice S l.length c] w fun e w' => ∃ a b : Wd, e = .returned (.agg #[.int .u64 (U a), .int .u64 (U b)]) ∧ okB b = true ∧ Keep w w' := by
  go_enter Tryd.func40, Tryd.ntmps40
  (go_wp2_with fail); (go_at_call 61); refine (srcx_from S l c _ hm (hR.keep ((Keep.refl _).alloc _))).mono ?_; rintro e w1 ⟨g, rfl, hg, hk1, hS⟩
  have hA : Bx w1 w.heap.size #[.int .u64 0, .int .u64 0] 50 := (Bx.new _ _ _).keep hk1
  have k1 : Keep w w1 := (by ((repeat (first | (with_reducible assumption) | ((with_reducible refine Keep.setCell ?_ ?_ _); rotate_left; focus (first | omega | (simp; done) | (simp; omega))) | (with_reducible refine Keep.alloc ?_ _) | (with_reducible refine Keep.drewN ?_ _) | (with_reducible refine Keep.drew ?_) | (with_reducible exact Keep.refl _) | refine Keep.trans ?_ (by with_reducible assumption) | exact Keep.refl _ | assumption))))
  have hg0 : w.heap.size + 1 ≤ g := by simpa using hg
  have hgl := hS.lt
  have hA1 := hA.alloc (.cells #[.int .u64 0, .int .u64 0] 50)
  have hM := Bx.new w1 #[.int .u64 (U (0#64)), .int .u64 (U (0#64))] 50
  rw [U_zero] at hM
  have hS1 := hS.keep ((Keep.refl _).alloc (.cells #[.int .u64 0, .int .u64 0] 50))
  have hG1 : w1.grownBy (w1.alloc (.cells #[.int .u64 0, .int .u64 0] 50)) (some g) := grown_keep ((Keep.refl _).alloc _) _
  clear hk1 hg hA hS
  (go_wp2_with fail); (go_at_call 62); refine (srcx_pick 12 g _ _ (by decide) (by omega) hS1).mono ?_; rintro e w2 ⟨r, rfl, r0, r1, hg2, hS2⟩
  have hA2 := hA1.grownBy hg2 (by simp; omega)
  have hM2 := hM.grownBy hg2 (by simp; omega)
  have hG2 := grown_trans hG1 hg2
  clear hA1 hM hS1 hG1 hg2
  go_wp2_with fail
  go_loopg [5] r.toNat (fun mm s5 wr => ∃ (m : Nat) (a b : Wd), m = mm ∧ s5 = .int .i64 ((m : Int)) ∧ m ≤ 11 ∧ okB b = true ∧ Bx wr w.heap.size #[.int .u64 0, .int .u64 0] 50 ∧ Bx wr w1.heap.size #[.int .u64 (U a), .int .u64 (U b)] 50 ∧ w1.grownBy wr (some g) ∧ Srcx wr g (12 - m))
  case atStart => exact ⟨_, 0#64, 0#64, rfl, by rw [Int.toNat_of_nonneg r0], by omega, ok_zero, hA2, by rw [U_zero]; exact hM2, hG2, hS2.more (by omega)⟩
  case round =>
    obtain ⟨m, a, b, rfl, rfl, hm, okb, hA, hM, hG, hS⟩ := hrel
    clear hA2 hM2 hG2 hS2
    have hAs := hA.two
    have hMs := hM.two
    have hgs := hG.size
    by_cases hm0 : 0 < m
    · go_wp2_with fail
      clear hMs hAs
      apply wp_region_src 5 [Fx (.agg #[.int .u64 (U a), .int .u64 (U b)]), Fx (.pointer (some ⟨g, 0, none⟩)), Pk 96, Fp (fun v => ∃ x y : Wd, v = .agg #[.int .u64 (U x), .int .u64 (U y)] ∧ okB y = true), Fp (fun v => ∃ x y : Wd, v = .agg #[.int .u64 (U x), .int .u64 (U y)] ∧ okB y = true)] 2 g ((12 - m)) (by kernel_rfl) (by kernel_rfl) ⟨Fx.grow _ _, Fx.grow _ _, Fp.grow _ _, Fp.grow _ _, Fp.grow _ _, trivial⟩ (by decide) hS ?st13 ?tl13
      case st13 =>
        simp only [List.take_succ_cons, List.take_zero, List.drop_succ_cons, List.drop_zero, putAll, Act.put, List.setIfInBounds_toArray, List.set_cons_succ, List.set_cons_zero, Nat.zero_add, Nat.reduceAdd]
        refine StepsJ.cons _ _ _ ?_ (StepsJ.cons _ _ _ ?_ (StepsJ.cons _ _ _ ?_ (StepsJ.cons _ _ _ ?_ (StepsJ.cons _ _ _ ?_ (StepsJ.nil _)))))
        focus
          intro v w2 bJ hb hJ hd
          have hgw := hJ.1
          have hgz := hgw.size
          obtain ⟨hM_0, hM_1, hM_2, hM_3, hM_4⟩ := (hM.grownBy hgw (by first | (simp; omega) | (simp; done) | (intro hcx; simp at hcx; omega))).two
          simp [DepsOf, factAt, Fx, Fp, Pk, Region.binds] at hd
          simp only [factAt, List.getD_cons_zero, List.getD_cons_succ]
          refine Gives.mk ?_
          go_simp
          first | exact ⟨js_other (by decide) (Keep.refl _), Fx.self _ _⟩ | exact ⟨js_other (by decide) ((Keep.refl _).alloc _), _, rfl, Bx.new _ _ _, by first | omega | (simp; omega)⟩
        focus
          intro v w2 bJ hb hJ hd
          have hgw := hJ.1
          have hgz := hgw.size
          obtain ⟨hM_0, hM_1, hM_2, hM_3, hM_4⟩ := (hM.grownBy hgw (by first | (simp; omega) | (simp; done) | (intro hcx; simp at hcx; omega))).two
          simp [DepsOf, factAt, Fx, Fp, Pk, Region.binds] at hd
          simp only [factAt, List.getD_cons_zero, List.getD_cons_succ]
          refine Gives.mk ?_
          go_simp
          first | exact ⟨js_other (by decide) (Keep.refl _), Fx.self _ _⟩ | exact ⟨js_other (by decide) ((Keep.refl _).alloc _), _, rfl, Bx.new _ _ _, by first | omega | (simp; omega)⟩
        focus
          intro v w2 bJ hb hJ hd
          have hgw := hJ.1
          have hgz := hgw.size
          obtain ⟨hM_0, hM_1, hM_2, hM_3, hM_4⟩ := (hM.grownBy hgw (by first | (simp; omega) | (simp; done) | (intro hcx; simp at hcx; omega))).two
          simp [DepsOf, factAt, Fx, Fp, Pk, Region.binds] at hd
          obtain rfl := hb rfl
          simp only [factAt, List.getD_cons_zero, List.getD_cons_succ]
          refine Gives.mk ?_
          go_simp
          first | (go_at_call 62; exact js_pick ⟨by omega, by omega⟩ (by omega) hJ)
        focus
          intro v w2 bJ hb hJ hd
          have hgw := hJ.1
          have hgz := hgw.size
          obtain ⟨hM_0, hM_1, hM_2, hM_3, hM_4⟩ := (hM.grownBy hgw (by first | (simp; omega) | (simp; done) | (intro hcx; simp at hcx; omega))).two
          simp [DepsOf, factAt, Fx, Fp, Pk, Region.binds] at hd
          obtain ⟨r, hr, q0, q1⟩ := hd
          simp only [factAt, List.getD_cons_zero, List.getD_cons_succ]
          refine Gives.mk ?_
          go_simp
          first | exact ⟨js_other (by decide) (Keep.refl _), Fx.self _ _⟩ | exact ⟨js_other (by decide) ((Keep.refl _).alloc _), _, rfl, Bx.new _ _ _, by first | omega | (simp; omega)⟩ | (go_at_call 74; exact js_callp (by decide) (by exact ⟨_, _, rfl, ok_one q0 q1⟩) (spec_l01Bit r q0 q1 _))
        focus
          intro v w2 bJ hb hJ hd
          have hgw := hJ.1
          have hgz := hgw.size
          obtain ⟨hM_0, hM_1, hM_2, hM_3, hM_4⟩ := (hM.grownBy hgw (by first | (simp; omega) | (simp; done) | (intro hcx; simp at hcx; omega))).two
          simp [DepsOf, factAt, Fx, Fp, Pk, Region.binds] at hd
          obtain ⟨hv0, x, y, hr, oky⟩ := hd
          simp only [factAt, List.getD_cons_zero, List.getD_cons_succ]
          refine Gives.mk ?_
          go_simp
          first | exact ⟨js_other (by decide) (Keep.refl _), Fx.self _ _⟩ | exact ⟨js_other (by decide) ((Keep.refl _).alloc _), _, rfl, Bx.new _ _ _, by first | omega | (simp; omega)⟩ | (go_at_call 73; exact js_callp (by decide) (by exact ⟨_, _, rfl, ok_ors okb oky⟩) (spec_l01Join _ _ _ _ _))
      simp only [List.take_succ_cons, List.take_zero, List.drop_succ_cons, List.drop_zero, putAll, Act.put, List.setIfInBounds_toArray, List.set_cons_succ, List.set_cons_zero, Nat.zero_add, Nat.reduceAdd]
      intro v w2 hgw hS2 hh
      have hgz := hgw.size
      obtain ⟨hM_0, hM_1, hM_2, hM_3, hM_4⟩ := (hM.grownBy hgw (by first | (simp; omega) | (simp; done) | (intro hcx; simp at hcx; omega))).two
      simp only [Held, factAt, List.getD_cons_zero, List.getD_cons_succ, Fx, Fp, Pk, true_and] at hh
      obtain ⟨⟨⟨⟨v_0, v_1⟩, v_2⟩, v_3⟩, v_4⟩ := hh
      simp only [v_0, v_1]
      obtain ⟨a2, b2, e4, hb2⟩ := v_4
      simp only [e4]
      have hA2 := hA.grownBy hgw (by simp; omega)
      have hM2 := hM.grownBy hgw (by simp; omega)
      have hG2 := grown_trans hG hgw
      have zM := hM2.lt
      have zA := hA2.lt
      clear hA hM hG hS v_2 v_3 e4 hgw okb
      go_wp2
      go_roundg (m - 1)
      case measure => omega
      case rel => exact ⟨m - 1, a2, b2, rfl, by rw [show ((m - 1 : Nat) : Int) = (m : Int) - 1 by omega], by omega, hb2, (hA2.set' (by simp; omega) _).set' (by simp; omega) _, by simpa using (hM2.set (i := 0) (.int .u64 (U a2))).set (i := 1) (.int .u64 (U b2)), grown_own (grown_own hG2 (grown_set1 _ w1.heap.size 0 _) (by simp)) (grown_set1 _ w1.heap.size 1 _) (by simp), ((hS2.set (by simp; omega) _).set (by simp; omega) _).more (by omega)⟩
    · obtain rfl : m = 0 := by omega
      have k2 : Keep w wr := k1.grown hG (fun k hk => by cases hk; omega)
      clear hS hG
      go_wp2
      apply bodyPost_ret; rotate_left; rfl; exact ⟨a, b, rfl, okb, (by ((repeat (first | (with_reducible assumption) | ((with_reducible refine Keep.setCell ?_ ?_ _); rotate_left; focus (first | omega | (simp; done) | (simp; omega))) | (with_reducible refine Keep.alloc ?_ _) | (with_reducible refine Keep.drewN ?_ _) | (with_reducible refine Keep.drew ?_) | (with_reducible exact Keep.refl _) | refine Keep.trans ?_ (by with_reducible assumption) | exact Keep.refl _ | assumption))))⟩; simp [results, Tryd.results40, go_sem, U_zero, *]
end Go.Proofs.YtbbnhbfofdhnbaaDoor

set_option linter.unusedVariables false
set_option linter.unusedSimpArgs false
namespace Go.Proofs.YtbbnhbfofdhnbaaDoor
open Go.RowKit
set_option maxHeartbeats 8000000
set_option maxRecDepth 20000
theorem akR_mem {p : Nat → Nat → Bool} {i : Nat} : ∀ (m : Nat) (x : Int × Int), x ∈ akR p i m → ∃ k, i < k ∧ k < m ∧ p i k = true ∧ x = ((i : Int), (k : Int))
  | 0, x, h => by simp [akR] at h
  | m + 1, x, h => by
    rw [akR, List.mem_append] at h
    rcases h with h | h
    · obtain ⟨k, h1, h2, h3, h4⟩ := akR_mem m x h
      exact ⟨k, h1, by omega, h3, h4⟩
    · by_cases hc : i < m ∧ p i m = true
      · rw [if_pos hc] at h
        simp at h
        exact ⟨m, hc.1, by omega, hc.2, h⟩
      · rw [if_neg hc] at h; simp at h
theorem akL_mem {p : Nat → Nat → Bool} {n : Nat} : ∀ (i : Nat) (x : Int × Int), x ∈ akL p n i → ∃ j k, j < i ∧ j < k ∧ k < n ∧ p j k = true ∧ x = ((j : Int), (k : Int))
  | 0, x, h => by simp [akL] at h
  | i + 1, x, h => by
    rw [akL, List.mem_append] at h
    rcases h with h | h
    · obtain ⟨j, k, h1, h2⟩ := akL_mem i x h
      exact ⟨j, k, by omega, h2⟩
    · obtain ⟨k, h1, h2, h3, h4⟩ := akR_mem n x h
      exact ⟨i, k, by omega, h1, h2, h3, h4⟩
/-- What is known of a pair of alike words. -/
theorem al_mem {s z p : Int} {T : List UInt8 → Nat} {l : List ByteArray} {x : Int × Int} (h : x ∈ alL s z p T l) : ∃ j k : Nat, ∃ (h1 : j < l.length) (h2 : k < l.length), j < k ∧ x = ((j : Int), (k : Int)) ∧ wLo s z T l[j] = wLo s z T l[k] ∧ wHi s z T l[j] = wHi s z T l[k] := by
  unfold alL at h
  cases hc : (alE s z p l == 0)
  · rw [hc] at h; simp at h
  · rw [hc, cond_true] at h
    unfold akAll at h
    obtain ⟨j, k, h1, h2, h3, h4, h5⟩ := akL_mem _ x h
    have h6 : j < l.length := by omega
    rw [akP_at s z T h6 h3] at h4
    simp only [Bool.and_eq_true, beq_iff_eq] at h4
    exact ⟨j, k, h6, h3, h2, h5, h4.1, h4.2⟩
theorem al_len (s z p : Int) (T : List UInt8 → Nat) (l : List ByteArray) (hl : l.length ≤ 4) : (alL s z p T l).length ≤ 100 := by
  unfold alL
  cases hc : (alE s z p l == 0)
  · simp
  · rw [cond_true]
    unfold akAll
    have : ∀ i, (akL (akP s z T l) l.length i).length ≤ i * l.length := by
      intro i
      induction i with
      | zero => simp [akL]
      | succ i ih =>
        have := akR_len (akP s z T l) i l.length
        rw [akL, List.length_append, Nat.add_mul]
        omega
    have h1 := this l.length
    have h2 : l.length * l.length ≤ 4 * 4 := Nat.mul_le_mul hl hl
    omega
theorem mix_16 {s z p : Int} (h : mixB s z p = true) : I16 s ∧ I16 z ∧ I16 p := by
  have := mixB_iff.1 h
  unfold I16
  omega
theorem ws_ok {ws : List ByteArray} {n : Int} (h : ∀ x ∈ ws, x ∈ vocab) (hn : (ws.length : Int) ≤ n) : wsB ws n = true := by
  unfold wsB
  rw [Bool.and_eq_true]
  exact ⟨decide_eq_true hn, List.all_eq_true.2 fun x hx => (vocab_ok x (h x hx)).1⟩
theorem wh_zero {s z p : Int} {x : ByteArray} (hm : mixB s z p = true) (hx : x ∈ vocab) : whE s z p x = 0 := by
  unfold whE ckE wsE
  rw [hm, ws_ok (ws := [x]) (n := 12) (by simpa using hx) (by simp)]; rfl
theorem ck_zero {s z p : Int} {ws : List ByteArray} {n : Int} (hm : mixB s z p = true) (hv : ∀ x ∈ ws, x ∈ vocab) (hl : (ws.length : Int) ≤ n) : ckE s z p ws n = 0 := by
  unfold ckE wsE
  rw [hm, ws_ok hv hl]; rfl
theorem wsz_ok {ws : List ByteArray} (h : ∀ x ∈ ws, x ∈ vocab) : Szs ws := fun x hx => by have := (vocab_ok x (h x hx)).2; omega
/-- The contracts at a word that was drawn. -/
theorem impl_WordHoles_drawn {s z p : Int} {T : List UInt8 → Nat} (hm : mixB s z p = true) (hT : MTim s z p T) {x : ByteArray} (hx : x ∈ vocab) (w : World) :
    Calls Tryd.prog 34 #[.agg #[.int .i16 s, .int .i16 z, .int .i16 p], .string x] w fun e w' => e = .returned (.tuple #[.agg #[.int .u64 (U (wLo s z T x)), .int .u64 (U (wHi s z T x))], .int .i64 0]) ∧ Keep w w' := by
  have h := impl_WordHoles s z p x (T x.data.toList) w (by have := (vocab_ok x hx).2; omega) (mix_16 hm) (fun _ => hT hm x.data.toList)
  rw [wh_zero hm hx] at h
  exact h
theorem spec_WordHoles_drawn {s z p : Int} {T : List UInt8 → Nat} (hm : mixB s z p = true) (hT : MTim s z p T) {x : ByteArray} (hx : x ∈ vocab) (w : World) :
    Calls Tryd.prog 35 #[.agg #[.int .i16 s, .int .i16 z, .int .i16 p], .string x] w fun e w' => e = .returned (.tuple #[.agg #[.int .u64 (U (wLo s z T x)), .int .u64 (U (wHi s z T x))], .int .i64 0]) ∧ Keep w w' := by
  have h := spec_WordHoles s z p x (T x.data.toList) w (by have := (vocab_ok x hx).2; omega) (mix_16 hm) (fun _ => hT hm x.data.toList)
  rw [wh_zero hm hx] at h
  exact h
end Go.Proofs.YtbbnhbfofdhnbaaDoor

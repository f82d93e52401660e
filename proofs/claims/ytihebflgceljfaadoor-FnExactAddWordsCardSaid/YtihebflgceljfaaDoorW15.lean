/- How many holes words want: the walks and the law. -/
import Derived.Test.YtihebflgceljfaaDoorX6
import Derived.Test.YtihebflgceljfaaDoorT2
import Derived.Test.YtihebflgceljfaaDoorW14
set_option linter.unusedVariables false
set_option linter.unusedSimpArgs false
namespace Go.Proofs.YtihebflgceljfaaDoor
open Go.RowKit
set_option maxHeartbeats 4000000
set_option maxRecDepth 20000
theorem ckE_cases (s z p : Int) (l : List ByteArray) (n : Int) : (ckE s z p l n = 0 ∧ mixB s z p = true) ∨ (ckE s z p l n ≠ 0) := by
  cases h : mixB s z p
  · right; simp [ckE, h]
  · cases h2 : wsB l n
    · right; simp [ckE, wsE, h, h2]
    · left; simp [ckE, wsE, h, h2]
/-- Times for the words of a mix, if it is one. -/
def MTim (s z p : Int) (T : List UInt8 → Nat) : Prop := mixB s z p = true → Tim s z p T
theorem exMTim (s z p : Int) : ∃ T, MTim s z p T := by
  cases h : mixB s z p
  · exact ⟨fun _ => 0, fun k => by rw [h] at k; cases k⟩
  · have hmf := mix_facts h
    obtain ⟨T, hT⟩ := exTim hmf.1 (show 1 ≤ z by omega) hmf.2.2.1 (show p ≤ z by omega)
    exact ⟨T, fun _ => hT⟩
def ndM (s z p : Int) (T : List UInt8 → Nat) (l : List ByteArray) : Int := cond (ckE s z p l 12 == 0) ((pc (aLo s z T l) + pc (aHi s z T l) : Nat) : Int) 0
theorem impl_NeedlesFor (s z p : Int) (A : Option Addr) (l : List ByteArray) (c : Nat) (T : List UInt8 → Nat) (w : World) (hw : I16 s ∧ I16 z ∧ I16 p) (hm : l.length ≤ 9223372036854775807) (hz : Szs l) (hR : Rd w A (strs l)) (hT : MTim s z p T) :
    Calls Tryd.prog 21 #[.agg #[.int .i16 s, .int .i16 z, .int .i16 p], .slice A l.length c] w fun e w' => e = .returned (.tuple #[.int .i64 (ndM s z p T l), .int .i64 (ckE s z p l 12)]) ∧ Keep w w' := by
  have hc := fun W h => impl_checkWords s z p A l c W hw hm hz h
  rcases ckE_cases s z p l 12 with ⟨h0, hmx⟩ | h0
  · have hmf := mix_facts hmx
    have hh := fun W h => impl_holesOf s z p A l c T W hm hz h hmf.1 (by omega) hmf.2.2.1 ⟨by omega, by omega⟩ (hT hmx)
    have e1 : ndM s z p T l = ((pc (aLo s z T l) + pc (aHi s z T l) : Nat) : Int) := by simp [ndM, h0]
    rw [e1]
    rw [h0] at hc
    rw [h0]
    clear hT h0 e1
    generalize aLo s z T l = lo at *
    generalize aHi s z T l = hi at *
    go_enter Tryd.func21, Tryd.ntmps21
    (go_wp2_with fail); (go_at_call 61); (refine (hc _ (hR.keep ((Keep.refl _).alloc _))).mono ?_); rintro e w1 ⟨rfl, hk1⟩
    obtain ⟨hk1c, hk1f⟩ := hk1.cells; have hk1z0 : w.heap.size < w1.heap.size := (by have := hk1.size; (try simp at this); omega)
    have k1 : Keep w w1 := (by ((repeat (first | (with_reducible assumption) | ((with_reducible refine Keep.setCell ?_ ?_ _); rotate_left; focus (first | omega | (simp; done) | (simp; omega))) | (with_reducible refine Keep.alloc ?_ _) | (with_reducible refine Keep.drewN ?_ _) | (with_reducible refine Keep.drew ?_) | (with_reducible exact Keep.refl _) | refine Keep.trans ?_ (by with_reducible assumption) | exact Keep.refl _ | assumption))))
    (go_wp2_with fail); (go_at_call 64); (refine (hh _ (hR.keep k1)).mono ?_); rintro e w2 ⟨rfl, hk2⟩
    (go_wp2_with fail); (go_at_call 49); (refine (impl_CountHoles _ _ _).mono ?_); rintro e w3 ⟨rfl, hk3⟩
    go_wp2
    go_ret2; exact ⟨rfl, (by ((repeat (first | (with_reducible assumption) | ((with_reducible refine Keep.setCell ?_ ?_ _); rotate_left; focus (first | omega | (simp; done) | (simp; omega))) | (with_reducible refine Keep.alloc ?_ _) | (with_reducible refine Keep.drewN ?_ _) | (with_reducible refine Keep.drew ?_) | (with_reducible exact Keep.refl _) | refine Keep.trans ?_ (by with_reducible assumption) | exact Keep.refl _ | assumption))))⟩
  · have e1 : ndM s z p T l = 0 := by have : (ckE s z p l 12 == 0) = false := by simpa using h0
                                      simp only [ndM, this, cond_false]
    rw [e1]
    clear hT e1
    generalize ckE s z p l 12 = y at *
    go_enter Tryd.func21, Tryd.ntmps21
    (go_wp2_with fail); (go_at_call 61); (refine (hc _ (hR.keep ((Keep.refl _).alloc _))).mono ?_); rintro e w1 ⟨rfl, hk1⟩
    go_wp2
    go_ret2; exact ⟨rfl, (by ((repeat (first | (with_reducible assumption) | ((with_reducible refine Keep.setCell ?_ ?_ _); rotate_left; focus (first | omega | (simp; done) | (simp; omega))) | (with_reducible refine Keep.alloc ?_ _) | (with_reducible refine Keep.drewN ?_ _) | (with_reducible refine Keep.drew ?_) | (with_reducible exact Keep.refl _) | refine Keep.trans ?_ (by with_reducible assumption) | exact Keep.refl _ | assumption))))⟩
theorem spec_NeedlesFor (s z p : Int) (A : Option Addr) (l : List ByteArray) (c : Nat) (T : List UInt8 → Nat) (w : World) (hw : I16 s ∧ I16 z ∧ I16 p) (hm : l.length ≤ 9223372036854775807) (hz : Szs l) (hR : Rd w A (strs l)) (hT : MTim s z p T) :
    Calls Tryd.prog 19 #[.agg #[.int .i16 s, .int .i16 z, .int .i16 p], .slice A l.length c] w fun e w' => e = .returned (.tuple #[.int .i64 (ndM s z p T l), .int .i64 (ckE s z p l 12)]) ∧ Keep w w' := by
  have hc : ∀ W M mc, Rd W A (strs l) → Bx W w.heap.size #[.int .i16 s, .int .i16 z, .int .i16 p] 34 → Calls Tryd.prog 59 #[.pointer (some ⟨w.heap.size, 0, none⟩), .slice M 0 mc, .slice A l.length c, .int .i64 12] W fun e w' => e = .returned (.int .i64 (ckE s z p l 12)) ∧ Keep W w' :=
    fun W M mc h hX => by
      obtain ⟨b0, b1, b2, _⟩ := hX.three
      exact spec_l03Asked0 s z p w.heap.size 0 M mc A l c 12 W hw hm hz h b0 b1 b2
  rcases ckE_cases s z p l 12 with ⟨h0, hmx⟩ | h0
  · have hmf := mix_facts hmx
    have hh := fun W h h1 h2 h3 => spec_l03All s z p w.heap.size 0 A l c T W hm hz h hmf.1 (by omega) hmf.2.2.1 ⟨by omega, by omega⟩ (hT hmx) h1 h2 h3
    have e1 : ndM s z p T l = ((pc (aLo s z T l) + pc (aHi s z T l) : Nat) : Int) := by simp [ndM, h0]
    rw [e1]
    rw [h0] at hc
    rw [h0]
    clear hT h0 e1
    generalize aLo s z T l = lo at *
    generalize aHi s z T l = hi at *
    go_enter Tryd.func19, Tryd.ntmps19
    (go_wp2_with fail); (go_at_call 59); (refine (hc _ _ _ (hR.keep (((Keep.refl _).alloc _).alloc _)) ((Bx.new _ _ _).alloc _)).mono ?_); rintro e w1 ⟨rfl, hk1⟩
    have hX : Bx w1 w.heap.size #[.int .i16 s, .int .i16 z, .int .i16 p] 34 := ((Bx.new _ _ _).alloc _).keep hk1
    have k1 : Keep w w1 := (by ((repeat (first | (with_reducible assumption) | ((with_reducible refine Keep.setCell ?_ ?_ _); rotate_left; focus (first | omega | (simp; done) | (simp; omega))) | (with_reducible refine Keep.alloc ?_ _) | (with_reducible refine Keep.drewN ?_ _) | (with_reducible refine Keep.drew ?_) | (with_reducible exact Keep.refl _) | refine Keep.trans ?_ (by with_reducible assumption) | exact Keep.refl _ | assumption))))
    clear hk1
    obtain ⟨b0, b1, b2, _⟩ := hX.three
    (go_wp2_with fail); (go_at_call 63); (refine (hh _ (hR.keep k1) b0 b1 b2).mono ?_); rintro e w2 ⟨rfl, hk2⟩
    (go_wp2_with fail); (go_at_call 54); (refine (spec_CountHoles _ _ _).mono ?_); rintro e w3 ⟨rfl, hk3⟩
    go_wp2
    go_ret2; exact ⟨rfl, (by ((repeat (first | (with_reducible assumption) | ((with_reducible refine Keep.setCell ?_ ?_ _); rotate_left; focus (first | omega | (simp; done) | (simp; omega))) | (with_reducible refine Keep.alloc ?_ _) | (with_reducible refine Keep.drewN ?_ _) | (with_reducible refine Keep.drew ?_) | (with_reducible exact Keep.refl _) | refine Keep.trans ?_ (by with_reducible assumption) | exact Keep.refl _ | assumption))))⟩
  · have e1 : ndM s z p T l = 0 := by have : (ckE s z p l 12 == 0) = false := by simpa using h0
                                      simp only [ndM, this, cond_false]
    rw [e1]
    clear hT e1
    generalize ckE s z p l 12 = y at *
    go_enter Tryd.func19, Tryd.ntmps19
    (go_wp2_with fail); (go_at_call 59); (refine (hc _ _ _ (hR.keep (((Keep.refl _).alloc _).alloc _)) ((Bx.new _ _ _).alloc _)).mono ?_); rintro e w1 ⟨rfl, hk1⟩
    go_wp2
    go_ret2; exact ⟨rfl, (by ((repeat (first | (with_reducible assumption) | ((with_reducible refine Keep.setCell ?_ ?_ _); rotate_left; focus (first | omega | (simp; done) | (simp; omega))) | (with_reducible refine Keep.alloc ?_ _) | (with_reducible refine Keep.drewN ?_ _) | (with_reducible refine Keep.drew ?_) | (with_reducible exact Keep.refl _) | refine Keep.trans ?_ (by with_reducible assumption) | exact Keep.refl _ | assumption))))⟩
/-- What a law is told of a list of words. -/
def Wds (w : World) (A : Option Addr) (l : List ByteArray) : Prop := l.length ≤ 9223372036854775807 ∧ Szs l ∧ Rd w A (strs l)
theorem own_rds {w : World} {base : Nat} {e : TypeId} {A : Option Addr} {n c : Nat} {xs : List Value} (h : w.ownsRow base e 1 (.slice A n c) n xs) : Rd w A xs := by
  obtain ⟨A', c', hv, hR, _⟩ := own_row h
  simp only [Value.slice.injEq] at hv
  rw [hv.1]; exact hR
theorem laws_FnExactNeedlesFor (s z p : Int) (A : Option Addr) (l : List ByteArray) (c : Nat) (w : World) (hw : I16 s ∧ I16 z ∧ I16 p) (hl : l.length ≤ 9223372036854775807 ∧ Szs l ∧ Rd w A (strs l)) :
    Calls Tryd.prog 5 #[.agg #[.int .i16 s, .int .i16 z, .int .i16 p], .slice A l.length c] w fun e w' => e = .returned (.bool true) ∧ Keep w w' := by
  obtain ⟨hm, hz, hR⟩ := hl
  by_cases hn : (1048576 : Int) < (l.length + szSum l : Nat)
  · have e1 := szL_gt hn
    go_enter Tryd.func5, Tryd.ntmps5
    (go_wp2_with fail); (go_at_call 18); (refine (laws_szStringS _ _ _ 1048576 _ (by decide) hm hz (hR.keep ((Keep.refl _).alloc _))).mono ?_); rintro e w1 ⟨rfl, hk1⟩
    rw [e1]
    go_wp2
    go_ret; exact ⟨rfl, (by ((repeat (first | (with_reducible assumption) | ((with_reducible refine Keep.setCell ?_ ?_ _); rotate_left; focus (first | omega | (simp; done) | (simp; omega))) | (with_reducible refine Keep.alloc ?_ _) | (with_reducible refine Keep.drewN ?_ _) | (with_reducible refine Keep.drew ?_) | (with_reducible exact Keep.refl _) | refine Keep.trans ?_ (by with_reducible assumption) | exact Keep.refl _ | assumption))))⟩
  · have e1 := szL_le hn
    have hn' : l.length ≤ 1048576 := by omega
    obtain ⟨T, hT⟩ := exMTim s z p
    have hI := fun A c W h => impl_NeedlesFor s z p A l c T W hw hm hz h hT
    have hJ := fun A c W h => spec_NeedlesFor s z p A l c T W hw hm hz h hT
    have hneg : ¬ ((1048576 : Int) - (l.length + szSum l : Nat) < 0) := by omega
    obtain ⟨left, hle⟩ : ∃ x, szL 1048576 l = x := ⟨_, rfl⟩
    have hl0 : ¬ left < 0 := by omega
    generalize ndM s z p T l = x at *
    generalize ckE s z p l 12 = y at *
    clear hT e1 hneg hn
    go_enter Tryd.func5, Tryd.ntmps5
    (go_wp2_with fail); (go_at_call 18); (refine (laws_szStringS _ _ _ 1048576 _ (by decide) hm hz (hR.keep ((Keep.refl _).alloc _))).mono ?_); rintro e w1 ⟨rfl, hk1⟩
    rw [hle]
    have hX : Bx w1 w.heap.size #[.int .i16 s, .int .i16 z, .int .i16 p] 28 := (Bx.new _ _ _).keep hk1
    have k1 : Keep w w1 := (by ((repeat (first | (with_reducible assumption) | ((with_reducible refine Keep.setCell ?_ ?_ _); rotate_left; focus (first | omega | (simp; done) | (simp; omega))) | (with_reducible refine Keep.alloc ?_ _) | (with_reducible refine Keep.drewN ?_ _) | (with_reducible refine Keep.drew ?_) | (with_reducible exact Keep.refl _) | refine Keep.trans ?_ (by with_reducible assumption) | exact Keep.refl _ | assumption))))
    clear hk1 hle hz
    have hXs := hX.three
    (go_wp2_with fail); (go_at_call 15); (refine (laws_toMix _ _ _ _).mono ?_); rintro e w2 ⟨rfl, hk2⟩
    have hX2 := hX.keep hk2
    have k2 : Keep w w2 := (by ((repeat (first | (with_reducible assumption) | ((with_reducible refine Keep.setCell ?_ ?_ _); rotate_left; focus (first | omega | (simp; done) | (simp; omega))) | (with_reducible refine Keep.alloc ?_ _) | (with_reducible refine Keep.drewN ?_ _) | (with_reducible refine Keep.drew ?_) | (with_reducible exact Keep.refl _) | refine Keep.trans ?_ (by with_reducible assumption) | exact Keep.refl _ | assumption))))
    clear hXs hX hk2 k1
    (go_wp2_with fail); (go_at_call 20); (refine (laws_toStringS _ _ _ _ hn' (hR.keep k2)).mono ?_); rintro e w3 ⟨g3, rfl, ho3, hk3⟩
    have hX3 := hX2.keep hk3
    have k3 : Keep w w3 := (by ((repeat (first | (with_reducible assumption) | ((with_reducible refine Keep.setCell ?_ ?_ _); rotate_left; focus (first | omega | (simp; done) | (simp; omega))) | (with_reducible refine Keep.alloc ?_ _) | (with_reducible refine Keep.drewN ?_ _) | (with_reducible refine Keep.drew ?_) | (with_reducible exact Keep.refl _) | refine Keep.trans ?_ (by with_reducible assumption) | exact Keep.refl _ | assumption))))
    clear hX2 hk3 k2
    (go_wp2_with fail); (go_at_call 19); (refine (hJ _ _ _ (own_rds ho3)).mono ?_); rintro e w4 ⟨rfl, hk4⟩
    have hX4 := hX3.keep hk4
    have k4 : Keep w w4 := (by ((repeat (first | (with_reducible assumption) | ((with_reducible refine Keep.setCell ?_ ?_ _); rotate_left; focus (first | omega | (simp; done) | (simp; omega))) | (with_reducible refine Keep.alloc ?_ _) | (with_reducible refine Keep.drewN ?_ _) | (with_reducible refine Keep.drew ?_) | (with_reducible exact Keep.refl _) | refine Keep.trans ?_ (by with_reducible assumption) | exact Keep.refl _ | assumption))))
    clear hX3 hk4 k3 ho3
    (go_wp2_with fail); (go_at_call 20); (refine (laws_toStringS _ _ _ _ hn' (hR.keep k4)).mono ?_); rintro e w5 ⟨g5, rfl, ho5, hk5⟩
    have hX5 := hX4.keep hk5
    have k5 : Keep w w5 := (by ((repeat (first | (with_reducible assumption) | ((with_reducible refine Keep.setCell ?_ ?_ _); rotate_left; focus (first | omega | (simp; done) | (simp; omega))) | (with_reducible refine Keep.alloc ?_ _) | (with_reducible refine Keep.drewN ?_ _) | (with_reducible refine Keep.drew ?_) | (with_reducible exact Keep.refl _) | refine Keep.trans ?_ (by with_reducible assumption) | exact Keep.refl _ | assumption))))
    have HO5 := Aside.mk ho5
    clear hX4 hk5 k4 ho5
    have hXs := hX5.three
    (go_wp2_with fail); (go_at_call 15); (refine (laws_toMix _ _ _ _).mono ?_); rintro e w6 ⟨rfl, hk6⟩
    have k6 : Keep w w6 := (by ((repeat (first | (with_reducible assumption) | ((with_reducible refine Keep.setCell ?_ ?_ _); rotate_left; focus (first | omega | (simp; done) | (simp; omega))) | (with_reducible refine Keep.alloc ?_ _) | (with_reducible refine Keep.drewN ?_ _) | (with_reducible refine Keep.drew ?_) | (with_reducible exact Keep.refl _) | refine Keep.trans ?_ (by with_reducible assumption) | exact Keep.refl _ | assumption))))
    have HO6 := Aside.mk (own_keep HO5.out hk6)
    clear hXs hX5 hk6 k5 HO5
    (go_wp2_with fail); (go_at_call 21); (refine (hI _ _ _ (own_rds HO6.out)).mono ?_); rintro e w7 ⟨rfl, hk7⟩
    have k7 : Keep w w7 := (by ((repeat (first | (with_reducible assumption) | ((with_reducible refine Keep.setCell ?_ ?_ _); rotate_left; focus (first | omega | (simp; done) | (simp; omega))) | (with_reducible refine Keep.alloc ?_ _) | (with_reducible refine Keep.drewN ?_ _) | (with_reducible refine Keep.drew ?_) | (with_reducible exact Keep.refl _) | refine Keep.trans ?_ (by with_reducible assumption) | exact Keep.refl _ | assumption))))
    have HO7 := Aside.mk (own_keep HO6.out hk7)
    clear hk7 k6 HO6
    (go_wp2_with fail); (go_at_call 20); (refine (laws_toStringS _ _ _ _ hn' (hR.keep k7)).mono ?_); rintro e w8 ⟨g8, rfl, ho8, hk8⟩
    have k8 : Keep w w8 := (by ((repeat (first | (with_reducible assumption) | ((with_reducible refine Keep.setCell ?_ ?_ _); rotate_left; focus (first | omega | (simp; done) | (simp; omega))) | (with_reducible refine Keep.alloc ?_ _) | (with_reducible refine Keep.drewN ?_ _) | (with_reducible refine Keep.drew ?_) | (with_reducible exact Keep.refl _) | refine Keep.trans ?_ (by with_reducible assumption) | exact Keep.refl _ | assumption))))
    have HO8 := Aside.mk (own_keep HO7.out hk8)
    have HP8 := Aside.mk ho8
    clear ho8 hk8 k7 HO7
    (go_wp2_with fail); (go_at_call 22); (refine (laws_eqStringS _ _ _ _ _ _ hn' (own_rds HO8.out) (own_rds HP8.out)).mono ?_); rintro e w9 ⟨rfl, hk9⟩
    go_wp2
    go_ret; exact ⟨rfl, (by ((repeat (first | (with_reducible assumption) | ((with_reducible refine Keep.setCell ?_ ?_ _); rotate_left; focus (first | omega | (simp; done) | (simp; omega))) | (with_reducible refine Keep.alloc ?_ _) | (with_reducible refine Keep.drewN ?_ _) | (with_reducible refine Keep.drew ?_) | (with_reducible exact Keep.refl _) | refine Keep.trans ?_ (by with_reducible assumption) | exact Keep.refl _ | assumption))))⟩
end Go.Proofs.YtihebflgceljfaaDoor

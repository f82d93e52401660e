/- How many holes words want: the walks and the law. -/
import Derived.Test.YtbbnhbfofdhnbaaDoorX6
import Derived.Test.YtbbnhbfofdhnbaaDoorT2
import Derived.Test.YtbbnhbfofdhnbaaDoorW14
set_option linter.unusedVariables false
set_option linter.unusedSimpArgs false
namespace Go.Proofs.YtbbnhbfofdhnbaaDoor
open Go.RowKit
set_option maxHeartbeats 4000000
set_option maxRecDepth 20000
theorem ckE_cases (s z p : Int) (l : List ByteArray) (n : Int) : (ckE s z p l n = 0 ∧ mixB s z p = true) ∨ (ckE s z p l n ≠ 0) := by
  cases h : mixB s z p
  · right; simp [ckE, h]
  · cases h2 : wsB l n
    · right; simp [ckE, wsE, h, h2]
    · left; simp [ckE, wsE, h, h2]
/-- Times for the words of a mix, if it is one. -/
def MTim (s z p : Int) (T : List UInt8 → Nat) : Prop := mixB s z p = true → Tim s z p T
theorem exMTim (s z p : Int) : ∃ T, MTim s z p T := by
  cases h : mixB s z p
  · exact ⟨fun _ => 0, fun k => by rw [h] at k; cases k⟩
  · have hmf := mix_facts h
    obtain ⟨T, hT⟩ := exTim hmf.1 (show 1 ≤ z by omega) hmf.2.2.1 (show p ≤ z by omega)
    exact ⟨T, fun _ => hT⟩
def ndM (s z p : Int) (T : List UInt8 → Nat) (l : List ByteArray) : Int := cond (ckE s z p l 12 == 0) ((pc (aLo s z T l) + pc (aHi s z T l) : Nat) : Int) 0
theorem impl_NeedlesFor (s z p : Int) (A : Option Addr) (l : List ByteArray) (c : Nat) (T : List UInt8 → Nat) (w : World) (hw : I16 s ∧ I16 z ∧ I16 p) (hm : l.length ≤ 9223372036854775807) (hz : Szs l) (hR : Rd w A (strs l)) (hT : MTim s z p T) :
    Calls Tryd.prog 42 #[.agg #[.int .i16 s, .int .i16 z, .int .i16 p], .slice A l.length c] w fun e w' => e = .returned (.tuple #[.int .i64 (ndM s z p T l), .int .i64 (ckE s z p l 12)]) ∧ Keep w w' := by
  have hc := fun W h => impl_checkWords s z p A l c W hw hm hz h
  rcases ckE_cases s z p l 12 with ⟨h0, hmx⟩ | h0
  · have hmf := mix_facts hmx
    have hh := fun W h => impl_holesOf s z p A l c T W hm hz h hmf.1 (by omega) hmf.2.2.1 ⟨by omega, by omega⟩ (hT hmx)
    have e1 : ndM s z p T l = ((pc (aLo s z T l) + pc (aHi s z T l) : Nat) : Int) := by simp [ndM, h0]
    rw [e1]
    rw [h0] at hc
    rw [h0]
    clear hT h0 e1
    generalize aLo s z T l = lo at *
    generalize aHi s z T l = hi at *
    go_enter Tryd.func42, Tryd.ntmps42
    (go_wp2_with fail); (go_at_call 67); (refine (hc _ (hR.keep ((Keep.refl _).alloc _))).mono ?_); rintro e w1 ⟨rfl, hk1⟩
    obtain ⟨hk1c, hk1f⟩ := hk1.cells; have hk1z0 : w.heap.size < w1.heap.size := (by have := hk1.size; (try simp at this); omega)
    have k1 : Keep w w1 := (by ((repeat (first | (with_reducible assumption) | ((with_reducible refine Keep.setCell ?_ ?_ _); rotate_left; focus (first | omega | (simp; done) | (simp; omega))) | (with_reducible refine Keep.alloc ?_ _) | (with_reducible refine Keep.drewN ?_ _) | (with_reducible refine Keep.drew ?_) | (with_reducible exact Keep.refl _) | refine Keep.trans ?_ (by with_reducible assumption) | exact Keep.refl _ | assumption))))
    (go_wp2_with fail); (go_at_call 76); (refine (hh _ (hR.keep k1)).mono ?_); rintro e w2 ⟨rfl, hk2⟩
    (go_wp2_with fail); (go_at_call 33); (refine (impl_CountHoles _ _ _).mono ?_); rintro e w3 ⟨rfl, hk3⟩
    go_wp2
    go_ret2; exact ⟨rfl, (by ((repeat (first | (with_reducible assumption) | ((with_reducible refine Keep.setCell ?_ ?_ _); rotate_left; focus (first | omega | (simp; done) | (simp; omega))) | (with_reducible refine Keep.alloc ?_ _) | (with_reducible refine Keep.drewN ?_ _) | (with_reducible refine Keep.drew ?_) | (with_reducible exact Keep.refl _) | refine Keep.trans ?_ (by with_reducible assumption) | exact Keep.refl _ | assumption))))⟩
  · have e1 : ndM s z p T l = 0 := by have : (ckE s z p l 12 == 0) = false := by simpa using h0
                                      simp only [ndM, this, cond_false]
    rw [e1]
    clear hT e1
    generalize ckE s z p l 12 = y at *
    go_enter Tryd.func42, Tryd.ntmps42
    (go_wp2_with fail); (go_at_call 67); (refine (hc _ (hR.keep ((Keep.refl _).alloc _))).mono ?_); rintro e w1 ⟨rfl, hk1⟩
    go_wp2
    go_ret2; exact ⟨rfl, (by ((repeat (first | (with_reducible assumption) | ((with_reducible refine Keep.setCell ?_ ?_ _); rotate_left; focus (first | omega | (simp; done) | (simp; omega))) | (with_reducible refine Keep.alloc ?_ _) | (with_reducible refine Keep.drewN ?_ _) | (with_reducible refine Keep.drew ?_) | (with_reducible exact Keep.refl _) | refine Keep.trans ?_ (by with_reducible assumption) | exact Keep.refl _ | assumption))))⟩
/-- What a law is told of a list of words. -/
def Wds (w : World) (A : Option Addr) (l : List ByteArray) : Prop := l.length ≤ 9223372036854775807 ∧ Szs l ∧ Rd w A (strs l)
theorem own_rds {w : World} {base : Nat} {e : TypeId} {A : Option Addr} {n c : Nat} {xs : List Value} (h : w.ownsRow base e 1 (.slice A n c) n xs) : Rd w A xs := by
  obtain ⟨A', c', hv, hR, _⟩ := own_row h
  simp only [Value.slice.injEq] at hv
  rw [hv.1]; exact hR
end Go.Proofs.YtbbnhbfofdhnbaaDoor

/- Words added to a mask: the walks. -/
import Derived.Test.YtbbnhbfofdhnbaaDoorX8
import Derived.Test.YtbbnhbfofdhnbaaDoorM2
set_option linter.unusedVariables false
set_option linter.unusedSimpArgs false
namespace Go.Proofs.YtbbnhbfofdhnbaaDoor
open Go.RowKit
set_option maxHeartbeats 4000000
set_option maxRecDepth 20000
def adLo (s z p : Int) (a b : Wd) (T : List UInt8 → Nat) (l : List ByteArray) : Wd := cond (drE s z p b l == 0) (a ||| aLo s z T l) 0#64
def adHi (s z p : Int) (b : Wd) (T : List UInt8 → Nat) (l : List ByteArray) : Wd := cond (drE s z p b l == 0) (b ||| aHi s z T l) 0#64
theorem impl_AddWords (s z p : Int) (a b : Wd) (A : Option Addr) (l : List ByteArray) (c : Nat) (T : List UInt8 → Nat) (w : World) (hw : I16 s ∧ I16 z ∧ I16 p) (hm : l.length ≤ 9223372036854775807) (hz : Szs l) (hR : Rd w A (strs l)) (hT : MTim s z p T) :
    Calls Tryd.prog 41 #[.agg #[.int .i16 s, .int .i16 z, .int .i16 p], .agg #[.int .u64 (U a), .int .u64 (U b)], .slice A l.length c] w fun e w' => e = .returned (.tuple #[.agg #[.int .u64 (U (adLo s z p a b T l)), .int .u64 (U (adHi s z p b T l))], .int .i64 (drE s z p b l)]) ∧ Keep w w' := by
  have hc := fun W h => impl_checkWords s z p A l c W hw hm hz h
  rcases drE_cases s z p b l with ⟨hb, h0, hd, hmx⟩ | ⟨hb, h0, hd⟩ | ⟨hb, hd⟩
  · have hmf := mix_facts hmx
    have hh := fun W h => impl_holesOf s z p A l c T W hm hz h hmf.1 (by omega) hmf.2.2.1 ⟨by omega, by omega⟩ (hT hmx)
    have e1 : adLo s z p a b T l = a ||| aLo s z T l := by simp [adLo, hd]
    have e2 : adHi s z p b T l = b ||| aHi s z T l := by simp [adHi, hd]
    rw [e1, e2, hd]
    rw [h0] at hc
    clear hT h0 e1 hd
    generalize aLo s z T l = lo at *
    generalize aHi s z T l = hi at *
    go_enter Tryd.func41, Tryd.ntmps41
    (go_wp2_with fail); (go_at_call 75); (refine (impl_isMask _ _ _).mono ?_); rintro e w1 ⟨rfl, hk1⟩
    rw [hb]
    have hX : Bx w1 w.heap.size #[.int .i16 s, .int .i16 z, .int .i16 p] 42 := (((Bx.new _ _ _).alloc _).alloc _).keep hk1
    have hM : Bx w1 (w.heap.size + 1) #[.int .u64 (U a), .int .u64 (U b)] 50 := ((Bx.new1 _ _ _ _).alloc _).keep hk1
    have hO : Bx w1 (w.heap.size + 1 + 1) #[.int .u64 0, .int .u64 0] 50 := (Bx.new2 _ _ _ _ _).keep hk1
    have k1 : Keep w w1 := (by ((repeat (first | (with_reducible assumption) | ((with_reducible refine Keep.setCell ?_ ?_ _); rotate_left; focus (first | omega | (simp; done) | (simp; omega))) | (with_reducible refine Keep.alloc ?_ _) | (with_reducible refine Keep.drewN ?_ _) | (with_reducible refine Keep.drew ?_) | (with_reducible exact Keep.refl _) | refine Keep.trans ?_ (by with_reducible assumption) | exact Keep.refl _ | assumption))))
    clear hk1
    have hXs := hX.three
    (go_wp2_with fail); (go_at_call 67); (refine (hc _ (hR.keep k1)).mono ?_); rintro e w2 ⟨rfl, hk2⟩
    have hX2 := hX.keep hk2
    have hM2 := hM.keep hk2
    have hO2 := hO.keep hk2
    have k2 : Keep w w2 := (by ((repeat (first | (with_reducible assumption) | ((with_reducible refine Keep.setCell ?_ ?_ _); rotate_left; focus (first | omega | (simp; done) | (simp; omega))) | (with_reducible refine Keep.alloc ?_ _) | (with_reducible refine Keep.drewN ?_ _) | (with_reducible refine Keep.drew ?_) | (with_reducible exact Keep.refl _) | refine Keep.trans ?_ (by with_reducible assumption) | exact Keep.refl _ | assumption))))
    have hR2 := hR.keep k2
    clear hXs hX hM hO hk2 k1
    go_wp2_with fail
    apply wp_region_mono 5 [Fx _, Fx _, Fx _, Fx _, Fx _] (by kernel_rfl) (by kernel_rfl) (mono_of ⟨Fx.mono _, Fx.mono _, Fx.mono _, Fx.mono _, Fx.mono _, trivial⟩) ?st9 ?tl9
    case st9 =>
      simp only [List.take_succ_cons, List.take_zero, List.drop_succ_cons, List.drop_zero, putAll, Act.put, List.setIfInBounds_toArray, List.set_cons_succ, List.set_cons_zero, Nat.zero_add, Nat.reduceAdd]
      refine steps_cons ?_ (steps_cons ?_ (steps_cons ?_ (steps_cons ?_ (steps_cons ?_ steps_nil))))
      all_goals
        intro v w2 hk hd
        obtain ⟨hX2_0, hX2_1, hX2_2, hX2_3, hX2_4, hX2_5, hX2_6⟩ := (hX2.keep hk).three
        obtain ⟨hM2_0, hM2_1, hM2_2, hM2_3, hM2_4⟩ := (hM2.keep hk).two
        obtain ⟨hO2_0, hO2_1, hO2_2, hO2_3, hO2_4⟩ := (hO2.keep hk).two
        have hkz := hk.size
        simp [DepsOf, factAt, Fx, Region.binds] at hd
        simp only [factAt, List.getD_cons_zero, List.getD_cons_succ]
        refine Gives.mk ?_
        go_simp
        first | exact ⟨Keep.refl _, Fx.self _ _⟩ | exact ⟨(Keep.refl _).alloc _, _, rfl, Bx.new _ _ _, by first | omega | (simp; omega)⟩ | (go_at_call 76; exact gives_fx (hh _ (hR2.keep hk))) | (go_at_call 39; exact gives_fx (impl_JoinMasks _ _ _ _ _))
    simp only [List.take_succ_cons, List.take_zero, List.drop_succ_cons, List.drop_zero, putAll, Act.put, List.setIfInBounds_toArray, List.set_cons_succ, List.set_cons_zero, Nat.zero_add, Nat.reduceAdd]
    intro v w2 hk hh
    obtain ⟨hX2_0, hX2_1, hX2_2, hX2_3, hX2_4, hX2_5, hX2_6⟩ := (hX2.keep hk).three
    obtain ⟨hM2_0, hM2_1, hM2_2, hM2_3, hM2_4⟩ := (hM2.keep hk).two
    obtain ⟨hO2_0, hO2_1, hO2_2, hO2_3, hO2_4⟩ := (hO2.keep hk).two
    have hkz := hk.size
    simp only [Held, factAt, List.getD_cons_zero, List.getD_cons_succ, Fx, true_and] at hh
    obtain ⟨⟨⟨⟨v_0, v_1⟩, v_2⟩, v_3⟩, v_4⟩ := hh
    simp only [v_0, v_1, v_2, v_3, v_4]
    have k3 : Keep w w2 := Keep.trans k2 hk
    go_wp2
    (apply bodyPost_ret; rotate_left; rfl; exact ⟨rfl, (by ((repeat (first | (with_reducible assumption) | ((with_reducible refine Keep.setCell ?_ ?_ _); rotate_left; focus (first | omega | (simp; done) | (simp; omega))) | (with_reducible refine Keep.alloc ?_ _) | (with_reducible refine Keep.drewN ?_ _) | (with_reducible refine Keep.drew ?_) | (with_reducible exact Keep.refl _) | refine Keep.trans ?_ (by with_reducible assumption) | exact Keep.refl _ | assumption))))⟩; simp [results, Tryd.results41, go_sem, U_zero, *])
  · have e0 : (drE s z p b l == 0) = false := by rw [hd]; simpa using h0
    have e1 : adLo s z p a b T l = 0#64 := by simp only [adLo, e0, cond_false]
    have e2 : adHi s z p b T l = 0#64 := by simp only [adHi, e0, cond_false]
    rw [e1, e2, hd]
    clear hT e1 e2 e0 hd
    generalize ckE s z p l 12 = y at *
    go_enter Tryd.func41, Tryd.ntmps41
    (go_wp2_with fail); (go_at_call 75); (refine (impl_isMask _ _ _).mono ?_); rintro e w1 ⟨rfl, hk1⟩
    rw [hb]
    have hX : Bx w1 w.heap.size #[.int .i16 s, .int .i16 z, .int .i16 p] 42 := (((Bx.new _ _ _).alloc _).alloc _).keep hk1
    have hO : Bx w1 (w.heap.size + 1 + 1) #[.int .u64 0, .int .u64 0] 50 := (Bx.new2 _ _ _ _ _).keep hk1
    have k1 : Keep w w1 := (by ((repeat (first | (with_reducible assumption) | ((with_reducible refine Keep.setCell ?_ ?_ _); rotate_left; focus (first | omega | (simp; done) | (simp; omega))) | (with_reducible refine Keep.alloc ?_ _) | (with_reducible refine Keep.drewN ?_ _) | (with_reducible refine Keep.drew ?_) | (with_reducible exact Keep.refl _) | refine Keep.trans ?_ (by with_reducible assumption) | exact Keep.refl _ | assumption))))
    clear hk1
    have hXs := hX.three
    (go_wp2_with fail); (go_at_call 67); (refine (hc _ (hR.keep k1)).mono ?_); rintro e w2 ⟨rfl, hk2⟩
    have hO2 := hO.keep hk2
    have k2 : Keep w w2 := (by ((repeat (first | (with_reducible assumption) | ((with_reducible refine Keep.setCell ?_ ?_ _); rotate_left; focus (first | omega | (simp; done) | (simp; omega))) | (with_reducible refine Keep.alloc ?_ _) | (with_reducible refine Keep.drewN ?_ _) | (with_reducible refine Keep.drew ?_) | (with_reducible exact Keep.refl _) | refine Keep.trans ?_ (by with_reducible assumption) | exact Keep.refl _ | assumption))))
    have hOs := hO2.two
    clear hXs hX hO hk2 k1
    go_wp2
    (apply bodyPost_ret; rotate_left; rfl; exact ⟨rfl, (by ((repeat (first | (with_reducible assumption) | ((with_reducible refine Keep.setCell ?_ ?_ _); rotate_left; focus (first | omega | (simp; done) | (simp; omega))) | (with_reducible refine Keep.alloc ?_ _) | (with_reducible refine Keep.drewN ?_ _) | (with_reducible refine Keep.drew ?_) | (with_reducible exact Keep.refl _) | refine Keep.trans ?_ (by with_reducible assumption) | exact Keep.refl _ | assumption))))⟩; simp [results, Tryd.results41, go_sem, U_zero, *])
  · have e1 : adLo s z p a b T l = 0#64 := by simp [adLo, hd]
    have e2 : adHi s z p b T l = 0#64 := by simp [adHi, hd]
    rw [e1, e2, hd]
    clear hT e1 e2 hd
    go_enter Tryd.func41, Tryd.ntmps41
    (go_wp2_with fail); (go_at_call 75); (refine (impl_isMask _ _ _).mono ?_); rintro e w1 ⟨rfl, hk1⟩
    rw [hb]
    have hO : Bx w1 (w.heap.size + 1 + 1) #[.int .u64 0, .int .u64 0] 50 := (Bx.new2 _ _ _ _ _).keep hk1
    have k1 : Keep w w1 := (by ((repeat (first | (with_reducible assumption) | ((with_reducible refine Keep.setCell ?_ ?_ _); rotate_left; focus (first | omega | (simp; done) | (simp; omega))) | (with_reducible refine Keep.alloc ?_ _) | (with_reducible refine Keep.drewN ?_ _) | (with_reducible refine Keep.drew ?_) | (with_reducible exact Keep.refl _) | refine Keep.trans ?_ (by with_reducible assumption) | exact Keep.refl _ | assumption))))
    clear hk1
    have hOs := hO.two
    go_wp2
    (apply bodyPost_ret; rotate_left; rfl; exact ⟨rfl, (by ((repeat (first | (with_reducible assumption) | ((with_reducible refine Keep.setCell ?_ ?_ _); rotate_left; focus (first | omega | (simp; done) | (simp; omega))) | (with_reducible refine Keep.alloc ?_ _) | (with_reducible refine Keep.drewN ?_ _) | (with_reducible refine Keep.drew ?_) | (with_reducible exact Keep.refl _) | refine Keep.trans ?_ (by with_reducible assumption) | exact Keep.refl _ | assumption))))⟩; simp [results, Tryd.results41, go_sem, U_zero, *])
end Go.Proofs.YtbbnhbfofdhnbaaDoor

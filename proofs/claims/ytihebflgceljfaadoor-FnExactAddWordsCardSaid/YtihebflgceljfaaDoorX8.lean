/- Does a card drop by words: the walks. -/
import Derived.Test.YtihebflgceljfaaDoorX7
import Derived.Test.YtihebflgceljfaaDoorX6
import Derived.Test.YtihebflgceljfaaDoorW15
set_option linter.unusedVariables false
set_option linter.unusedSimpArgs false
namespace Go.Proofs.YtihebflgceljfaaDoor
open Go.RowKit
set_option maxHeartbeats 4000000
set_option maxRecDepth 20000
/-- The code of a mask and words asked with. -/
def drE (s z p : Int) (b : Wd) (l : List ByteArray) : Int := cond (okB b) (ckE s z p l 12) 1
theorem drE_ak (s z p : Int) (a b : Wd) (l : List ByteArray) : akE s z p [(a, b)] l 12 = drE s z p b l := by
  unfold akE drE ckE okM
  cases mixB s z p <;> cases h : okB b <;> simp [h]
def drB (s z p : Int) (a b : Wd) (T : List UInt8 → Nat) (l : List ByteArray) : Bool := cond (drE s z p b l == 0) (withinB (aLo s z T l) (aHi s z T l) a b) false
theorem drE_cases (s z p : Int) (b : Wd) (l : List ByteArray) : (okB b = true ∧ ckE s z p l 12 = 0 ∧ drE s z p b l = 0 ∧ mixB s z p = true) ∨ (okB b = true ∧ ckE s z p l 12 ≠ 0 ∧ drE s z p b l = ckE s z p l 12) ∨ (okB b = false ∧ drE s z p b l = 1) := by
  cases h : okB b
  · exact .inr (.inr ⟨rfl, by simp [drE, h]⟩)
  · rcases ckE_cases s z p l 12 with ⟨h0, hm⟩ | h0
    · exact .inl ⟨rfl, h0, by simp [drE, h, h0], hm⟩
    · exact .inr (.inl ⟨rfl, h0, by simp [drE, h]⟩)
theorem rd_mask {W : World} {g : Nat} {a b : Wd} {T : TypeId} (h : Bx W g #[.int .u64 (U a), .int .u64 (U b)] T) : Rd W (some ⟨g, 0, none⟩) (msks [(a, b)]) := by
  refine .inr ⟨g, 0, rfl, fun j v hj => ?_⟩
  rw [h.cell]
  simpa [msks, mskV] using hj
theorem impl_Drops (s z p : Int) (a b : Wd) (A : Option Addr) (l : List ByteArray) (c : Nat) (T : List UInt8 → Nat) (w : World) (hw : I16 s ∧ I16 z ∧ I16 p) (hm : l.length ≤ 9223372036854775807) (hz : Szs l) (hR : Rd w A (strs l)) (hT : MTim s z p T) :
    Calls Tryd.prog 37 #[.agg #[.int .i16 s, .int .i16 z, .int .i16 p], .agg #[.int .u64 (U a), .int .u64 (U b)], .slice A l.length c] w fun e w' => e = .returned (.tuple #[.bool (drB s z p a b T l), .int .i64 (drE s z p b l)]) ∧ Keep w w' := by
  have hc := fun W h => impl_checkWords s z p A l c W hw hm hz h
  rcases drE_cases s z p b l with ⟨hb, h0, hd, hmx⟩ | ⟨hb, h0, hd⟩ | ⟨hb, hd⟩
  · have hmf := mix_facts hmx
    have hh := fun W h => impl_holesOf s z p A l c T W hm hz h hmf.1 (by omega) hmf.2.2.1 ⟨by omega, by omega⟩ (hT hmx)
    have e1 : drB s z p a b T l = withinB (aLo s z T l) (aHi s z T l) a b := by simp [drB, hd]
    rw [e1, hd]
    rw [h0] at hc
    clear hT h0 e1 hd
    generalize aLo s z T l = lo at *
    generalize aHi s z T l = hi at *
    go_enter Tryd.func37, Tryd.ntmps37
    (go_wp2_with fail); (go_at_call 72); (refine (impl_isMask _ _ _).mono ?_); rintro e w1 ⟨rfl, hk1⟩
    rw [hb]
    have hX := ((Bx.new w #[.int .i16 s, .int .i16 z, .int .i16 p] 34).alloc (Obj.cells #[.int .u64 (U a), .int .u64 (U b)] 31)).keep hk1
    have hM := (Bx.new1 w (Obj.cells #[.int .i16 s, .int .i16 z, .int .i16 p] 34) #[.int .u64 (U a), .int .u64 (U b)] 31).keep hk1
    have k1 : Keep w w1 := (by ((repeat (first | (with_reducible assumption) | ((with_reducible refine Keep.setCell ?_ ?_ _); rotate_left; focus (first | omega | (simp; done) | (simp; omega))) | (with_reducible refine Keep.alloc ?_ _) | (with_reducible refine Keep.drewN ?_ _) | (with_reducible refine Keep.drew ?_) | (with_reducible exact Keep.refl _) | refine Keep.trans ?_ (by with_reducible assumption) | exact Keep.refl _ | assumption))))
    clear hk1
    have hXs := hX.three
    (go_wp2_with fail); (go_at_call 61); (refine (hc _ (hR.keep k1)).mono ?_); rintro e w2 ⟨rfl, hk2⟩
    have hX2 := hX.keep hk2
    have hM2 := hM.keep hk2
    have k2 : Keep w w2 := (by ((repeat (first | (with_reducible assumption) | ((with_reducible refine Keep.setCell ?_ ?_ _); rotate_left; focus (first | omega | (simp; done) | (simp; omega))) | (with_reducible refine Keep.alloc ?_ _) | (with_reducible refine Keep.drewN ?_ _) | (with_reducible refine Keep.drew ?_) | (with_reducible exact Keep.refl _) | refine Keep.trans ?_ (by with_reducible assumption) | exact Keep.refl _ | assumption))))
    have hR2 := hR.keep k2
    clear hXs hX hM hk2 k1
    go_wp2_with fail
    apply wp_region_mono 5 [Fx _, Fx _, Fx _, Fx _, Fx _] (by kernel_rfl) (by kernel_rfl) (mono_of ⟨Fx.mono _, Fx.mono _, Fx.mono _, Fx.mono _, Fx.mono _, trivial⟩) ?st7 ?tl7
    case st7 =>
      simp only [List.take_succ_cons, List.take_zero, List.drop_succ_cons, List.drop_zero, putAll, Act.put, List.setIfInBounds_toArray, List.set_cons_succ, List.set_cons_zero, Nat.zero_add, Nat.reduceAdd]
      refine steps_cons ?_ (steps_cons ?_ (steps_cons ?_ (steps_cons ?_ (steps_cons ?_ steps_nil))))
      all_goals
        intro v w2 hk hd
        obtain ⟨hX2_0, hX2_1, hX2_2, hX2_3, hX2_4, hX2_5, hX2_6⟩ := (hX2.keep hk).three
        obtain ⟨hM2_0, hM2_1, hM2_2, hM2_3, hM2_4⟩ := (hM2.keep hk).two
        have hkz := hk.size
        simp [DepsOf, factAt, Fx, Region.binds] at hd
        simp only [factAt, List.getD_cons_zero, List.getD_cons_succ]
        refine Gives.mk ?_
        go_simp
        first | exact ⟨Keep.refl _, Fx.self _ _⟩ | exact ⟨(Keep.refl _).alloc _, _, rfl, Bx.new _ _ _, by first | omega | (simp; omega)⟩ | (go_at_call 64; exact gives_fx (hh _ (hR2.keep hk))) | (go_at_call 50; exact gives_fx (impl_IsWithin _ _ _ _ _))
    simp only [List.take_succ_cons, List.take_zero, List.drop_succ_cons, List.drop_zero, putAll, Act.put, List.setIfInBounds_toArray, List.set_cons_succ, List.set_cons_zero, Nat.zero_add, Nat.reduceAdd]
    intro v w2 hk hh
    obtain ⟨hX2_0, hX2_1, hX2_2, hX2_3, hX2_4, hX2_5, hX2_6⟩ := (hX2.keep hk).three
    obtain ⟨hM2_0, hM2_1, hM2_2, hM2_3, hM2_4⟩ := (hM2.keep hk).two
    have hkz := hk.size
    simp only [Held, factAt, List.getD_cons_zero, List.getD_cons_succ, Fx, true_and] at hh
    obtain ⟨⟨⟨⟨v_0, v_1⟩, v_2⟩, v_3⟩, v_4⟩ := hh
    simp only [v_0, v_1, v_2, v_3, v_4]
    go_wp2
    go_ret2; exact ⟨rfl, (by ((repeat (first | (with_reducible assumption) | ((with_reducible refine Keep.setCell ?_ ?_ _); rotate_left; focus (first | omega | (simp; done) | (simp; omega))) | (with_reducible refine Keep.alloc ?_ _) | (with_reducible refine Keep.drewN ?_ _) | (with_reducible refine Keep.drew ?_) | (with_reducible exact Keep.refl _) | refine Keep.trans ?_ (by with_reducible assumption) | exact Keep.refl _ | assumption))))⟩
  · have e1 : drB s z p a b T l = false := by have : (drE s z p b l == 0) = false := by rw [hd]; simpa using h0
                                              simp only [drB, this, cond_false]
    rw [e1, hd]
    clear hT e1 hd
    generalize ckE s z p l 12 = y at *
    go_enter Tryd.func37, Tryd.ntmps37
    (go_wp2_with fail); (go_at_call 72); (refine (impl_isMask _ _ _).mono ?_); rintro e w1 ⟨rfl, hk1⟩
    rw [hb]
    have hX := ((Bx.new w #[.int .i16 s, .int .i16 z, .int .i16 p] 34).alloc (Obj.cells #[.int .u64 (U a), .int .u64 (U b)] 31)).keep hk1
    have k1 : Keep w w1 := (by ((repeat (first | (with_reducible assumption) | ((with_reducible refine Keep.setCell ?_ ?_ _); rotate_left; focus (first | omega | (simp; done) | (simp; omega))) | (with_reducible refine Keep.alloc ?_ _) | (with_reducible refine Keep.drewN ?_ _) | (with_reducible refine Keep.drew ?_) | (with_reducible exact Keep.refl _) | refine Keep.trans ?_ (by with_reducible assumption) | exact Keep.refl _ | assumption))))
    clear hk1
    have hXs := hX.three
    (go_wp2_with fail); (go_at_call 61); (refine (hc _ (hR.keep k1)).mono ?_); rintro e w2 ⟨rfl, hk2⟩
    go_wp2
    go_ret2; exact ⟨rfl, (by ((repeat (first | (with_reducible assumption) | ((with_reducible refine Keep.setCell ?_ ?_ _); rotate_left; focus (first | omega | (simp; done) | (simp; omega))) | (with_reducible refine Keep.alloc ?_ _) | (with_reducible refine Keep.drewN ?_ _) | (with_reducible refine Keep.drew ?_) | (with_reducible exact Keep.refl _) | refine Keep.trans ?_ (by with_reducible assumption) | exact Keep.refl _ | assumption))))⟩
  · have e1 : drB s z p a b T l = false := by simp [drB, hd]
    rw [e1, hd]
    clear hT e1 hd
    go_enter Tryd.func37, Tryd.ntmps37
    (go_wp2_with fail); (go_at_call 72); (refine (impl_isMask _ _ _).mono ?_); rintro e w1 ⟨rfl, hk1⟩
    rw [hb]
    go_wp2
    go_ret2; exact ⟨rfl, (by ((repeat (first | (with_reducible assumption) | ((with_reducible refine Keep.setCell ?_ ?_ _); rotate_left; focus (first | omega | (simp; done) | (simp; omega))) | (with_reducible refine Keep.alloc ?_ _) | (with_reducible refine Keep.drewN ?_ _) | (with_reducible refine Keep.drew ?_) | (with_reducible exact Keep.refl _) | refine Keep.trans ?_ (by with_reducible assumption) | exact Keep.refl _ | assumption))))⟩
theorem spec_Drops (s z p : Int) (a b : Wd) (A : Option Addr) (l : List ByteArray) (c : Nat) (T : List UInt8 → Nat) (w : World) (hw : I16 s ∧ I16 z ∧ I16 p) (hm : l.length ≤ 9223372036854775807) (hz : Szs l) (hR : Rd w A (strs l)) (hT : MTim s z p T) :
    Calls Tryd.prog 36 #[.agg #[.int .i16 s, .int .i16 z, .int .i16 p], .agg #[.int .u64 (U a), .int .u64 (U b)], .slice A l.length c] w fun e w' => e = .returned (.tuple #[.bool (drB s z p a b T l), .int .i64 (drE s z p b l)]) ∧ Keep w w' := by
  have hc : ∀ W g, Rd W A (strs l) → Bx W w.heap.size #[.int .i16 s, .int .i16 z, .int .i16 p] 34 → Bx W g #[.int .u64 (U a), .int .u64 (U b)] 31 → Calls Tryd.prog 59 #[.pointer (some ⟨w.heap.size, 0, none⟩), .slice (some ⟨g, 0, none⟩) 1 1, .slice A l.length c, .int .i64 12] W fun e w' => e = .returned (.int .i64 (drE s z p b l)) ∧ Keep W w' :=
    fun W g h hX hg => by
      obtain ⟨b0, b1, b2, _⟩ := hX.three
      have := spec_l03Asked s z p w.heap.size 0 (some ⟨g, 0, none⟩) [(a, b)] 1 A l c 12 W hw (by simp) (rd_mask hg) hm hz h b0 b1 b2
      rw [drE_ak] at this
      exact this
  rcases drE_cases s z p b l with ⟨hb, h0, hd, hmx⟩ | h0
  · have hmf := mix_facts hmx
    have hh := fun W h h1 h2 h3 => spec_l03All s z p w.heap.size 0 A l c T W hm hz h hmf.1 (by omega) hmf.2.2.1 ⟨by omega, by omega⟩ (hT hmx) h1 h2 h3
    have e1 : drB s z p a b T l = withinB (aLo s z T l) (aHi s z T l) a b := by simp [drB, hd]
    rw [hd] at hc
    rw [e1, hd]
    clear hT h0 e1 hd
    generalize aLo s z T l = lo at *
    generalize aHi s z T l = hi at *
    go_enter Tryd.func36, Tryd.ntmps36
    (go_wp2_with fail); (go_at_call 59); (refine (hc _ _ (hR.keep ((((Keep.refl _).alloc _).alloc _).alloc _)) (((Bx.new _ _ _).alloc _).alloc _) (Bx.new2 _ _ _ _ _)).mono ?_); rintro e w1 ⟨rfl, hk1⟩
    have hX : Bx w1 w.heap.size #[.int .i16 s, .int .i16 z, .int .i16 p] 34 := (((Bx.new _ _ _).alloc _).alloc _).keep hk1
    have hM : Bx w1 (w.heap.size + 1) #[.int .u64 (U a), .int .u64 (U b)] 31 := ((Bx.new1 _ _ _ _).alloc _).keep hk1
    have k1 : Keep w w1 := (by ((repeat (first | (with_reducible assumption) | ((with_reducible refine Keep.setCell ?_ ?_ _); rotate_left; focus (first | omega | (simp; done) | (simp; omega))) | (with_reducible refine Keep.alloc ?_ _) | (with_reducible refine Keep.drewN ?_ _) | (with_reducible refine Keep.drew ?_) | (with_reducible exact Keep.refl _) | refine Keep.trans ?_ (by with_reducible assumption) | exact Keep.refl _ | assumption))))
    have hR1 := hR.keep k1
    clear hk1 hc
    go_wp2_with fail
    apply wp_region_mono 4 [Fx _, Fx _, Fx _, Fx _] (by kernel_rfl) (by kernel_rfl) (mono_of ⟨Fx.mono _, Fx.mono _, Fx.mono _, Fx.mono _, trivial⟩) ?st8 ?tl8
    case st8 =>
      simp only [List.take_succ_cons, List.take_zero, List.drop_succ_cons, List.drop_zero, putAll, Act.put, List.setIfInBounds_toArray, List.set_cons_succ, List.set_cons_zero, Nat.zero_add, Nat.reduceAdd]
      refine steps_cons ?_ (steps_cons ?_ (steps_cons ?_ (steps_cons ?_ steps_nil)))
      all_goals
        intro v w2 hk hd
        obtain ⟨hX_0, hX_1, hX_2, hX_3, hX_4, hX_5, hX_6⟩ := (hX.keep hk).three
        obtain ⟨hM_0, hM_1, hM_2, hM_3, hM_4⟩ := (hM.keep hk).two
        have hkz := hk.size
        simp [DepsOf, factAt, Fx, Region.binds] at hd
        simp only [factAt, List.getD_cons_zero, List.getD_cons_succ]
        refine Gives.mk ?_
        go_simp
        first | exact ⟨Keep.refl _, Fx.self _ _⟩ | exact ⟨(Keep.refl _).alloc _, _, rfl, Bx.new _ _ _, by first | omega | (simp; omega)⟩ | (go_at_call 63; exact gives_fx (hh _ (hR1.keep hk) hX_0 hX_1 hX_2)) | (go_at_call 73; exact gives_fx (spec_IsWithin _ _ _ _ _))
    simp only [List.take_succ_cons, List.take_zero, List.drop_succ_cons, List.drop_zero, putAll, Act.put, List.setIfInBounds_toArray, List.set_cons_succ, List.set_cons_zero, Nat.zero_add, Nat.reduceAdd]
    intro v w2 hk hh
    obtain ⟨hX_0, hX_1, hX_2, hX_3, hX_4, hX_5, hX_6⟩ := (hX.keep hk).three
    obtain ⟨hM_0, hM_1, hM_2, hM_3, hM_4⟩ := (hM.keep hk).two
    have hkz := hk.size
    simp only [Held, factAt, List.getD_cons_zero, List.getD_cons_succ, Fx, true_and] at hh
    obtain ⟨⟨⟨v_0, v_1⟩, v_2⟩, v_3⟩ := hh
    simp only [v_0, v_1, v_2, v_3]
    go_wp2
    go_ret2; exact ⟨rfl, (by ((repeat (first | (with_reducible assumption) | ((with_reducible refine Keep.setCell ?_ ?_ _); rotate_left; focus (first | omega | (simp; done) | (simp; omega))) | (with_reducible refine Keep.alloc ?_ _) | (with_reducible refine Keep.drewN ?_ _) | (with_reducible refine Keep.drew ?_) | (with_reducible exact Keep.refl _) | refine Keep.trans ?_ (by with_reducible assumption) | exact Keep.refl _ | assumption))))⟩
  · have hne : drE s z p b l ≠ 0 := by rcases h0 with ⟨_, h, hd⟩ | ⟨_, hd⟩ <;> rw [hd]
                                       · exact h
                                       · decide
    have e1 : drB s z p a b T l = false := by have : (drE s z p b l == 0) = false := by simpa using hne
                                              simp only [drB, this, cond_false]
    rw [e1]
    clear hT e1 h0
    generalize drE s z p b l = y at *
    go_enter Tryd.func36, Tryd.ntmps36
    (go_wp2_with fail); (go_at_call 59); (refine (hc _ _ (hR.keep ((((Keep.refl _).alloc _).alloc _).alloc _)) (((Bx.new _ _ _).alloc _).alloc _) (Bx.new2 _ _ _ _ _)).mono ?_); rintro e w1 ⟨rfl, hk1⟩
    go_wp2
    go_ret2; exact ⟨rfl, (by ((repeat (first | (with_reducible assumption) | ((with_reducible refine Keep.setCell ?_ ?_ _); rotate_left; focus (first | omega | (simp; done) | (simp; omega))) | (with_reducible refine Keep.alloc ?_ _) | (with_reducible refine Keep.drewN ?_ _) | (with_reducible refine Keep.drew ?_) | (with_reducible exact Keep.refl _) | refine Keep.trans ?_ (by with_reducible assumption) | exact Keep.refl _ | assumption))))⟩
end Go.Proofs.YtihebflgceljfaaDoor

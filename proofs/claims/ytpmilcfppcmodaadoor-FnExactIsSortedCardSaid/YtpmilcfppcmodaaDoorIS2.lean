/- Is a deck sorted: the two functions and the law. -/
import Derived.Test.YtpmilcfppcmodaaDoorIS
import Derived.Test.YtpmilcfppcmodaaDoorDL5
import Derived.Test.YtpmilcfppcmodaaDoorW8
set_option linter.unusedVariables false
set_option linter.unusedSimpArgs false
namespace Go.Proofs.YtpmilcfppcmodaaDoor
open Go.RowKit Go.Shelf
set_option maxHeartbeats 4000000
set_option maxRecDepth 20000
def isB (l : List Cd) (s : ByteArray) (k st sz : Int) : Bool := cond (dkB l) (cond (fieldB s k st sz) (srtB l (ltC (k, st, sz))) false) false
def isE (l : List Cd) (s : ByteArray) (k st sz : Int) : Int := cond (dkB l) (cond (fieldB s k st sz) 0 1) 1
theorem impl_IsSorted (A : Option Addr) (l : List Cd) (c : Nat) (s : ByteArray) (k st sz : Int) (w : World) (hm : l.length ≤ 9223372036854775807) (hcp : l.length ≤ c) (hz : CSz l) (hR : Rd w A (cds l)) (hs : s.size ≤ 9223372036854775807) (hk : I8 k) (ht : I16 st) (hsz : I16 sz) :
    Calls Tryd.prog 62 #[.slice A l.length c, .agg #[.string s, .int .i8 k, .int .i16 st, .int .i16 sz]] w fun e w' => e = .returned (.tuple #[.bool (isB l s k st sz), .int .i64 (isE l s k st sz)]) ∧ Keep w w' := by
  have hF : Bx (w.alloc (.cells #[.string s, .int .i8 k, .int .i16 st, .int .i16 sz] 89)) w.heap.size #[.string s, .int .i8 k, .int .i16 st, .int .i16 sz] 89 := Bx.new _ _ _
  have hd := impl_isDeck A l c _ hm hcp hz (hR.keep ((Keep.refl _).alloc (.cells #[.string s, .int .i8 k, .int .i16 st, .int .i16 sz] 89)))
  have hQ := Aside.mk (fun W => impl_isField s k st sz W hs hk ht hsz)
  cases h1 : dkB l
  · rw [h1] at hd
    have e0 : isB l s k st sz = false := by simp only [isB, h1, cond_false]
    have e1 : isE l s k st sz = 1 := by simp only [isE, h1, cond_false]
    rw [e0, e1]
    clear hF hQ
    go_enter Tryd.func62, Tryd.ntmps62
    (go_wp2_with fail); (go_at_call 72); (refine (hd).mono ?_); rintro e w1 ⟨rfl, hk1⟩
    go_wp2
    go_ret2; exact ⟨rfl, (by ((repeat (first | (with_reducible assumption) | ((with_reducible refine Keep.setCell ?_ ?_ _); rotate_left; focus (first | omega | (simp; done) | (simp; omega))) | (with_reducible refine Keep.alloc ?_ _) | (with_reducible refine Keep.drewN ?_ _) | (with_reducible refine Keep.drew ?_) | (with_reducible exact Keep.refl _) | refine Keep.trans ?_ (by with_reducible assumption) | exact Keep.refl _ | assumption))))⟩
  · rw [h1] at hd
    cases h2 : fieldB s k st sz
    · have e0 : isB l s k st sz = false := by simp only [isB, h1, h2, cond_false, cond_true]
      have e1 : isE l s k st sz = 1 := by simp only [isE, h1, h2, cond_false, cond_true]
      rw [e0, e1]
      rw [h2] at hQ
      go_enter Tryd.func62, Tryd.ntmps62
      (go_wp2_with fail); (go_at_call 72); (refine (hd).mono ?_); rintro e w1 ⟨rfl, hk1⟩
      obtain ⟨f0, f1, f2, f3, f4, f5, f6, f7, f8⟩ := (hF.keep hk1).four
      (go_wp2_with fail); (go_at_call 112); (refine (hQ.out _).mono ?_); rintro e w2 ⟨rfl, hk2⟩
      clear hF
      go_wp2
      go_ret2; exact ⟨rfl, (by ((repeat (first | (with_reducible assumption) | ((with_reducible refine Keep.setCell ?_ ?_ _); rotate_left; focus (first | omega | (simp; done) | (simp; omega))) | (with_reducible refine Keep.alloc ?_ _) | (with_reducible refine Keep.drewN ?_ _) | (with_reducible refine Keep.drew ?_) | (with_reducible exact Keep.refl _) | refine Keep.trans ?_ (by with_reducible assumption) | exact Keep.refl _ | assumption))))⟩
    · have e0 : isB l s k st sz = srtB l (ltC (k, st, sz)) := by simp only [isB, h1, h2, cond_true]
      have e1 : isE l s k st sz = 0 := by simp only [isE, h1, h2, cond_true]
      rw [e0, e1]
      rw [h2] at hQ
      obtain ⟨u1, u2, u3, u4, u5⟩ := fieldB_use h2
      have hS := Aside.mk (fun W hr => impl_isSorted A l c s k st sz W hm hr (okSz_of h2) ht u2 u3)
      generalize srtB l (ltC (k, st, sz)) = r at *
      clear u1 u2 u3 u4 u5
      go_enter Tryd.func62, Tryd.ntmps62
      (go_wp2_with fail); (go_at_call 72); (refine (hd).mono ?_); rintro e w1 ⟨rfl, hk1⟩
      obtain ⟨f0, f1, f2, f3, f4, f5, f6, f7, f8⟩ := (hF.keep hk1).four
      (go_wp2_with fail); (go_at_call 112); (refine (hQ.out _).mono ?_); rintro e w2 ⟨rfl, hk2⟩
      have hW : Keep w w2 := (by ((repeat (first | (with_reducible assumption) | ((with_reducible refine Keep.setCell ?_ ?_ _); rotate_left; focus (first | omega | (simp; done) | (simp; omega))) | (with_reducible refine Keep.alloc ?_ _) | (with_reducible refine Keep.drewN ?_ _) | (with_reducible refine Keep.drew ?_) | (with_reducible exact Keep.refl _) | refine Keep.trans ?_ (by with_reducible assumption) | exact Keep.refl _ | assumption))))
      obtain ⟨f0, f1, f2, f3, f4, f5, f6, f7, f8⟩ := ((hF.keep hk1).keep hk2).four
      clear hF hk1 hk2 hd
      (go_wp2_with fail); (go_at_call 113); (refine (hS.out _ (hR.keep hW)).mono ?_); rintro e w3 ⟨rfl, hk3⟩
      go_wp2
      go_ret2; exact ⟨rfl, (by ((repeat (first | (with_reducible assumption) | ((with_reducible refine Keep.setCell ?_ ?_ _); rotate_left; focus (first | omega | (simp; done) | (simp; omega))) | (with_reducible refine Keep.alloc ?_ _) | (with_reducible refine Keep.drewN ?_ _) | (with_reducible refine Keep.drew ?_) | (with_reducible exact Keep.refl _) | refine Keep.trans ?_ (by with_reducible assumption) | exact Keep.refl _ | assumption))))⟩
theorem spec_IsSorted (A : Option Addr) (l : List Cd) (c : Nat) (s : ByteArray) (k st sz : Int) (w : World) (hm : l.length ≤ 9223372036854775807) (hz : CSz l) (hR : Rd w A (cds l)) (hs : s.size ≤ 9223372036854775807) (hk : I8 k) (ht : I16 st) (hsz : I16 sz) :
    Calls Tryd.prog 60 #[.slice A l.length c, .agg #[.string s, .int .i8 k, .int .i16 st, .int .i16 sz]] w fun e w' => e = .returned (.tuple #[.bool (isB l s k st sz), .int .i64 (isE l s k st sz)]) ∧ Keep w w' := by
  have hF : Bx (w.alloc (.cells #[.string s, .int .i8 k, .int .i16 st, .int .i16 sz] 89)) w.heap.size #[.string s, .int .i8 k, .int .i16 st, .int .i16 sz] 89 := Bx.new _ _ _
  have hd := spec_l02Ok A l c _ hm hz (hR.keep ((Keep.refl _).alloc (.cells #[.string s, .int .i8 k, .int .i16 st, .int .i16 sz] 89)))
  have hQ := Aside.mk (fun W g o c0 c1 c2 c3 => spec_l01Field s k st sz g o W hs hk ht hsz c0 c1 c2 c3)
  cases h1 : dkB l
  · rw [h1] at hd
    have e0 : isB l s k st sz = false := by simp only [isB, h1, cond_false]
    have e1 : isE l s k st sz = 1 := by simp only [isE, h1, cond_false]
    rw [e0, e1]
    clear hF hQ
    go_enter Tryd.func60, Tryd.ntmps60
    (go_wp2_with fail); (go_at_call 67); (refine (hd).mono ?_); rintro e w1 ⟨rfl, hk1⟩
    go_wp2
    go_ret2; exact ⟨rfl, (by ((repeat (first | (with_reducible assumption) | ((with_reducible refine Keep.setCell ?_ ?_ _); rotate_left; focus (first | omega | (simp; done) | (simp; omega))) | (with_reducible refine Keep.alloc ?_ _) | (with_reducible refine Keep.drewN ?_ _) | (with_reducible refine Keep.drew ?_) | (with_reducible exact Keep.refl _) | refine Keep.trans ?_ (by with_reducible assumption) | exact Keep.refl _ | assumption))))⟩
  · rw [h1] at hd
    cases h2 : fieldB s k st sz
    · have e0 : isB l s k st sz = false := by simp only [isB, h1, h2, cond_false, cond_true]
      have e1 : isE l s k st sz = 1 := by simp only [isE, h1, h2, cond_false, cond_true]
      rw [e0, e1]
      rw [h2] at hQ
      go_enter Tryd.func60, Tryd.ntmps60
      (go_wp2_with fail); (go_at_call 67); (refine (hd).mono ?_); rintro e w1 ⟨rfl, hk1⟩
      have hW : Keep w w1 := (by ((repeat (first | (with_reducible assumption) | ((with_reducible refine Keep.setCell ?_ ?_ _); rotate_left; focus (first | omega | (simp; done) | (simp; omega))) | (with_reducible refine Keep.alloc ?_ _) | (with_reducible refine Keep.drewN ?_ _) | (with_reducible refine Keep.drew ?_) | (with_reducible exact Keep.refl _) | refine Keep.trans ?_ (by with_reducible assumption) | exact Keep.refl _ | assumption))))
      obtain ⟨c0, c1, c2, c3, c4, c5, c6, c7, c8⟩ := (hF.keep hk1).four
      clear hF hk1
      (go_wp2_with fail); (go_at_call 110); (refine (hQ.out _ _ _ c0 c1 c2 c3).mono ?_); rintro e w2 ⟨rfl, hk2⟩
      go_wp2
      go_ret2; exact ⟨rfl, (by ((repeat (first | (with_reducible assumption) | ((with_reducible refine Keep.setCell ?_ ?_ _); rotate_left; focus (first | omega | (simp; done) | (simp; omega))) | (with_reducible refine Keep.alloc ?_ _) | (with_reducible refine Keep.drewN ?_ _) | (with_reducible refine Keep.drew ?_) | (with_reducible exact Keep.refl _) | refine Keep.trans ?_ (by with_reducible assumption) | exact Keep.refl _ | assumption))))⟩
    · have e0 : isB l s k st sz = srtB l (ltC (k, st, sz)) := by simp only [isB, h1, h2, cond_true]
      have e1 : isE l s k st sz = 0 := by simp only [isE, h1, h2, cond_true]
      rw [e0, e1]
      rw [h2] at hQ
      obtain ⟨u1, u2, u3, u4, u5⟩ := fieldB_use h2
      have hS := Aside.mk (fun W g o hr c0 c1 c2 c3 => spec_l02Sorted A l c s k st sz g o W hm hr (okSz_of h2) u2 u3 c0 c1 c2 c3)
      generalize srtB l (ltC (k, st, sz)) = r at *
      clear u1 u2 u3 u4 u5
      go_enter Tryd.func60, Tryd.ntmps60
      (go_wp2_with fail); (go_at_call 67); (refine (hd).mono ?_); rintro e w1 ⟨rfl, hk1⟩
      replace hF := hF.keep hk1
      have hW : Keep w w1 := (by ((repeat (first | (with_reducible assumption) | ((with_reducible refine Keep.setCell ?_ ?_ _); rotate_left; focus (first | omega | (simp; done) | (simp; omega))) | (with_reducible refine Keep.alloc ?_ _) | (with_reducible refine Keep.drewN ?_ _) | (with_reducible refine Keep.drew ?_) | (with_reducible exact Keep.refl _) | refine Keep.trans ?_ (by with_reducible assumption) | exact Keep.refl _ | assumption))))
      obtain ⟨c0, c1, c2, c3, c4, c5, c6, c7, c8⟩ := hF.four
      clear hk1
      (go_wp2_with fail); (go_at_call 110); (refine (hQ.out _ _ _ c0 c1 c2 c3).mono ?_); rintro e w2 ⟨rfl, hk2⟩
      replace hF := hF.keep hk2
      replace hW := hW.trans hk2
      clear c0 c1 c2 c3 c4 c5 c6 c7 c8
      obtain ⟨c0, c1, c2, c3, c4, c5, c6, c7, c8⟩ := hF.four
      clear hF hk2
      (go_wp2_with fail); (go_at_call 111); (refine (hS.out _ _ _ (hR.keep hW) c0 c1 c2 c3).mono ?_); rintro e w3 ⟨rfl, hk3⟩
      go_wp2
      go_ret2; exact ⟨rfl, (by ((repeat (first | (with_reducible assumption) | ((with_reducible refine Keep.setCell ?_ ?_ _); rotate_left; focus (first | omega | (simp; done) | (simp; omega))) | (with_reducible refine Keep.alloc ?_ _) | (with_reducible refine Keep.drewN ?_ _) | (with_reducible refine Keep.drew ?_) | (with_reducible exact Keep.refl _) | refine Keep.trans ?_ (by with_reducible assumption) | exact Keep.refl _ | assumption))))⟩
theorem laws_FnExactIsSorted (A : Option Addr) (l : List Cd) (c : Nat) (s : ByteArray) (k st sz : Int) (w : World) (hl : l.length ≤ 9223372036854775807 ∧ CSz l ∧ Rd w A (cds l)) (hf : s.size ≤ 9223372036854775807 ∧ I8 k ∧ I16 st ∧ I16 sz) :
    Calls Tryd.prog 13 #[.slice A l.length c, .agg #[.string s, .int .i8 k, .int .i16 st, .int .i16 sz]] w fun e w' => e = .returned (.bool true) ∧ Keep w w' := by
  obtain ⟨hl1, hlz, hR⟩ := hl
  obtain ⟨hs, hk, ht, hsz⟩ := hf
  by_cases hn : (1048576 : Int) < (l.length + cSum l : Nat)
  · have e1 := szD_gt hn
    go_enter Tryd.func13, Tryd.ntmps13
    (go_wp2_with fail); (go_at_call 26); (refine (laws_szCardS _ _ _ 1048576 _ (by decide) hl1 hlz (hR.keep ((Keep.refl _).alloc _))).mono ?_); rintro e w1 ⟨rfl, hk1⟩
    rw [e1]
    go_wp2
    go_ret; exact ⟨rfl, (by ((repeat (first | (with_reducible assumption) | ((with_reducible refine Keep.setCell ?_ ?_ _); rotate_left; focus (first | omega | (simp; done) | (simp; omega))) | (with_reducible refine Keep.alloc ?_ _) | (with_reducible refine Keep.drewN ?_ _) | (with_reducible refine Keep.drew ?_) | (with_reducible exact Keep.refl _) | refine Keep.trans ?_ (by with_reducible assumption) | exact Keep.refl _ | assumption))))⟩
  · obtain ⟨left, hleft⟩ : ∃ x, szD 1048576 l = x := ⟨_, rfl⟩
    have e1 : left = 1048576 - (l.length + cSum l : Nat) := by rw [← hleft]; exact szD_le hn
    have hl0 : ¬ left < 0 := by omega
    have hln : l.length ≤ 1048576 := by omega
    have hI := Aside.mk (fun A c W hc hr => impl_IsSorted A l c s k st sz W hl1 hc hlz hr hs hk ht hsz)
    have hJ := Aside.mk (fun A c W hr => spec_IsSorted A l c s k st sz W hl1 hlz hr hs hk ht hsz)
    generalize isB l s k st sz = B at *
    generalize isE l s k st sz = E at *
    have hlb : 0 ≤ left ∧ left ≤ 1048576 := by omega
    clear hn e1
    obtain ⟨lef2, hlef2⟩ : ∃ x, szN left s.size = x := ⟨_, rfl⟩
    go_enter Tryd.func13, Tryd.ntmps13
    (go_wp2_with fail); (go_at_call 26); (refine (laws_szCardS _ _ _ 1048576 _ (by decide) hl1 hlz (hR.keep ((Keep.refl _).alloc _))).mono ?_); rintro e w1 ⟨rfl, hk1⟩
    rw [hleft]
    have hF : Bx w1 w.heap.size #[.string s, .int .i8 k, .int .i16 st, .int .i16 sz] 85 := (Bx.new _ _ _).keep hk1
    have hW : Keep w w1 := (by ((repeat (first | (with_reducible assumption) | ((with_reducible refine Keep.setCell ?_ ?_ _); rotate_left; focus (first | omega | (simp; done) | (simp; omega))) | (with_reducible refine Keep.alloc ?_ _) | (with_reducible refine Keep.drewN ?_ _) | (with_reducible refine Keep.drew ?_) | (with_reducible exact Keep.refl _) | refine Keep.trans ?_ (by with_reducible assumption) | exact Keep.refl _ | assumption))))
    clear hleft hk1
    have hFs := hF.four
    (go_wp2_with fail); (go_at_call 59); (refine (laws_szField _ _ _ _ _ _ hlb hs).mono ?_); rintro e x1 ⟨rfl, hk⟩
    have kk : Keep w1 x1 := (by ((repeat (first | (with_reducible assumption) | ((with_reducible refine Keep.setCell ?_ ?_ _); rotate_left; focus (first | omega | (simp; done) | (simp; omega))) | (with_reducible refine Keep.alloc ?_ _) | (with_reducible refine Keep.drewN ?_ _) | (with_reducible refine Keep.drew ?_) | (with_reducible exact Keep.refl _) | refine Keep.trans ?_ (by with_reducible assumption) | exact Keep.refl _ | assumption))))
    replace hF := hF.keep kk
    replace hW := hW.trans kk
    clear hk kk
    rw [hlef2]
    clear hFs hlef2
    by_cases hl3 : lef2 < 0
    · clear hF
      go_wp2
      go_ret; exact ⟨rfl, (by ((repeat (first | (with_reducible assumption) | ((with_reducible refine Keep.setCell ?_ ?_ _); rotate_left; focus (first | omega | (simp; done) | (simp; omega))) | (with_reducible refine Keep.alloc ?_ _) | (with_reducible refine Keep.drewN ?_ _) | (with_reducible refine Keep.drew ?_) | (with_reducible exact Keep.refl _) | refine Keep.trans ?_ (by with_reducible assumption) | exact Keep.refl _ | assumption))))⟩
    · have hR1 := hR.keep hW
      go_wp2_with fail
      apply wp_region_mono 10 [Fx _, Osl x1.heap.size 108 3 l.length (cds l), Fx _, Fx _, Fx _, Fx _, Fx _, Fx _, Fx _, Fx _] (by kernel_rfl) (by kernel_rfl) (mono_of ⟨Fx.mono _, Osl.mono, Fx.mono _, Fx.mono _, Fx.mono _, Fx.mono _, Fx.mono _, Fx.mono _, Fx.mono _, Fx.mono _, trivial⟩) ?st5 ?tl5
      case st5 =>
        simp only [List.take_succ_cons, List.take_zero, List.drop_succ_cons, List.drop_zero, putAll, Act.put, List.setIfInBounds_toArray, List.set_cons_succ, List.set_cons_zero, Nat.zero_add, Nat.reduceAdd]
        refine steps_cons ?_ (steps_cons ?_ (steps_cons ?_ (steps_cons ?_ (steps_cons ?_ (steps_cons ?_ (steps_cons ?_ (steps_cons ?_ (steps_cons ?_ (steps_cons ?_ steps_nil)))))))))
        all_goals
          intro v w2 hk hd
          obtain ⟨hF_0, hF_1, hF_2, hF_3, hF_4, hF_5, hF_6, hF_7, hF_8⟩ := (hF.keep hk).four
          have hkz := hk.size
          simp [DepsOf, factAt, Fx, Region.binds] at hd
          simp only [factAt, List.getD_cons_zero, List.getD_cons_succ]
          refine Gives.mk ?_
          go_simp
          first | exact ⟨Keep.refl _, Fx.self _ _⟩ | exact ⟨(Keep.refl _).alloc _, _, rfl, Bx.new _ _ _, by first | omega | (simp; omega)⟩ | (exact Keep.refl _) | (go_at_call 61; exact gives_fx (laws_toField _ _ _ _ _)) | ((go_at_call 28; exact gives_osl (laws_toCardS _ _ _ _ hln (hR1.keep hk)) (by omega))) | ((obtain ⟨⟨g, e1, ho⟩, e3⟩ := hd; rw [e1]; (go_at_call 60); exact gives_fx (hJ.out _ _ _ (own_rdc ho))))
      simp only [List.take_succ_cons, List.take_zero, List.drop_succ_cons, List.drop_zero, putAll, Act.put, List.setIfInBounds_toArray, List.set_cons_succ, List.set_cons_zero, Nat.zero_add, Nat.reduceAdd]
      intro v w2 hk hh
      obtain ⟨hF_0, hF_1, hF_2, hF_3, hF_4, hF_5, hF_6, hF_7, hF_8⟩ := (hF.keep hk).four
      have hkz := hk.size
      simp only [Held, factAt, List.getD_cons_zero, List.getD_cons_succ, Fx, true_and] at hh
      obtain ⟨⟨⟨⟨⟨⟨⟨⟨⟨v_0, hO1⟩, v_2⟩, v_3⟩, v_4⟩, v_5⟩, v_6⟩, v_7⟩, v_8⟩, v_9⟩ := hh
      simp only [v_0, v_2, v_3, v_4, v_5, v_6, v_7, v_8, v_9]
      replace hF := hF.keep hk
      replace hW := hW.trans hk
      generalize v 1 = v1 at *
      clear hO1 hk hkz hR1 v_0 v_2 v_3 v_4 v_5 v_6 v_7 v_8 v_9 hF_0 hF_1 hF_2 hF_3 hF_4 hF_5 hF_6 hF_7 hF_8
      (go_wp2_with fail); (go_at_call 28); (refine (laws_toCardS _ _ _ _ hln (hR.keep hW)).mono ?_); rintro e w4 ⟨g4, rfl, ho4, hk⟩
      have kk : Keep w2 w4 := (by ((repeat (first | (with_reducible assumption) | ((with_reducible refine Keep.setCell ?_ ?_ _); rotate_left; focus (first | omega | (simp; done) | (simp; omega))) | (with_reducible refine Keep.alloc ?_ _) | (with_reducible refine Keep.drewN ?_ _) | (with_reducible refine Keep.drew ?_) | (with_reducible exact Keep.refl _) | refine Keep.trans ?_ (by with_reducible assumption) | exact Keep.refl _ | assumption))))
      replace hF := hF.keep kk
      replace hW := hW.trans kk
      clear hk kk
      have hx := Own.new ho4
      clear ho4
      have hFs := hF.four
      (go_wp2_with fail); (go_at_call 61); (refine (laws_toField _ _ _ _ _).mono ?_); rintro e x4 ⟨rfl, hk⟩
      have kk : Keep w4 x4 := (by ((repeat (first | (with_reducible assumption) | ((with_reducible refine Keep.setCell ?_ ?_ _); rotate_left; focus (first | omega | (simp; done) | (simp; omega))) | (with_reducible refine Keep.alloc ?_ _) | (with_reducible refine Keep.drewN ?_ _) | (with_reducible refine Keep.drew ?_) | (with_reducible exact Keep.refl _) | refine Keep.trans ?_ (by with_reducible assumption) | exact Keep.refl _ | assumption))))
      replace hx := hx.keep kk
      replace hW := hW.trans kk
      clear hk kk
      clear hFs
      (go_wp2_with fail); (go_at_call 62); (refine (hI.out _ _ _ (Nat.le_refl _) hx.rd).mono ?_); rintro e w5 ⟨rfl, hk⟩
      have kk : Keep x4 w5 := (by ((repeat (first | (with_reducible assumption) | ((with_reducible refine Keep.setCell ?_ ?_ _); rotate_left; focus (first | omega | (simp; done) | (simp; omega))) | (with_reducible refine Keep.alloc ?_ _) | (with_reducible refine Keep.drewN ?_ _) | (with_reducible refine Keep.drew ?_) | (with_reducible exact Keep.refl _) | refine Keep.trans ?_ (by with_reducible assumption) | exact Keep.refl _ | assumption))))
      replace hx := hx.keep kk
      replace hW := hW.trans kk
      clear hk kk
      (go_wp2_with fail); (go_at_call 28); (refine (laws_toCardS _ _ _ _ hln (hR.keep hW)).mono ?_); rintro e w7 ⟨g7, rfl, ho7, hk⟩
      have kk : Keep w5 w7 := (by ((repeat (first | (with_reducible assumption) | ((with_reducible refine Keep.setCell ?_ ?_ _); rotate_left; focus (first | omega | (simp; done) | (simp; omega))) | (with_reducible refine Keep.alloc ?_ _) | (with_reducible refine Keep.drewN ?_ _) | (with_reducible refine Keep.drew ?_) | (with_reducible exact Keep.refl _) | refine Keep.trans ?_ (by with_reducible assumption) | exact Keep.refl _ | assumption))))
      replace hx := hx.keep kk
      replace hW := hW.trans kk
      clear hk kk
      (go_wp2_with fail); (go_at_call 30); (refine (laws_eqCardS _ _ _ _ _ _ hln hx.rd (own_rdc ho7)).mono ?_); rintro e w8 ⟨rfl, hk⟩
      have kk : Keep w7 w8 := (by ((repeat (first | (with_reducible assumption) | ((with_reducible refine Keep.setCell ?_ ?_ _); rotate_left; focus (first | omega | (simp; done) | (simp; omega))) | (with_reducible refine Keep.alloc ?_ _) | (with_reducible refine Keep.drewN ?_ _) | (with_reducible refine Keep.drew ?_) | (with_reducible exact Keep.refl _) | refine Keep.trans ?_ (by with_reducible assumption) | exact Keep.refl _ | assumption))))
      replace hW := hW.trans kk
      clear hk kk
      clear ho7 hx
      go_wp2
      go_ret; exact ⟨rfl, (by ((repeat (first | (with_reducible assumption) | ((with_reducible refine Keep.setCell ?_ ?_ _); rotate_left; focus (first | omega | (simp; done) | (simp; omega))) | (with_reducible refine Keep.alloc ?_ _) | (with_reducible refine Keep.drewN ?_ _) | (with_reducible refine Keep.drew ?_) | (with_reducible exact Keep.refl _) | refine Keep.trans ?_ (by with_reducible assumption) | exact Keep.refl _ | assumption))))⟩
end Go.Proofs.YtpmilcfppcmodaaDoor

/- The law of what several queries drop. -/
import Derived.Test.YtpmilcfppcmodaaDoorAY
import Derived.Test.YtpmilcfppcmodaaDoorMQ
import Derived.Test.YtpmilcfppcmodaaDoorMB
set_option linter.unusedVariables false
set_option linter.unusedSimpArgs false
namespace Go.Proofs.YtpmilcfppcmodaaDoor
open Go.RowKit Go.Shelf
set_option maxHeartbeats 4000000
set_option maxRecDepth 20000
theorem ayL_len (l : List Cd) (qs : List Qy) : (ayL l qs).length ≤ 80 := by
  unfold ayL
  cases h : ayB l qs
  · simp
  · have h1 : dkB l = true := by unfold ayB at h; simp at h; exact h.1
    have := anN_len l qs l.length
    have := dkB_80 h1
    simp [ansL]; omega
theorem laws_FnExactAnyOf (A : Option Addr) (l : List Cd) (c : Nat) (B : Option Addr) (qs : List Qy) (d : Nat) (w : World) (hl : l.length ≤ 9223372036854775807 ∧ CSz l ∧ Rd w A (cds l)) (hh : qs.length ≤ 9223372036854775807 ∧ Rd w B (qys qs)) :
    Calls Tryd.prog 12 #[.slice A l.length c, .slice B qs.length d] w fun e w' => e = .returned (.bool true) ∧ Keep w w' := by
  obtain ⟨hl1, hlz, hR⟩ := hl
  obtain ⟨hm2, hS⟩ := hh
  by_cases hn : (1048576 : Int) < (l.length + cSum l : Nat)
  · have e1 := szD_gt hn
    go_enter Tryd.func12, Tryd.ntmps12
    (go_wp2_with fail); (go_at_call 26); (refine (laws_szCardS _ _ _ 1048576 _ (by decide) hl1 hlz hR).mono ?_); rintro e w1 ⟨rfl, hk1⟩
    rw [e1]
    go_wp2
    go_ret; exact ⟨rfl, (by ((repeat (first | (with_reducible assumption) | ((with_reducible refine Keep.setCell ?_ ?_ _); rotate_left; focus (first | omega | (simp; done) | (simp; omega))) | (with_reducible refine Keep.alloc ?_ _) | (with_reducible refine Keep.drewN ?_ _) | (with_reducible refine Keep.drew ?_) | (with_reducible exact Keep.refl _) | refine Keep.trans ?_ (by with_reducible assumption) | exact Keep.refl _ | assumption))))⟩
  · obtain ⟨left, hleft⟩ : ∃ x, szD 1048576 l = x := ⟨_, rfl⟩
    have e1 : left = 1048576 - (l.length + cSum l : Nat) := by rw [← hleft]; exact szD_le hn
    have hl0 : ¬ left < 0 := by omega
    by_cases hsn' : left < qs.length
    · have e2 := laws_szQueryS B qs.length d left
      rw [if_pos hsn'] at e2
      have hlf : 0 ≤ left ∧ left ≤ 1048576 := by omega
      clear e1
      go_enter Tryd.func12, Tryd.ntmps12
      (go_wp2_with fail); (go_at_call 26); (refine (laws_szCardS _ _ _ 1048576 _ (by decide) hl1 hlz hR).mono ?_); rintro e w1 ⟨rfl, hk1⟩
      rw [hleft]
      (go_wp2_with fail); (go_at_call 53); (refine (e2 _ hlf hm2).mono ?_); rintro e w2 ⟨rfl, hk2⟩
      go_wp2
      go_ret; exact ⟨rfl, (by ((repeat (first | (with_reducible assumption) | ((with_reducible refine Keep.setCell ?_ ?_ _); rotate_left; focus (first | omega | (simp; done) | (simp; omega))) | (with_reducible refine Keep.alloc ?_ _) | (with_reducible refine Keep.drewN ?_ _) | (with_reducible refine Keep.drew ?_) | (with_reducible exact Keep.refl _) | refine Keep.trans ?_ (by with_reducible assumption) | exact Keep.refl _ | assumption))))⟩
    · have e2 := laws_szQueryS B qs.length d left
      rw [if_neg hsn'] at e2
      have hlf : 0 ≤ left ∧ left ≤ 1048576 := by omega
      obtain ⟨lf2, hlf2⟩ : ∃ x, left - (qs.length : Int) = x := ⟨_, rfl⟩
      have hl2 : ¬ lf2 < 0 := by omega
      have hsn : qs.length ≤ 1048576 := by omega
      have hln : l.length ≤ 1048576 := by omega
      have hpl := ayL_len l qs
      have hI := Aside.mk (fun A B c d W hc hr hq => impl_AnyOf A l c B qs d W hl1 hc hlz hm2 hr hq)
      have hJ := Aside.mk (fun A B c d W hr hq => spec_AnyOf A l c B qs d W hl1 hlz hm2 hr hq)
      generalize ayL l qs = L at *
      generalize ayE l qs = E at *
      have hpn : L.length ≤ 1048576 := by omega
      replace e2 := Aside.mk e2
      clear hn e1 hpl hsn'
      go_enter Tryd.func12, Tryd.ntmps12
      (go_wp2_with fail); (go_at_call 26); (refine (laws_szCardS _ _ _ 1048576 _ (by decide) hl1 hlz hR).mono ?_); rintro e w0 ⟨rfl, hW⟩
      rw [hleft]
      clear hleft
      (go_wp2_with fail); (go_at_call 53); (refine (e2.out _ hlf hm2).mono ?_); rintro e w1 ⟨rfl, hk⟩
      have kk : Keep w0 w1 := (by ((repeat (first | (with_reducible assumption) | ((with_reducible refine Keep.setCell ?_ ?_ _); rotate_left; focus (first | omega | (simp; done) | (simp; omega))) | (with_reducible refine Keep.alloc ?_ _) | (with_reducible refine Keep.drewN ?_ _) | (with_reducible refine Keep.drew ?_) | (with_reducible exact Keep.refl _) | refine Keep.trans ?_ (by with_reducible assumption) | exact Keep.refl _ | assumption))))
      replace hW := hW.trans kk
      clear hk kk
      rw [hlf2]
      clear hlf hlf2
      (go_wp2_with fail); (go_at_call 28); (refine (laws_toCardS _ _ _ _ hln (hR.keep hW)).mono ?_); rintro e w2 ⟨g2, rfl, ho2, hk⟩
      have kk : Keep w1 w2 := (by ((repeat (first | (with_reducible assumption) | ((with_reducible refine Keep.setCell ?_ ?_ _); rotate_left; focus (first | omega | (simp; done) | (simp; omega))) | (with_reducible refine Keep.alloc ?_ _) | (with_reducible refine Keep.drewN ?_ _) | (with_reducible refine Keep.drew ?_) | (with_reducible exact Keep.refl _) | refine Keep.trans ?_ (by with_reducible assumption) | exact Keep.refl _ | assumption))))
      replace hW := hW.trans kk
      clear hk kk
      have hx0 := Own.new ho2
      clear ho2
      (go_wp2_with fail); (go_at_call 55); (refine (laws_toQueryS _ _ _ _ hsn (hS.keep hW)).mono ?_); rintro e x2 ⟨j2, rfl, ho2, hk⟩
      have kk : Keep w2 x2 := (by ((repeat (first | (with_reducible assumption) | ((with_reducible refine Keep.setCell ?_ ?_ _); rotate_left; focus (first | omega | (simp; done) | (simp; omega))) | (with_reducible refine Keep.alloc ?_ _) | (with_reducible refine Keep.drewN ?_ _) | (with_reducible refine Keep.drew ?_) | (with_reducible exact Keep.refl _) | refine Keep.trans ?_ (by with_reducible assumption) | exact Keep.refl _ | assumption))))
      replace hx0 := hx0.keep kk
      replace hW := hW.trans kk
      clear hk kk
      have hy0 := Own.new ho2
      clear ho2
      (go_wp2_with fail); (go_at_call 54); (refine (hJ.out _ _ _ _ _ hx0.rd hy0.rd).mono ?_); rintro e w3 ⟨v3, rfl, o3, hk⟩
      have kk : Keep x2 w3 := (by ((repeat (first | (with_reducible assumption) | ((with_reducible refine Keep.setCell ?_ ?_ _); rotate_left; focus (first | omega | (simp; done) | (simp; omega))) | (with_reducible refine Keep.alloc ?_ _) | (with_reducible refine Keep.drewN ?_ _) | (with_reducible refine Keep.drew ?_) | (with_reducible exact Keep.refl _) | refine Keep.trans ?_ (by with_reducible assumption) | exact Keep.refl _ | assumption))))
      replace hW := hW.trans kk
      clear hk kk
      have hw := Own.new o3
      obtain ⟨A3, c3, rfl⟩ := hw.form
      clear hx0 hy0 o3
      have z3 := hW.size
      have s3 := hW
      (go_wp2_with fail); (go_at_call 28); (refine (laws_toCardS _ _ _ _ hln (hR.keep hW)).mono ?_); rintro e w4 ⟨g4, rfl, ho4, hk⟩
      have kk : Keep w3 w4 := (by ((repeat (first | (with_reducible assumption) | ((with_reducible refine Keep.setCell ?_ ?_ _); rotate_left; focus (first | omega | (simp; done) | (simp; omega))) | (with_reducible refine Keep.alloc ?_ _) | (with_reducible refine Keep.drewN ?_ _) | (with_reducible refine Keep.drew ?_) | (with_reducible exact Keep.refl _) | refine Keep.trans ?_ (by with_reducible assumption) | exact Keep.refl _ | assumption))))
      replace hw := hw.keep kk
      replace hW := hW.trans kk
      clear hk kk
      have hz34 : w3.heap.size ≤ w4.heap.size := by have := ho4.lt g4 rfl; omega
      clear s3
      have hx := Own.new ho4
      clear ho4
      have s4 := hW.size
      (go_wp2_with fail); (go_at_call 55); (refine (laws_toQueryS _ _ _ _ hsn (hS.keep hW)).mono ?_); rintro e x4 ⟨j4, rfl, ho4, hk⟩
      have kk : Keep w4 x4 := (by ((repeat (first | (with_reducible assumption) | ((with_reducible refine Keep.setCell ?_ ?_ _); rotate_left; focus (first | omega | (simp; done) | (simp; omega))) | (with_reducible refine Keep.alloc ?_ _) | (with_reducible refine Keep.drewN ?_ _) | (with_reducible refine Keep.drew ?_) | (with_reducible exact Keep.refl _) | refine Keep.trans ?_ (by with_reducible assumption) | exact Keep.refl _ | assumption))))
      replace hw := hw.keep kk
      replace hx := hx.keep kk
      replace hW := hW.trans kk
      clear hk kk
      have hz44 : w4.heap.size ≤ x4.heap.size := by have := ho4.lt; have := ho4.2; rcases this with ⟨h1, _⟩ | ⟨g, cap, cur, h1, h2, h3, _⟩ <;> first | (simp at h1; done) | (simp at h1; obtain ⟨rfl, _⟩ := h1; have := (Array.getElem?_eq_some_iff.1 h3).1; omega)
      have hy := Own.new ho4
      clear ho4
      have z4 := hW.size
      (go_wp2_with fail); (go_at_call 56); (refine (hI.out _ _ _ _ _ (Nat.le_refl _) hx.rd hy.rd).mono ?_); rintro e w5 ⟨v5, rfl, o5, hk⟩
      have kk : Keep x4 w5 := (by ((repeat (first | (with_reducible assumption) | ((with_reducible refine Keep.setCell ?_ ?_ _); rotate_left; focus (first | omega | (simp; done) | (simp; omega))) | (with_reducible refine Keep.alloc ?_ _) | (with_reducible refine Keep.drewN ?_ _) | (with_reducible refine Keep.drew ?_) | (with_reducible exact Keep.refl _) | refine Keep.trans ?_ (by with_reducible assumption) | exact Keep.refl _ | assumption))))
      replace hw := hw.keep kk
      replace hx := hx.keep kk
      replace hy := hy.keep kk
      replace hW := hW.trans kk
      clear hk kk
      have hg := Own.new o5
      obtain ⟨A5, c5, rfl⟩ := hg.form
      clear o5
      (go_wp2_with fail); (go_at_call 47); (refine (laws_eqInt64S _ _ _ _ _ _ hpn hg.rd hw.rd).mono ?_); rintro e w6 ⟨rfl, hk⟩
      have kk : Keep w5 w6 := (by ((repeat (first | (with_reducible assumption) | ((with_reducible refine Keep.setCell ?_ ?_ _); rotate_left; focus (first | omega | (simp; done) | (simp; omega))) | (with_reducible refine Keep.alloc ?_ _) | (with_reducible refine Keep.drewN ?_ _) | (with_reducible refine Keep.drew ?_) | (with_reducible exact Keep.refl _) | refine Keep.trans ?_ (by with_reducible assumption) | exact Keep.refl _ | assumption))))
      replace hw := hw.keep kk
      replace hx := hx.keep kk
      replace hy := hy.keep kk
      replace hg := hg.keep kk
      replace hW := hW.trans kk
      clear hk kk
      (go_wp2_with fail); (go_at_call 28); (refine (laws_toCardS _ _ _ _ hln (hR.keep hW)).mono ?_); rintro e w7 ⟨g7, rfl, ho7, hk⟩
      have kk : Keep w6 w7 := (by ((repeat (first | (with_reducible assumption) | ((with_reducible refine Keep.setCell ?_ ?_ _); rotate_left; focus (first | omega | (simp; done) | (simp; omega))) | (with_reducible refine Keep.alloc ?_ _) | (with_reducible refine Keep.drewN ?_ _) | (with_reducible refine Keep.drew ?_) | (with_reducible exact Keep.refl _) | refine Keep.trans ?_ (by with_reducible assumption) | exact Keep.refl _ | assumption))))
      replace hw := hw.keep kk
      replace hx := hx.keep kk
      replace hy := hy.keep kk
      replace hg := hg.keep kk
      replace hW := hW.trans kk
      clear hk kk
      (go_wp2_with fail); (go_at_call 30); (refine (laws_eqCardS _ _ _ _ _ _ hln hx.rd (own_rdc ho7)).mono ?_); rintro e w8 ⟨rfl, hk⟩
      have kk : Keep w7 w8 := (by ((repeat (first | (with_reducible assumption) | ((with_reducible refine Keep.setCell ?_ ?_ _); rotate_left; focus (first | omega | (simp; done) | (simp; omega))) | (with_reducible refine Keep.alloc ?_ _) | (with_reducible refine Keep.drewN ?_ _) | (with_reducible refine Keep.drew ?_) | (with_reducible exact Keep.refl _) | refine Keep.trans ?_ (by with_reducible assumption) | exact Keep.refl _ | assumption))))
      replace hw := hw.keep kk
      replace hx := hx.keep kk
      replace hy := hy.keep kk
      replace hg := hg.keep kk
      replace hW := hW.trans kk
      clear hk kk
      clear ho7
      (go_wp2_with fail); (go_at_call 55); (refine (laws_toQueryS _ _ _ _ hsn (hS.keep hW)).mono ?_); rintro e x7 ⟨g7, rfl, ho7, hk⟩
      have kk : Keep w8 x7 := (by ((repeat (first | (with_reducible assumption) | ((with_reducible refine Keep.setCell ?_ ?_ _); rotate_left; focus (first | omega | (simp; done) | (simp; omega))) | (with_reducible refine Keep.alloc ?_ _) | (with_reducible refine Keep.drewN ?_ _) | (with_reducible refine Keep.drew ?_) | (with_reducible exact Keep.refl _) | refine Keep.trans ?_ (by with_reducible assumption) | exact Keep.refl _ | assumption))))
      replace hw := hw.keep kk
      replace hx := hx.keep kk
      replace hy := hy.keep kk
      replace hg := hg.keep kk
      replace hW := hW.trans kk
      clear hk kk
      (go_wp2_with fail); (go_at_call 57); (refine (laws_eqQueryS _ _ _ _ _ _ hsn hy.rd (Own.new ho7).rd).mono ?_); rintro e x8 ⟨rfl, hk⟩
      have kk : Keep x7 x8 := (by ((repeat (first | (with_reducible assumption) | ((with_reducible refine Keep.setCell ?_ ?_ _); rotate_left; focus (first | omega | (simp; done) | (simp; omega))) | (with_reducible refine Keep.alloc ?_ _) | (with_reducible refine Keep.drewN ?_ _) | (with_reducible refine Keep.drew ?_) | (with_reducible exact Keep.refl _) | refine Keep.trans ?_ (by with_reducible assumption) | exact Keep.refl _ | assumption))))
      replace hw := hw.keep kk
      replace hx := hx.keep kk
      replace hy := hy.keep kk
      replace hg := hg.keep kk
      replace hW := hW.trans kk
      clear hk kk
      clear ho7
      (go_wp2_with fail); (go_at_call 40); (refine (laws_markCardS _ _ _ _ _ 1 _ hln (by decide) (by decide) hx.out).mono ?_); rintro e w9 ⟨rfl, om, hgr⟩
      replace hw := hw.other hgr (fun k hk => .inr (hx.lt k hk).1)
      replace hg := hg.other hgr (fun k hk => .inl (Nat.lt_of_lt_of_le (hx.lt k hk).2 hz44))
      replace hy := hy.other hgr (fun k hk => .inl (hx.lt k hk).2)
      replace hW := hx.keepW hW hgr z3
      clear hx om hgr
      (go_wp2_with fail); (go_at_call 58); (refine (laws_markQueryS _ _ _ _ _ (1 + 3 * l.length) _ hsn (by omega) (by omega) hy.out).mono ?_); rintro e x9 ⟨rfl, hgr⟩
      replace hw := hw.other hgr (fun k hk => .inr (Nat.le_trans hz34 (hy.lt k hk).1))
      replace hg := hg.other hgr (fun k hk => .inl (hy.lt k hk).2)
      replace hW := hy.keepW hW hgr s4
      clear hy hgr
      (go_wp2_with fail); (go_at_call 47); (refine (laws_eqInt64S _ _ _ _ _ _ hpn hg.rd hw.rd).mono ?_); rintro e w10 ⟨rfl, hk⟩
      have kk : Keep x9 w10 := (by ((repeat (first | (with_reducible assumption) | ((with_reducible refine Keep.setCell ?_ ?_ _); rotate_left; focus (first | omega | (simp; done) | (simp; omega))) | (with_reducible refine Keep.alloc ?_ _) | (with_reducible refine Keep.drewN ?_ _) | (with_reducible refine Keep.drew ?_) | (with_reducible exact Keep.refl _) | refine Keep.trans ?_ (by with_reducible assumption) | exact Keep.refl _ | assumption))))
      replace hw := hw.keep kk
      replace hg := hg.keep kk
      replace hW := hW.trans kk
      clear hk kk
      (go_wp2_with fail); (go_at_call 48); (refine (laws_markInt64B _ _ _ _ _ 1 _ hpn (by decide) (by decide) hg.out).mono ?_); rintro e w11 ⟨rfl, om, hgr⟩
      have hm := Own.mk om hg.lt
      replace hw := hw.other hgr (fun k hk => .inr (Nat.le_trans hz34 (Nat.le_trans hz44 (hg.lt k hk).1)))
      replace hW := hg.keepW hW hgr z4
      clear hg om hgr
      (go_wp2_with fail); (go_at_call 49); (refine (laws_heldInt64S _ _ _ 1 _ hpn (by decide) (by decide) hm.rd).mono ?_); rintro e w12 ⟨rfl, hk⟩
      have kk : Keep w11 w12 := (by ((repeat (first | (with_reducible assumption) | ((with_reducible refine Keep.setCell ?_ ?_ _); rotate_left; focus (first | omega | (simp; done) | (simp; omega))) | (with_reducible refine Keep.alloc ?_ _) | (with_reducible refine Keep.drewN ?_ _) | (with_reducible refine Keep.drew ?_) | (with_reducible exact Keep.refl _) | refine Keep.trans ?_ (by with_reducible assumption) | exact Keep.refl _ | assumption))))
      replace hw := hw.keep kk
      replace hm := hm.keep kk
      replace hW := hW.trans kk
      clear hk kk
      (go_wp2_with fail); (go_at_call 28); (refine (laws_toCardS _ _ _ _ hln (hR.keep hW)).mono ?_); rintro e w13 ⟨g13, rfl, ho13, hk⟩
      have kk : Keep w12 w13 := (by ((repeat (first | (with_reducible assumption) | ((with_reducible refine Keep.setCell ?_ ?_ _); rotate_left; focus (first | omega | (simp; done) | (simp; omega))) | (with_reducible refine Keep.alloc ?_ _) | (with_reducible refine Keep.drewN ?_ _) | (with_reducible refine Keep.drew ?_) | (with_reducible exact Keep.refl _) | refine Keep.trans ?_ (by with_reducible assumption) | exact Keep.refl _ | assumption))))
      replace hw := hw.keep kk
      replace hm := hm.keep kk
      replace hW := hW.trans kk
      clear hk kk
      have hx := Own.new ho13
      clear ho13
      (go_wp2_with fail); (go_at_call 55); (refine (laws_toQueryS _ _ _ _ hsn (hS.keep hW)).mono ?_); rintro e x13 ⟨j13, rfl, ho13, hk⟩
      have kk : Keep w13 x13 := (by ((repeat (first | (with_reducible assumption) | ((with_reducible refine Keep.setCell ?_ ?_ _); rotate_left; focus (first | omega | (simp; done) | (simp; omega))) | (with_reducible refine Keep.alloc ?_ _) | (with_reducible refine Keep.drewN ?_ _) | (with_reducible refine Keep.drew ?_) | (with_reducible exact Keep.refl _) | refine Keep.trans ?_ (by with_reducible assumption) | exact Keep.refl _ | assumption))))
      replace hw := hw.keep kk
      replace hm := hm.keep kk
      replace hx := hx.keep kk
      replace hW := hW.trans kk
      clear hk kk
      have hy := Own.new ho13
      clear ho13
      (go_wp2_with fail); (go_at_call 56); (refine (hI.out _ _ _ _ _ (Nat.le_refl _) hx.rd hy.rd).mono ?_); rintro e w14 ⟨v14, rfl, o14, hk⟩
      have kk : Keep x13 w14 := (by ((repeat (first | (with_reducible assumption) | ((with_reducible refine Keep.setCell ?_ ?_ _); rotate_left; focus (first | omega | (simp; done) | (simp; omega))) | (with_reducible refine Keep.alloc ?_ _) | (with_reducible refine Keep.drewN ?_ _) | (with_reducible refine Keep.drew ?_) | (with_reducible exact Keep.refl _) | refine Keep.trans ?_ (by with_reducible assumption) | exact Keep.refl _ | assumption))))
      replace hw := hw.keep kk
      replace hm := hm.keep kk
      replace hW := hW.trans kk
      clear hk kk
      have hg := Own.new o14
      obtain ⟨A14, c14, rfl⟩ := hg.form
      clear o14 hx hy
      (go_wp2_with fail); (go_at_call 47); (refine (laws_eqInt64S _ _ _ _ _ _ hpn hg.rd hw.rd).mono ?_); rintro e w15 ⟨rfl, hk⟩
      have kk : Keep w14 w15 := (by ((repeat (first | (with_reducible assumption) | ((with_reducible refine Keep.setCell ?_ ?_ _); rotate_left; focus (first | omega | (simp; done) | (simp; omega))) | (with_reducible refine Keep.alloc ?_ _) | (with_reducible refine Keep.drewN ?_ _) | (with_reducible refine Keep.drew ?_) | (with_reducible exact Keep.refl _) | refine Keep.trans ?_ (by with_reducible assumption) | exact Keep.refl _ | assumption))))
      replace hm := hm.keep kk
      replace hW := hW.trans kk
      clear hk kk
      (go_wp2_with fail); (go_at_call 49); (refine (laws_heldInt64S _ _ _ 1 _ hpn (by decide) (by decide) hm.rd).mono ?_); rintro e w16 ⟨rfl, hk⟩
      have kk : Keep w15 w16 := (by ((repeat (first | (with_reducible assumption) | ((with_reducible refine Keep.setCell ?_ ?_ _); rotate_left; focus (first | omega | (simp; done) | (simp; omega))) | (with_reducible refine Keep.alloc ?_ _) | (with_reducible refine Keep.drewN ?_ _) | (with_reducible refine Keep.drew ?_) | (with_reducible exact Keep.refl _) | refine Keep.trans ?_ (by with_reducible assumption) | exact Keep.refl _ | assumption))))
      replace hW := hW.trans kk
      clear hk kk
      clear hw hg hm
      go_wp2
      go_ret; exact ⟨rfl, (by ((repeat (first | (with_reducible assumption) | ((with_reducible refine Keep.setCell ?_ ?_ _); rotate_left; focus (first | omega | (simp; done) | (simp; omega))) | (with_reducible refine Keep.alloc ?_ _) | (with_reducible refine Keep.drewN ?_ _) | (with_reducible refine Keep.drew ?_) | (with_reducible exact Keep.refl _) | refine Keep.trans ?_ (by with_reducible assumption) | exact Keep.refl _ | assumption))))⟩
end Go.Proofs.YtpmilcfppcmodaaDoor

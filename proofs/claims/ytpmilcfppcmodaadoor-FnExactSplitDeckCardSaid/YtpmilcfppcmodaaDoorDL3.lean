/- A deck that is split: the walks and the law. -/
import Derived.Test.YtpmilcfppcmodaaDoorDL2
set_option linter.unusedVariables false
set_option linter.unusedSimpArgs false
namespace Go.Proofs.YtpmilcfppcmodaaDoor
open Go.RowKit
set_option maxHeartbeats 4000000
set_option maxRecDepth 20000
theorem impl_SplitDeck (A : Option Addr) (l : List Cd) (c : Nat) (h : Int) (w : World) (hm : l.length ≤ 9223372036854775807) (hcp : l.length ≤ c) (hz : CSz l) (hR : Rd w A (cds l)) :
    Calls Tryd.prog 43 #[.slice A l.length c, .int .i64 h] w fun e w' => ∃ v1 v2, e = .returned (.tuple #[v1, v2, .int .i64 (pnE l h)]) ∧ w'.ownsRow w.heap.size 108 3 v1 (spS l h).length (cds (spS l h)) ∧ w'.ownsRow w.heap.size 108 3 v2 (spD l h).length (cds (spD l h)) ∧ (∀ k, v1.ownBlock = some k → v2.ownBlock ≠ some k) ∧ Keep w w' := by
  cases h1 : dkB l
  · have e0 : pnE l h = 1 := by simp only [pnE, h1, cond_false]
    have e1 : spS l h = [] := by simp only [spS, h1, cond_false]
    have e2 : spD l h = [] := by simp only [spD, h1, cond_false]
    have hd := impl_isDeck A l c w hm hcp hz hR
    rw [h1] at hd
    rw [e0, e1, e2]
    clear e0 e1 e2
    go_enter Tryd.func43, Tryd.ntmps43
    (go_wp2_with fail); (go_at_call 72); (refine (hd).mono ?_); rintro e w1 ⟨rfl, hk1⟩
    go_wp2
    apply bodyPost_ret; rotate_left; rfl; exact ⟨_, _, rfl, World.ownsRow_nil _ _ _ _, World.ownsRow_nil _ _ _ _, fun k hk => (by simp [Value.ownBlock] at hk), (by ((repeat (first | (with_reducible assumption) | ((with_reducible refine Keep.setCell ?_ ?_ _); rotate_left; focus (first | omega | (simp; done) | (simp; omega))) | (with_reducible refine Keep.alloc ?_ _) | (with_reducible refine Keep.drewN ?_ _) | (with_reducible refine Keep.drew ?_) | (with_reducible exact Keep.refl _) | refine Keep.trans ?_ (by with_reducible assumption) | exact Keep.refl _ | assumption))))⟩; simp [results, Tryd.results43, go_sem]
  · cases h2 : holeB h
    · have e0 : pnE l h = 2 := by simp only [pnE, h1, h2, cond_false, cond_true]
      have e1 : spS l h = [] := by simp only [spS, h1, h2, cond_false, cond_true]
      have e2 : spD l h = [] := by simp only [spD, h1, h2, cond_false, cond_true]
      have hd := impl_isDeck A l c w hm hcp hz hR
      rw [h1] at hd
      rw [e0, e1, e2]
      clear e0 e1 e2
      go_enter Tryd.func43, Tryd.ntmps43
      (go_wp2_with fail); (go_at_call 72); (refine (hd).mono ?_); rintro e w1 ⟨rfl, hk1⟩
      (go_wp2_with fail); (go_at_call 84); (refine (impl_isHole _ _).mono ?_); rintro e w2 ⟨rfl, hk2⟩
      rw [h2]
      go_wp2
      apply bodyPost_ret; rotate_left; rfl; exact ⟨_, _, rfl, World.ownsRow_nil _ _ _ _, World.ownsRow_nil _ _ _ _, fun k hk => (by simp [Value.ownBlock] at hk), (by ((repeat (first | (with_reducible assumption) | ((with_reducible refine Keep.setCell ?_ ?_ _); rotate_left; focus (first | omega | (simp; done) | (simp; omega))) | (with_reducible refine Keep.alloc ?_ _) | (with_reducible refine Keep.drewN ?_ _) | (with_reducible refine Keep.drew ?_) | (with_reducible exact Keep.refl _) | refine Keep.trans ?_ (by with_reducible assumption) | exact Keep.refl _ | assumption))))⟩; simp [results, Tryd.results43, go_sem]
    · have e0 : pnE l h = 0 := by simp only [pnE, h1, h2, cond_false, cond_true]
      have e1 : spS l h = stL h l := by simp only [spS, h1, h2, cond_false, cond_true]
      have e2 : spD l h = drL h l := by simp only [spD, h1, h2, cond_false, cond_true]
      have h80 := dkB_80 h1
      have hho := holeB_iff.1 h2
      have hsp := fun W k => impl_split A l c h W (by omega) hho k
      have hd := impl_isDeck A l c w hm hcp hz hR
      rw [h1] at hd
      rw [e0, e1, e2]
      clear e0 e1 e2
      generalize stL h l = L1 at *
      generalize drL h l = L2 at *
      go_enter Tryd.func43, Tryd.ntmps43
      (go_wp2_with fail); (go_at_call 72); (refine (hd).mono ?_); rintro e w1 ⟨rfl, hk1⟩
      (go_wp2_with fail); (go_at_call 84); (refine (impl_isHole _ _).mono ?_); rintro e w2 ⟨rfl, hk2⟩
      rw [h2]
      have k2 : Keep w w2 := (by ((repeat (first | (with_reducible assumption) | ((with_reducible refine Keep.setCell ?_ ?_ _); rotate_left; focus (first | omega | (simp; done) | (simp; omega))) | (with_reducible refine Keep.alloc ?_ _) | (with_reducible refine Keep.drewN ?_ _) | (with_reducible refine Keep.drew ?_) | (with_reducible exact Keep.refl _) | refine Keep.trans ?_ (by with_reducible assumption) | exact Keep.refl _ | assumption))))
      clear hk1 hk2
      (go_wp2_with fail); (go_at_call 95); (refine (hsp _ (hR.keep k2)).mono ?_); rintro e w3 ⟨v1, v2, rfl, ⟨g1, c1, g2, c2, rfl, rfl, ho1, ho2, hne, hg1, hg2⟩, hk3⟩
      have k3 : Keep w w3 := (by ((repeat (first | (with_reducible assumption) | ((with_reducible refine Keep.setCell ?_ ?_ _); rotate_left; focus (first | omega | (simp; done) | (simp; omega))) | (with_reducible refine Keep.alloc ?_ _) | (with_reducible refine Keep.drewN ?_ _) | (with_reducible refine Keep.drew ?_) | (with_reducible exact Keep.refl _) | refine Keep.trans ?_ (by with_reducible assumption) | exact Keep.refl _ | assumption))))
      have zz2 := k2.size
      have HT1 := Aside.mk (own_base ho1 zz2)
      have HT2 := Aside.mk (own_base ho2 zz2)
      clear ho1 ho2 hk3 k2
      go_wp2
      apply bodyPost_ret; rotate_left; rfl; exact ⟨_, _, rfl, HT1.out, HT2.out, fun k hk => (by simp [Value.ownBlock] at hk ⊢; omega), (by ((repeat (first | (with_reducible assumption) | ((with_reducible refine Keep.setCell ?_ ?_ _); rotate_left; focus (first | omega | (simp; done) | (simp; omega))) | (with_reducible refine Keep.alloc ?_ _) | (with_reducible refine Keep.drewN ?_ _) | (with_reducible refine Keep.drew ?_) | (with_reducible exact Keep.refl _) | refine Keep.trans ?_ (by with_reducible assumption) | exact Keep.refl _ | assumption))))⟩; simp [results, Tryd.results43, go_sem]
theorem spec_SplitDeck (A : Option Addr) (l : List Cd) (c : Nat) (h : Int) (w : World) (hm : l.length ≤ 9223372036854775807) (hcp : l.length ≤ c) (hz : CSz l) (hR : Rd w A (cds l)) :
    Calls Tryd.prog 42 #[.slice A l.length c, .int .i64 h] w fun e w' => ∃ v1 v2, e = .returned (.tuple #[v1, v2, .int .i64 (pnE l h)]) ∧ w'.ownsRow w.heap.size 108 3 v1 (spS l h).length (cds (spS l h)) ∧ w'.ownsRow w.heap.size 108 3 v2 (spD l h).length (cds (spD l h)) ∧ (∀ k, v1.ownBlock = some k → v2.ownBlock ≠ some k) ∧ Keep w w' := by
  cases h1 : dkB l
  · have e0 : pnE l h = 1 := by simp only [pnE, h1, cond_false]
    have e1 : spS l h = [] := by simp only [spS, h1, cond_false]
    have e2 : spD l h = [] := by simp only [spD, h1, cond_false]
    have hd := spec_l02Asked A l c h w hm hz hR
    rw [e0] at hd
    rw [e0, e1, e2]
    clear e0 e1 e2
    go_enter Tryd.func42, Tryd.ntmps42
    (go_wp2_with fail); (go_at_call 93); (refine (hd).mono ?_); rintro e w1 ⟨rfl, hk1⟩
    have hz9 := hk1.size
    have HT1 := Aside.mk (own_keep (own_emptyN w1 w.heap.size 108 3 hz9) ((Keep.refl _).alloc (.cells #[] 108)))
    have HT2 := Aside.mk (own_emptyN (w1.alloc (.cells #[] 108)) w.heap.size 108 3 (by simp; omega))
    rw [show (w1.alloc (.cells #[] 108)).heap.size = w1.heap.size + 1 by simp] at HT2
    go_wp2
    apply bodyPost_ret; rotate_left; rfl; exact ⟨_, _, rfl, HT1.out, HT2.out, fun k hk => (by simp [Value.ownBlock] at hk ⊢; omega), (by ((repeat (first | (with_reducible assumption) | ((with_reducible refine Keep.setCell ?_ ?_ _); rotate_left; focus (first | omega | (simp; done) | (simp; omega))) | (with_reducible refine Keep.alloc ?_ _) | (with_reducible refine Keep.drewN ?_ _) | (with_reducible refine Keep.drew ?_) | (with_reducible exact Keep.refl _) | refine Keep.trans ?_ (by with_reducible assumption) | exact Keep.refl _ | assumption))))⟩; simp [results, Tryd.results42, go_sem]
  · cases h2 : holeB h
    · have e0 : pnE l h = 2 := by simp only [pnE, h1, h2, cond_false, cond_true]
      have e1 : spS l h = [] := by simp only [spS, h1, h2, cond_false, cond_true]
      have e2 : spD l h = [] := by simp only [spD, h1, h2, cond_false, cond_true]
      have hd := spec_l02Asked A l c h w hm hz hR
      rw [e0] at hd
      rw [e0, e1, e2]
      clear e0 e1 e2
      go_enter Tryd.func42, Tryd.ntmps42
      (go_wp2_with fail); (go_at_call 93); (refine (hd).mono ?_); rintro e w1 ⟨rfl, hk1⟩
      have hz9 := hk1.size
      have HT1 := Aside.mk (own_keep (own_emptyN w1 w.heap.size 108 3 hz9) ((Keep.refl _).alloc (.cells #[] 108)))
      have HT2 := Aside.mk (own_emptyN (w1.alloc (.cells #[] 108)) w.heap.size 108 3 (by simp; omega))
      rw [show (w1.alloc (.cells #[] 108)).heap.size = w1.heap.size + 1 by simp] at HT2
      go_wp2
      apply bodyPost_ret; rotate_left; rfl; exact ⟨_, _, rfl, HT1.out, HT2.out, fun k hk => (by simp [Value.ownBlock] at hk ⊢; omega), (by ((repeat (first | (with_reducible assumption) | ((with_reducible refine Keep.setCell ?_ ?_ _); rotate_left; focus (first | omega | (simp; done) | (simp; omega))) | (with_reducible refine Keep.alloc ?_ _) | (with_reducible refine Keep.drewN ?_ _) | (with_reducible refine Keep.drew ?_) | (with_reducible exact Keep.refl _) | refine Keep.trans ?_ (by with_reducible assumption) | exact Keep.refl _ | assumption))))⟩; simp [results, Tryd.results42, go_sem]
    · have e0 : pnE l h = 0 := by simp only [pnE, h1, h2, cond_false, cond_true]
      have e1 : spS l h = stL h l := by simp only [spS, h1, h2, cond_false, cond_true]
      have e2 : spD l h = drL h l := by simp only [spD, h1, h2, cond_false, cond_true]
      have h80 := dkB_80 h1
      have hho := holeB_iff.1 h2
      have hsp := fun W k => spec_l02Split A l c h W (by omega) hho k
      have hd := spec_l02Asked A l c h w hm hz hR
      rw [e0] at hd
      rw [e0, e1, e2]
      clear e0 e1 e2
      generalize stL h l = L1 at *
      generalize drL h l = L2 at *
      go_enter Tryd.func42, Tryd.ntmps42
      (go_wp2_with fail); (go_at_call 93); (refine (hd).mono ?_); rintro e w2 ⟨rfl, hk1⟩
      have k2 : Keep w w2 := (by ((repeat (first | (with_reducible assumption) | ((with_reducible refine Keep.setCell ?_ ?_ _); rotate_left; focus (first | omega | (simp; done) | (simp; omega))) | (with_reducible refine Keep.alloc ?_ _) | (with_reducible refine Keep.drewN ?_ _) | (with_reducible refine Keep.drew ?_) | (with_reducible exact Keep.refl _) | refine Keep.trans ?_ (by with_reducible assumption) | exact Keep.refl _ | assumption))))
      clear hk1
      (go_wp2_with fail); (go_at_call 94); (refine (hsp _ (hR.keep k2)).mono ?_); rintro e w3 ⟨v1, v2, rfl, ⟨g1, c1, g2, c2, rfl, rfl, ho1, ho2, hne, hg1, hg2⟩, hk3⟩
      have k3 : Keep w w3 := (by ((repeat (first | (with_reducible assumption) | ((with_reducible refine Keep.setCell ?_ ?_ _); rotate_left; focus (first | omega | (simp; done) | (simp; omega))) | (with_reducible refine Keep.alloc ?_ _) | (with_reducible refine Keep.drewN ?_ _) | (with_reducible refine Keep.drew ?_) | (with_reducible exact Keep.refl _) | refine Keep.trans ?_ (by with_reducible assumption) | exact Keep.refl _ | assumption))))
      have zz2 := k2.size
      have HT1 := Aside.mk (own_base ho1 zz2)
      have HT2 := Aside.mk (own_base ho2 zz2)
      clear ho1 ho2 hk3 k2
      go_wp2
      apply bodyPost_ret; rotate_left; rfl; exact ⟨_, _, rfl, HT1.out, HT2.out, fun k hk => (by simp [Value.ownBlock] at hk ⊢; omega), (by ((repeat (first | (with_reducible assumption) | ((with_reducible refine Keep.setCell ?_ ?_ _); rotate_left; focus (first | omega | (simp; done) | (simp; omega))) | (with_reducible refine Keep.alloc ?_ _) | (with_reducible refine Keep.drewN ?_ _) | (with_reducible refine Keep.drew ?_) | (with_reducible exact Keep.refl _) | refine Keep.trans ?_ (by with_reducible assumption) | exact Keep.refl _ | assumption))))⟩; simp [results, Tryd.results42, go_sem]
theorem sp_len (l : List Cd) (h : Int) : (spS l h).length + (spD l h).length ≤ 80 := by
  unfold spS spD
  cases h1 : dkB l
  · simp
  · cases h2 : holeB h
    · simp
    · have := stL_len h l
      have := dkB_80 h1
      simp; omega
theorem laws_FnExactSplitDeck (A : Option Addr) (l : List Cd) (c : Nat) (h : Int) (w : World) (hl : l.length ≤ 9223372036854775807 ∧ CSz l ∧ Rd w A (cds l)) (hh : (Lit.int .i64 h).wf = true) :
    Calls Tryd.prog 8 #[.slice A l.length c, .int .i64 h] w fun e w' => e = .returned (.bool true) ∧ Keep w w' := by
  obtain ⟨hl1, hlz, hR⟩ := hl
  by_cases hn : (1048576 : Int) < (l.length + cSum l : Nat)
  · have e1 := szD_gt hn
    go_enter Tryd.func8, Tryd.ntmps8
    (go_wp2_with fail); (go_at_call 26); (refine (laws_szCardS _ _ _ 1048576 _ (by decide) hl1 hlz hR).mono ?_); rintro e w1 ⟨rfl, hk1⟩
    rw [e1]
    go_wp2
    go_ret; exact ⟨rfl, (by ((repeat (first | (with_reducible assumption) | ((with_reducible refine Keep.setCell ?_ ?_ _); rotate_left; focus (first | omega | (simp; done) | (simp; omega))) | (with_reducible refine Keep.alloc ?_ _) | (with_reducible refine Keep.drewN ?_ _) | (with_reducible refine Keep.drew ?_) | (with_reducible exact Keep.refl _) | refine Keep.trans ?_ (by with_reducible assumption) | exact Keep.refl _ | assumption))))⟩
  · obtain ⟨left, hleft⟩ : ∃ x, szD 1048576 l = x := ⟨_, rfl⟩
    have e1 : left = 1048576 - (l.length + cSum l : Nat) := by rw [← hleft]; exact szD_le hn
    have hl0 : ¬ left < 0 := by omega
    have hln : l.length ≤ 1048576 := by omega
    have hpl := sp_len l h
    have hI := Aside.mk (fun A c W hc hr => impl_SplitDeck A l c h W hl1 hc hlz hr)
    have hJ := Aside.mk (fun A c W hc hr => spec_SplitDeck A l c h W hl1 hc hlz hr)
    generalize spS l h = L at *
    generalize spD l h = M at *
    generalize pnE l h = E at *
    have hpn : L.length ≤ 1048576 := by omega
    have hpm : M.length ≤ 1048576 := by omega
    have hp80 : L.length ≤ 80 := by omega
    clear hn e1 hpl
    go_enter Tryd.func8, Tryd.ntmps8
    (go_wp2_with fail); (go_at_call 26); (refine (laws_szCardS _ _ _ 1048576 _ (by decide) hl1 hlz hR).mono ?_); rintro e w1 ⟨rfl, hW⟩
    rw [hleft]
    clear hleft
    (go_wp2_with fail); (go_at_call 28); (refine (laws_toCardS _ _ _ _ hln (hR.keep hW)).mono ?_); rintro e w2 ⟨g2, rfl, ho2, hk⟩
    have kk : Keep w1 w2 := (by ((repeat (first | (with_reducible assumption) | ((with_reducible refine Keep.setCell ?_ ?_ _); rotate_left; focus (first | omega | (simp; done) | (simp; omega))) | (with_reducible refine Keep.alloc ?_ _) | (with_reducible refine Keep.drewN ?_ _) | (with_reducible refine Keep.drew ?_) | (with_reducible exact Keep.refl _) | refine Keep.trans ?_ (by with_reducible assumption) | exact Keep.refl _ | assumption))))
    replace hW := hW.trans kk
    clear hk kk
    (go_wp2_with fail); (go_at_call 42); (refine (hJ.out _ _ _ (Nat.le_refl _) (own_rdc ho2)).mono ?_); rintro e w3 ⟨v3, u3, rfl, o3, p3, -, hk⟩
    have kk : Keep w2 w3 := (by ((repeat (first | (with_reducible assumption) | ((with_reducible refine Keep.setCell ?_ ?_ _); rotate_left; focus (first | omega | (simp; done) | (simp; omega))) | (with_reducible refine Keep.alloc ?_ _) | (with_reducible refine Keep.drewN ?_ _) | (with_reducible refine Keep.drew ?_) | (with_reducible exact Keep.refl _) | refine Keep.trans ?_ (by with_reducible assumption) | exact Keep.refl _ | assumption))))
    replace hW := hW.trans kk
    clear hk kk
    have hw := Own.new o3
    have hv := Own.new p3
    obtain ⟨A3, c3, rfl⟩ := hw.form
    obtain ⟨B3, d3, rfl⟩ := hv.form
    clear ho2 o3 p3
    have z3 := hW.size
    have s3 := hW
    (go_wp2_with fail); (go_at_call 28); (refine (laws_toCardS _ _ _ _ hln (hR.keep hW)).mono ?_); rintro e w4 ⟨g4, rfl, ho4, hk⟩
    have kk : Keep w3 w4 := (by ((repeat (first | (with_reducible assumption) | ((with_reducible refine Keep.setCell ?_ ?_ _); rotate_left; focus (first | omega | (simp; done) | (simp; omega))) | (with_reducible refine Keep.alloc ?_ _) | (with_reducible refine Keep.drewN ?_ _) | (with_reducible refine Keep.drew ?_) | (with_reducible exact Keep.refl _) | refine Keep.trans ?_ (by with_reducible assumption) | exact Keep.refl _ | assumption))))
    replace hw := hw.keep kk
    replace hv := hv.keep kk
    replace hW := hW.trans kk
    clear hk kk
    have hz34 : w3.heap.size ≤ w4.heap.size := by have := ho4.lt g4 rfl; omega
    clear s3
    have hx := Own.new ho4
    clear ho4
    have z4 := hW.size
    (go_wp2_with fail); (go_at_call 43); (refine (hI.out _ _ _ (Nat.le_refl _) hx.rd).mono ?_); rintro e w5 ⟨v5, u5, rfl, o5, p5, hne, hk⟩
    have kk : Keep w4 w5 := (by ((repeat (first | (with_reducible assumption) | ((with_reducible refine Keep.setCell ?_ ?_ _); rotate_left; focus (first | omega | (simp; done) | (simp; omega))) | (with_reducible refine Keep.alloc ?_ _) | (with_reducible refine Keep.drewN ?_ _) | (with_reducible refine Keep.drew ?_) | (with_reducible exact Keep.refl _) | refine Keep.trans ?_ (by with_reducible assumption) | exact Keep.refl _ | assumption))))
    replace hw := hw.keep kk
    replace hv := hv.keep kk
    replace hx := hx.keep kk
    replace hW := hW.trans kk
    clear hk kk
    have hg := Own.new o5
    have hf := Own.new p5
    obtain ⟨A5, c5, rfl⟩ := hg.form
    obtain ⟨B5, d5, rfl⟩ := hf.form
    clear o5 p5
    replace hne := Aside.mk hne
    (go_wp2_with fail); (go_at_call 30); (refine (laws_eqCardS _ _ _ _ _ _ hpn hg.rd hw.rd).mono ?_); rintro e w6 ⟨rfl, hk⟩
    have kk : Keep w5 w6 := (by ((repeat (first | (with_reducible assumption) | ((with_reducible refine Keep.setCell ?_ ?_ _); rotate_left; focus (first | omega | (simp; done) | (simp; omega))) | (with_reducible refine Keep.alloc ?_ _) | (with_reducible refine Keep.drewN ?_ _) | (with_reducible refine Keep.drew ?_) | (with_reducible exact Keep.refl _) | refine Keep.trans ?_ (by with_reducible assumption) | exact Keep.refl _ | assumption))))
    replace hw := hw.keep kk
    replace hv := hv.keep kk
    replace hx := hx.keep kk
    replace hg := hg.keep kk
    replace hf := hf.keep kk
    replace hW := hW.trans kk
    clear hk kk
    (go_wp2_with fail); (go_at_call 30); (refine (laws_eqCardS _ _ _ _ _ _ hpm hf.rd hv.rd).mono ?_); rintro e x6 ⟨rfl, hk⟩
    have kk : Keep w6 x6 := (by ((repeat (first | (with_reducible assumption) | ((with_reducible refine Keep.setCell ?_ ?_ _); rotate_left; focus (first | omega | (simp; done) | (simp; omega))) | (with_reducible refine Keep.alloc ?_ _) | (with_reducible refine Keep.drewN ?_ _) | (with_reducible refine Keep.drew ?_) | (with_reducible exact Keep.refl _) | refine Keep.trans ?_ (by with_reducible assumption) | exact Keep.refl _ | assumption))))
    replace hw := hw.keep kk
    replace hv := hv.keep kk
    replace hx := hx.keep kk
    replace hg := hg.keep kk
    replace hf := hf.keep kk
    replace hW := hW.trans kk
    clear hk kk
    (go_wp2_with fail); (go_at_call 28); (refine (laws_toCardS _ _ _ _ hln (hR.keep hW)).mono ?_); rintro e w7 ⟨g7, rfl, ho7, hk⟩
    have kk : Keep x6 w7 := (by ((repeat (first | (with_reducible assumption) | ((with_reducible refine Keep.setCell ?_ ?_ _); rotate_left; focus (first | omega | (simp; done) | (simp; omega))) | (with_reducible refine Keep.alloc ?_ _) | (with_reducible refine Keep.drewN ?_ _) | (with_reducible refine Keep.drew ?_) | (with_reducible exact Keep.refl _) | refine Keep.trans ?_ (by with_reducible assumption) | exact Keep.refl _ | assumption))))
    replace hw := hw.keep kk
    replace hv := hv.keep kk
    replace hx := hx.keep kk
    replace hg := hg.keep kk
    replace hf := hf.keep kk
    replace hW := hW.trans kk
    clear hk kk
    (go_wp2_with fail); (go_at_call 30); (refine (laws_eqCardS _ _ _ _ _ _ hln hx.rd (own_rdc ho7)).mono ?_); rintro e w8 ⟨rfl, hk⟩
    have kk : Keep w7 w8 := (by ((repeat (first | (with_reducible assumption) | ((with_reducible refine Keep.setCell ?_ ?_ _); rotate_left; focus (first | omega | (simp; done) | (simp; omega))) | (with_reducible refine Keep.alloc ?_ _) | (with_reducible refine Keep.drewN ?_ _) | (with_reducible refine Keep.drew ?_) | (with_reducible exact Keep.refl _) | refine Keep.trans ?_ (by with_reducible assumption) | exact Keep.refl _ | assumption))))
    replace hw := hw.keep kk
    replace hv := hv.keep kk
    replace hx := hx.keep kk
    replace hg := hg.keep kk
    replace hf := hf.keep kk
    replace hW := hW.trans kk
    clear hk kk
    clear ho7
    (go_wp2_with fail); (go_at_call 40); (refine (laws_markCardS _ _ _ _ _ 1 _ hln (by decide) (by decide) hx.out).mono ?_); rintro e w9 ⟨rfl, om, hgr⟩
    replace hw := hw.other hgr (fun k hk => .inr (hx.lt k hk).1)
    replace hv := hv.other hgr (fun k hk => .inr (hx.lt k hk).1)
    replace hg := hg.other hgr (fun k hk => .inl (hx.lt k hk).2)
    replace hf := hf.other hgr (fun k hk => .inl (hx.lt k hk).2)
    replace hW := hx.keepW hW hgr z3
    clear hx om hgr
    (go_wp2_with fail); (go_at_call 30); (refine (laws_eqCardS _ _ _ _ _ _ hpn hg.rd hw.rd).mono ?_); rintro e w10 ⟨rfl, hk⟩
    have kk : Keep w9 w10 := (by ((repeat (first | (with_reducible assumption) | ((with_reducible refine Keep.setCell ?_ ?_ _); rotate_left; focus (first | omega | (simp; done) | (simp; omega))) | (with_reducible refine Keep.alloc ?_ _) | (with_reducible refine Keep.drewN ?_ _) | (with_reducible refine Keep.drew ?_) | (with_reducible exact Keep.refl _) | refine Keep.trans ?_ (by with_reducible assumption) | exact Keep.refl _ | assumption))))
    replace hw := hw.keep kk
    replace hv := hv.keep kk
    replace hg := hg.keep kk
    replace hf := hf.keep kk
    replace hW := hW.trans kk
    clear hk kk
    (go_wp2_with fail); (go_at_call 30); (refine (laws_eqCardS _ _ _ _ _ _ hpm hf.rd hv.rd).mono ?_); rintro e x10 ⟨rfl, hk⟩
    have kk : Keep w10 x10 := (by ((repeat (first | (with_reducible assumption) | ((with_reducible refine Keep.setCell ?_ ?_ _); rotate_left; focus (first | omega | (simp; done) | (simp; omega))) | (with_reducible refine Keep.alloc ?_ _) | (with_reducible refine Keep.drewN ?_ _) | (with_reducible refine Keep.drew ?_) | (with_reducible exact Keep.refl _) | refine Keep.trans ?_ (by with_reducible assumption) | exact Keep.refl _ | assumption))))
    replace hw := hw.keep kk
    replace hv := hv.keep kk
    replace hg := hg.keep kk
    replace hf := hf.keep kk
    replace hW := hW.trans kk
    clear hk kk
    (go_wp2_with fail); (go_at_call 40); (refine (laws_markCardS _ _ _ _ _ 1 _ hpn (by decide) (by decide) hg.out).mono ?_); rintro e w11 ⟨rfl, om, hgr⟩
    have hm := Own.mk om hg.lt
    have hf2 := hf.out.kept hgr (by
      cases hb : Value.ownBlock (.slice B5 M.length d5) with
      | none => exact .inl rfl
      | some k => exact .inr (fun e => hne.out k e.symm hb))
    replace hf := Own.mk hf2 hf.lt
    replace hw := hw.other hgr (fun k hk => .inr (Nat.le_trans hz34 (hg.lt k hk).1))
    replace hv := hv.other hgr (fun k hk => .inr (Nat.le_trans hz34 (hg.lt k hk).1))
    replace hW := hg.keepW hW hgr z4
    clear om hgr hf2
    (go_wp2_with fail); (go_at_call 40); (refine (laws_markCardS _ _ _ _ _ (1 + 3 * L.length) _ hpm (by omega) (by omega) hf.out).mono ?_); rintro e x11 ⟨rfl, om, hgr⟩
    have hn2 := Own.mk om hf.lt
    have hm2 := hm.out.kept hgr (by
      cases hb : Value.ownBlock (.slice A5 L.length c5) with
      | none => exact .inl rfl
      | some k => exact .inr (fun e => hne.out k hb e.symm))
    replace hm := Own.mk hm2 hm.lt
    replace hw := hw.other hgr (fun k hk => .inr (Nat.le_trans hz34 (hf.lt k hk).1))
    replace hv := hv.other hgr (fun k hk => .inr (Nat.le_trans hz34 (hf.lt k hk).1))
    replace hW := hf.keepW hW hgr z4
    clear hg hf om hgr hm2 hne
    (go_wp2_with fail); (go_at_call 41); (refine (laws_heldCardS _ _ _ 1 _ hpn (by decide) (by decide) hm.rd).mono ?_); rintro e w12 ⟨rfl, hk⟩
    have kk : Keep x11 w12 := (by ((repeat (first | (with_reducible assumption) | ((with_reducible refine Keep.setCell ?_ ?_ _); rotate_left; focus (first | omega | (simp; done) | (simp; omega))) | (with_reducible refine Keep.alloc ?_ _) | (with_reducible refine Keep.drewN ?_ _) | (with_reducible refine Keep.drew ?_) | (with_reducible exact Keep.refl _) | refine Keep.trans ?_ (by with_reducible assumption) | exact Keep.refl _ | assumption))))
    replace hw := hw.keep kk
    replace hv := hv.keep kk
    replace hm := hm.keep kk
    replace hn2 := hn2.keep kk
    replace hW := hW.trans kk
    clear hk kk
    (go_wp2_with fail); (go_at_call 41); (refine (laws_heldCardS _ _ _ (1 + 3 * L.length) _ hpm (by omega) (by omega) hn2.rd).mono ?_); rintro e x12 ⟨rfl, hk⟩
    have kk : Keep w12 x12 := (by ((repeat (first | (with_reducible assumption) | ((with_reducible refine Keep.setCell ?_ ?_ _); rotate_left; focus (first | omega | (simp; done) | (simp; omega))) | (with_reducible refine Keep.alloc ?_ _) | (with_reducible refine Keep.drewN ?_ _) | (with_reducible refine Keep.drew ?_) | (with_reducible exact Keep.refl _) | refine Keep.trans ?_ (by with_reducible assumption) | exact Keep.refl _ | assumption))))
    replace hw := hw.keep kk
    replace hv := hv.keep kk
    replace hm := hm.keep kk
    replace hn2 := hn2.keep kk
    replace hW := hW.trans kk
    clear hk kk
    (go_wp2_with fail); (go_at_call 28); (refine (laws_toCardS _ _ _ _ hln (hR.keep hW)).mono ?_); rintro e w13 ⟨g13, rfl, ho13, hk⟩
    have kk : Keep x12 w13 := (by ((repeat (first | (with_reducible assumption) | ((with_reducible refine Keep.setCell ?_ ?_ _); rotate_left; focus (first | omega | (simp; done) | (simp; omega))) | (with_reducible refine Keep.alloc ?_ _) | (with_reducible refine Keep.drewN ?_ _) | (with_reducible refine Keep.drew ?_) | (with_reducible exact Keep.refl _) | refine Keep.trans ?_ (by with_reducible assumption) | exact Keep.refl _ | assumption))))
    replace hw := hw.keep kk
    replace hv := hv.keep kk
    replace hm := hm.keep kk
    replace hn2 := hn2.keep kk
    replace hW := hW.trans kk
    clear hk kk
    (go_wp2_with fail); (go_at_call 43); (refine (hI.out _ _ _ (Nat.le_refl _) (own_rdc ho13)).mono ?_); rintro e w14 ⟨v14, u14, rfl, o14, p14, -, hk⟩
    have kk : Keep w13 w14 := (by ((repeat (first | (with_reducible assumption) | ((with_reducible refine Keep.setCell ?_ ?_ _); rotate_left; focus (first | omega | (simp; done) | (simp; omega))) | (with_reducible refine Keep.alloc ?_ _) | (with_reducible refine Keep.drewN ?_ _) | (with_reducible refine Keep.drew ?_) | (with_reducible exact Keep.refl _) | refine Keep.trans ?_ (by with_reducible assumption) | exact Keep.refl _ | assumption))))
    replace hw := hw.keep kk
    replace hv := hv.keep kk
    replace hm := hm.keep kk
    replace hn2 := hn2.keep kk
    replace hW := hW.trans kk
    clear hk kk
    have hg := Own.new o14
    have hf := Own.new p14
    obtain ⟨A14, c14, rfl⟩ := hg.form
    obtain ⟨B14, d14, rfl⟩ := hf.form
    clear o14 p14 ho13
    (go_wp2_with fail); (go_at_call 30); (refine (laws_eqCardS _ _ _ _ _ _ hpn hg.rd hw.rd).mono ?_); rintro e w15 ⟨rfl, hk⟩
    have kk : Keep w14 w15 := (by ((repeat (first | (with_reducible assumption) | ((with_reducible refine Keep.setCell ?_ ?_ _); rotate_left; focus (first | omega | (simp; done) | (simp; omega))) | (with_reducible refine Keep.alloc ?_ _) | (with_reducible refine Keep.drewN ?_ _) | (with_reducible refine Keep.drew ?_) | (with_reducible exact Keep.refl _) | refine Keep.trans ?_ (by with_reducible assumption) | exact Keep.refl _ | assumption))))
    replace hv := hv.keep kk
    replace hf := hf.keep kk
    replace hm := hm.keep kk
    replace hn2 := hn2.keep kk
    replace hW := hW.trans kk
    clear hk kk
    (go_wp2_with fail); (go_at_call 30); (refine (laws_eqCardS _ _ _ _ _ _ hpm hf.rd hv.rd).mono ?_); rintro e x15 ⟨rfl, hk⟩
    have kk : Keep w15 x15 := (by ((repeat (first | (with_reducible assumption) | ((with_reducible refine Keep.setCell ?_ ?_ _); rotate_left; focus (first | omega | (simp; done) | (simp; omega))) | (with_reducible refine Keep.alloc ?_ _) | (with_reducible refine Keep.drewN ?_ _) | (with_reducible refine Keep.drew ?_) | (with_reducible exact Keep.refl _) | refine Keep.trans ?_ (by with_reducible assumption) | exact Keep.refl _ | assumption))))
    replace hm := hm.keep kk
    replace hn2 := hn2.keep kk
    replace hW := hW.trans kk
    clear hk kk
    (go_wp2_with fail); (go_at_call 41); (refine (laws_heldCardS _ _ _ 1 _ hpn (by decide) (by decide) hm.rd).mono ?_); rintro e w16 ⟨rfl, hk⟩
    have kk : Keep x15 w16 := (by ((repeat (first | (with_reducible assumption) | ((with_reducible refine Keep.setCell ?_ ?_ _); rotate_left; focus (first | omega | (simp; done) | (simp; omega))) | (with_reducible refine Keep.alloc ?_ _) | (with_reducible refine Keep.drewN ?_ _) | (with_reducible refine Keep.drew ?_) | (with_reducible exact Keep.refl _) | refine Keep.trans ?_ (by with_reducible assumption) | exact Keep.refl _ | assumption))))
    replace hn2 := hn2.keep kk
    replace hW := hW.trans kk
    clear hk kk
    (go_wp2_with fail); (go_at_call 41); (refine (laws_heldCardS _ _ _ (1 + 3 * L.length) _ hpm (by omega) (by omega) hn2.rd).mono ?_); rintro e w17 ⟨rfl, hk⟩
    have kk : Keep w16 w17 := (by ((repeat (first | (with_reducible assumption) | ((with_reducible refine Keep.setCell ?_ ?_ _); rotate_left; focus (first | omega | (simp; done) | (simp; omega))) | (with_reducible refine Keep.alloc ?_ _) | (with_reducible refine Keep.drewN ?_ _) | (with_reducible refine Keep.drew ?_) | (with_reducible exact Keep.refl _) | refine Keep.trans ?_ (by with_reducible assumption) | exact Keep.refl _ | assumption))))
    replace hW := hW.trans kk
    clear hk kk
    clear hw hg hm hv hf hn2
    go_wp2
    go_ret; exact ⟨rfl, (by ((repeat (first | (with_reducible assumption) | ((with_reducible refine Keep.setCell ?_ ?_ _); rotate_left; focus (first | omega | (simp; done) | (simp; omega))) | (with_reducible refine Keep.alloc ?_ _) | (with_reducible refine Keep.drewN ?_ _) | (with_reducible refine Keep.drew ?_) | (with_reducible exact Keep.refl _) | refine Keep.trans ?_ (by with_reducible assumption) | exact Keep.refl _ | assumption))))⟩
end Go.Proofs.YtpmilcfppcmodaaDoor

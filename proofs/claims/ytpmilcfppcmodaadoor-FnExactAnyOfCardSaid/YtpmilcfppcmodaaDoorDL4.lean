/- Several passes: the functions and the law. -/
import Derived.Test.YtpmilcfppcmodaaDoorPM
import Derived.Test.YtpmilcfppcmodaaDoorDL2
import Derived.Test.YtpmilcfppcmodaaDoorMB
set_option linter.unusedVariables false
set_option linter.unusedSimpArgs false
namespace Go.Proofs.YtpmilcfppcmodaaDoor
open Go.RowKit Go.Shelf
set_option maxHeartbeats 4000000
set_option maxRecDepth 20000
theorem any_notD {α : Type} (l : List α) (p : α → Bool) : l.any (fun s => !p s) = !l.all p := by simp [List.any_eq_not_all_not]
theorem allD_take {l : List Int} {i : Nat} (h : i < l.length) : (l.take (i + 1)).all holeB = ((l.take i).all holeB && holeB l[i]) := by
  rw [List.take_succ_eq_append_getElem h, List.all_append]; simp
theorem allD_no {l : List Int} {i : Nat} (h : i < l.length) (hb : holeB l[i] = false) : l.all holeB = false := by
  rw [List.all_eq_false]; exact ⟨l[i], List.getElem_mem h, by simp [hb]⟩
theorem allD_iff {l : List Int} : l.all holeB = true ↔ ∀ h ∈ l, 0 ≤ h ∧ h < 96 := by
  rw [List.all_eq_true]
  exact ⟨fun h x hx => holeB_iff.1 (h x hx), fun h x hx => holeB_iff.2 (h x hx)⟩
theorem impl_PassMany (g : Nat) (l : List Cd) (c : Nat) (B : Option Addr) (hs : List Int) (d : Nat) (w : World) (hm : l.length ≤ 9223372036854775807) (hcp : l.length ≤ c) (hz : CSz l) (hm2 : hs.length ≤ 9223372036854775807) (hR : Rd w (some ⟨g, 0, none⟩) (cds l)) (hS : Rd w B (ints hs)) :
    Calls Tryd.prog 52 #[.slice (some ⟨g, 0, none⟩) l.length c, .slice B hs.length d] w fun e w' => ∃ v, e = .returned (.tuple #[v, .int .i64 (pmE l hs)]) ∧ w'.ownsRow w.heap.size 108 3 v (pmL l hs).length (cds (pmL l hs)) ∧ Keep w w' := by
  have hd := impl_isDeck (some ⟨g, 0, none⟩) l c w hm hcp hz hR
  have hct := fun W h => contains_int B hs d 105 #[] (fun x => !holeB x) W hm2 h (enters_of Tryd.func105 (by kernel_rfl) rfl) (fun x _ W' _ => passMany_clo x W')
  rw [any_notD] at hct
  cases h1 : dkB l
  · have e0 : pmE l hs = 1 := by simp only [pmE, h1, cond_false]
    rw [pmL_no (by rw [e0]; decide), e0]
    rw [h1] at hd
    clear hct
    go_enter Tryd.func52, Tryd.ntmps52
    (go_wp2_with fail); (go_at_call 72); (refine (hd).mono ?_); rintro e w1 ⟨rfl, hk1⟩
    go_wp2
    go_ret2; exact ⟨_, rfl, World.ownsRow_nil _ _ _ _, (by ((repeat (first | (with_reducible assumption) | ((with_reducible refine Keep.setCell ?_ ?_ _); rotate_left; focus (first | omega | (simp; done) | (simp; omega))) | (with_reducible refine Keep.alloc ?_ _) | (with_reducible refine Keep.drewN ?_ _) | (with_reducible refine Keep.drew ?_) | (with_reducible exact Keep.refl _) | refine Keep.trans ?_ (by with_reducible assumption) | exact Keep.refl _ | assumption))))⟩
  · cases h2 : hs.all holeB
    · have e0 : pmE l hs = 2 := by simp only [pmE, h1, h2, cond_false, cond_true]
      rw [pmL_no (by rw [e0]; decide), e0]
      rw [h1] at hd
      rw [h2] at hct
      go_enter Tryd.func52, Tryd.ntmps52
      (go_wp2_with fail); (go_at_call 72); (refine (hd).mono ?_); rintro e w1 ⟨rfl, hk1⟩
      (go_wp2_with fail); (go_at_call 104); (refine (hct _ (hS.keep hk1)).mono ?_); rintro e w2 ⟨rfl, hk2⟩
      go_wp2
      go_ret2; exact ⟨_, rfl, World.ownsRow_nil _ _ _ _, (by ((repeat (first | (with_reducible assumption) | ((with_reducible refine Keep.setCell ?_ ?_ _); rotate_left; focus (first | omega | (simp; done) | (simp; omega))) | (with_reducible refine Keep.alloc ?_ _) | (with_reducible refine Keep.drewN ?_ _) | (with_reducible refine Keep.drew ?_) | (with_reducible exact Keep.refl _) | refine Keep.trans ?_ (by with_reducible assumption) | exact Keep.refl _ | assumption))))⟩
    · rw [h1] at hd
      rw [h2] at hct
      by_cases h3 : hs.length ≤ 200
      · have e0 : pmE l hs = 0 := by simp only [pmE, h1, h2, cond_true, decide_eq_true h3]
        have e1 : pmL l hs = manyL l hs := by unfold pmL; rw [e0]; rfl
        have e2 := manyL_len l hs
        have hpm := fun W h k => impl_passMany g l c B hs d W (dkB_80 h1) (allD_iff.1 h2) hm2 h k
        rw [e1, e0, e2]
        clear e0 e1 e2
        generalize manyL l hs = M at *
        go_enter Tryd.func52, Tryd.ntmps52
        (go_wp2_with fail); (go_at_call 72); (refine (hd).mono ?_); rintro e w1 ⟨rfl, hk1⟩
        (go_wp2_with fail); (go_at_call 104); (refine (hct _ (hS.keep hk1)).mono ?_); rintro e w2 ⟨rfl, hk2⟩
        have k2 : Keep w w2 := (by ((repeat (first | (with_reducible assumption) | ((with_reducible refine Keep.setCell ?_ ?_ _); rotate_left; focus (first | omega | (simp; done) | (simp; omega))) | (with_reducible refine Keep.alloc ?_ _) | (with_reducible refine Keep.drewN ?_ _) | (with_reducible refine Keep.drew ?_) | (with_reducible exact Keep.refl _) | refine Keep.trans ?_ (by with_reducible assumption) | exact Keep.refl _ | assumption))))
        (go_wp2_with fail); (go_at_call 106); (refine (hpm _ (hR.keep k2) (hS.keep k2)).mono ?_); rintro e w3 ⟨v, rfl, ho, hk3⟩
        have HO := Aside.mk (own_base ho k2.size)
        have k3 : Keep w w3 := (by ((repeat (first | (with_reducible assumption) | ((with_reducible refine Keep.setCell ?_ ?_ _); rotate_left; focus (first | omega | (simp; done) | (simp; omega))) | (with_reducible refine Keep.alloc ?_ _) | (with_reducible refine Keep.drewN ?_ _) | (with_reducible refine Keep.drew ?_) | (with_reducible exact Keep.refl _) | refine Keep.trans ?_ (by with_reducible assumption) | exact Keep.refl _ | assumption))))
        clear ho hk3 k2 hk1 hk2
        go_wp2
        go_ret2; exact ⟨_, rfl, HO.out, (by ((repeat (first | (with_reducible assumption) | ((with_reducible refine Keep.setCell ?_ ?_ _); rotate_left; focus (first | omega | (simp; done) | (simp; omega))) | (with_reducible refine Keep.alloc ?_ _) | (with_reducible refine Keep.drewN ?_ _) | (with_reducible refine Keep.drew ?_) | (with_reducible exact Keep.refl _) | refine Keep.trans ?_ (by with_reducible assumption) | exact Keep.refl _ | assumption))))⟩
      · have e0 : pmE l hs = 3 := by simp only [pmE, h1, h2, cond_true, decide_eq_false h3, cond_false]
        rw [pmL_no (by rw [e0]; decide), e0]
        go_enter Tryd.func52, Tryd.ntmps52
        (go_wp2_with fail); (go_at_call 72); (refine (hd).mono ?_); rintro e w1 ⟨rfl, hk1⟩
        (go_wp2_with fail); (go_at_call 104); (refine (hct _ (hS.keep hk1)).mono ?_); rintro e w2 ⟨rfl, hk2⟩
        go_wp2
        go_ret2; exact ⟨_, rfl, World.ownsRow_nil _ _ _ _, (by ((repeat (first | (with_reducible assumption) | ((with_reducible refine Keep.setCell ?_ ?_ _); rotate_left; focus (first | omega | (simp; done) | (simp; omega))) | (with_reducible refine Keep.alloc ?_ _) | (with_reducible refine Keep.drewN ?_ _) | (with_reducible refine Keep.drew ?_) | (with_reducible exact Keep.refl _) | refine Keep.trans ?_ (by with_reducible assumption) | exact Keep.refl _ | assumption))))⟩
theorem spec_PassMany (g : Nat) (l : List Cd) (c : Nat) (B : Option Addr) (hs : List Int) (d : Nat) (w : World) (hm : l.length ≤ 9223372036854775807) (hz : CSz l) (hm2 : hs.length ≤ 9223372036854775807) (hR : Rd w (some ⟨g, 0, none⟩) (cds l)) (hS : Rd w B (ints hs)) :
    Calls Tryd.prog 50 #[.slice (some ⟨g, 0, none⟩) l.length c, .slice B hs.length d] w fun e w' => ∃ v, e = .returned (.tuple #[v, .int .i64 (pmE l hs)]) ∧ w'.ownsRow w.heap.size 108 3 v (pmL l hs).length (cds (pmL l hs)) ∧ Keep w w' := by
  have hd := spec_l02Ok (some ⟨g, 0, none⟩) l c w hm hz hR
  cases h1 : dkB l
  · have e0 : pmE l hs = 1 := by simp only [pmE, h1, cond_false]
    rw [pmL_no (by rw [e0]; decide), e0]
    rw [h1] at hd
    go_enter Tryd.func50, Tryd.ntmps50
    (go_wp2_with fail); (go_at_call 67); (refine (hd).mono ?_); rintro e w1 ⟨rfl, hk1⟩
    have hz9 := hk1.size
    go_wp2
    go_ret2; exact ⟨_, rfl, own_emptyN w1 _ 108 3 hz9, (by ((repeat (first | (with_reducible assumption) | ((with_reducible refine Keep.setCell ?_ ?_ _); rotate_left; focus (first | omega | (simp; done) | (simp; omega))) | (with_reducible refine Keep.alloc ?_ _) | (with_reducible refine Keep.drewN ?_ _) | (with_reducible refine Keep.drew ?_) | (with_reducible exact Keep.refl _) | refine Keep.trans ?_ (by with_reducible assumption) | exact Keep.refl _ | assumption))))⟩
  · rw [h1] at hd
    obtain ⟨E, hE⟩ : ∃ E, pmE l hs = E := ⟨_, rfl⟩
    obtain ⟨M, hM⟩ : ∃ M, pmL l hs = M := ⟨_, rfl⟩
    rw [hE, hM]
    have HE := Aside.mk hE
    have HM := Aside.mk hM
    clear hE hM
    go_enter Tryd.func50, Tryd.ntmps50
    (go_wp2_with fail); (go_at_call 67); (refine (hd).mono ?_); rintro e w1 ⟨rfl, hk1⟩
    have k1 : Keep w w1 := (by ((repeat (first | (with_reducible assumption) | ((with_reducible refine Keep.setCell ?_ ?_ _); rotate_left; focus (first | omega | (simp; done) | (simp; omega))) | (with_reducible refine Keep.alloc ?_ _) | (with_reducible refine Keep.drewN ?_ _) | (with_reducible refine Keep.drew ?_) | (with_reducible exact Keep.refl _) | refine Keep.trans ?_ (by with_reducible assumption) | exact Keep.refl _ | assumption))))
    clear hk1 hd
    go_wp2_with fail
    go_loopg [6] hs.length (fun k s6 wr => ∃ i : Nat, i + k = hs.length ∧ s6 = .int .i64 i ∧ (hs.take i).all holeB = true ∧ Keep w wr)
    case atStart => exact ⟨0, by omega, rfl, rfl, (by ((repeat (first | (with_reducible assumption) | ((with_reducible refine Keep.setCell ?_ ?_ _); rotate_left; focus (first | omega | (simp; done) | (simp; omega))) | (with_reducible refine Keep.alloc ?_ _) | (with_reducible refine Keep.drewN ?_ _) | (with_reducible refine Keep.drew ?_) | (with_reducible exact Keep.refl _) | refine Keep.trans ?_ (by with_reducible assumption) | exact Keep.refl _ | assumption))))⟩
    case round =>
      obtain ⟨i, hi, rfl, hal, hk⟩ := hrel
      have HL := Aside.mk hal
      clear hal
      by_cases hlt : i < hs.length
      · obtain ⟨bb, o, rfl, hc⟩ := (hS.keep hk).at (k := i) (by rw [ints_len]; omega)
        have p1 := hc _ _ (ints_at hs i hlt)
        have hT := allD_take hlt
        rw [HL.out, Bool.true_and] at hT
        have HT := Aside.mk hT
        have HQ := Aside.mk (fun h => allD_no hlt h)
        clear hc hT
        generalize hs[i] = x at *
        (go_wp2_with fail); (go_at_call 97); (refine (spec_l01Hole _ _).mono ?_); rintro e w2 ⟨rfl, hk2⟩
        cases hb : holeB x
        · have h2 := HQ.out hb
          have e0 : E = 2 := by rw [← HE.out]; simp only [pmE, h1, h2, cond_false, cond_true]
          have e1 : M = [] := by rw [← HM.out]; exact pmL_no (by rw [HE.out, e0]; decide)
          subst e0 e1
          have hz9 := hk2.size
          have hz8 := hk.size
          clear h2 HT HQ HL
          go_wp2
          go_ret2; exact ⟨_, rfl, own_emptyN w2 _ 108 3 (by omega), (by ((repeat (first | (with_reducible assumption) | ((with_reducible refine Keep.setCell ?_ ?_ _); rotate_left; focus (first | omega | (simp; done) | (simp; omega))) | (with_reducible refine Keep.alloc ?_ _) | (with_reducible refine Keep.drewN ?_ _) | (with_reducible refine Keep.drew ?_) | (with_reducible exact Keep.refl _) | refine Keep.trans ?_ (by with_reducible assumption) | exact Keep.refl _ | assumption))))⟩
        · rw [hb] at HT
          go_wp2
          go_roundg (hs.length - (i + 1))
          case measure => omega
          case rel => exact ⟨i + 1, by omega, by go_num, HT.out, (by ((repeat (first | (with_reducible assumption) | ((with_reducible refine Keep.setCell ?_ ?_ _); rotate_left; focus (first | omega | (simp; done) | (simp; omega))) | (with_reducible refine Keep.alloc ?_ _) | (with_reducible refine Keep.drewN ?_ _) | (with_reducible refine Keep.drew ?_) | (with_reducible exact Keep.refl _) | refine Keep.trans ?_ (by with_reducible assumption) | exact Keep.refl _ | assumption))))⟩
      · have e2 : i = hs.length := by omega
        subst e2
        have h2 := HL.out
        rw [List.take_length] at h2
        by_cases h3 : hs.length ≤ 200
        · have e0 : E = 0 := by rw [← HE.out]; simp only [pmE, h1, h2, cond_true, decide_eq_true h3]
          have e1 : M = manyL l hs := by rw [← HM.out]; unfold pmL; rw [HE.out, e0]; rfl
          have e3 := manyL_len l hs
          rw [← e1] at e3
          have hpm := fun W h k => spec_l02Many g l c B hs d W (dkB_80 h1) (allD_iff.1 h2) hm2 h k
          rw [← e1] at hpm
          subst e0
          have E3 := Aside.mk e3
          have hz8 := hk.size
          clear h2 HL HE HM e1 e3
          (go_wp2_with fail); (go_at_call 103); (refine (hpm _ (hR.keep hk) (hS.keep hk)).mono ?_); rintro e w3 ⟨v, rfl, ho, hk3⟩
          have HO := Aside.mk (own_base ho hz8)
          have k3 : Keep w w3 := (by ((repeat (first | (with_reducible assumption) | ((with_reducible refine Keep.setCell ?_ ?_ _); rotate_left; focus (first | omega | (simp; done) | (simp; omega))) | (with_reducible refine Keep.alloc ?_ _) | (with_reducible refine Keep.drewN ?_ _) | (with_reducible refine Keep.drew ?_) | (with_reducible exact Keep.refl _) | refine Keep.trans ?_ (by with_reducible assumption) | exact Keep.refl _ | assumption))))
          clear ho hk3
          go_wp2
          go_ret2; exact ⟨_, rfl, by rw [E3.out]; exact HO.out, (by ((repeat (first | (with_reducible assumption) | ((with_reducible refine Keep.setCell ?_ ?_ _); rotate_left; focus (first | omega | (simp; done) | (simp; omega))) | (with_reducible refine Keep.alloc ?_ _) | (with_reducible refine Keep.drewN ?_ _) | (with_reducible refine Keep.drew ?_) | (with_reducible exact Keep.refl _) | refine Keep.trans ?_ (by with_reducible assumption) | exact Keep.refl _ | assumption))))⟩
        · have e0 : E = 3 := by rw [← HE.out]; simp only [pmE, h1, h2, cond_true, decide_eq_false h3, cond_false]
          have e1 : M = [] := by rw [← HM.out]; exact pmL_no (by rw [HE.out, e0]; decide)
          subst e0 e1
          have hz8 := hk.size
          clear h2 HL
          go_wp2
          go_ret2; exact ⟨_, rfl, own_emptyN wr _ 108 3 hz8, (by ((repeat (first | (with_reducible assumption) | ((with_reducible refine Keep.setCell ?_ ?_ _); rotate_left; focus (first | omega | (simp; done) | (simp; omega))) | (with_reducible refine Keep.alloc ?_ _) | (with_reducible refine Keep.drewN ?_ _) | (with_reducible refine Keep.drew ?_) | (with_reducible exact Keep.refl _) | refine Keep.trans ?_ (by with_reducible assumption) | exact Keep.refl _ | assumption))))⟩
theorem pmL_len (l : List Cd) (hs : List Int) : (pmL l hs).length ≤ 80 := by
  by_cases h : pmE l hs = 0
  · unfold pmL; rw [h]
    have : dkB l = true := by
      cases h1 : dkB l
      · simp [pmE, h1] at h
      · rfl
    have := dkB_80 this
    rw [show ((0 : Int) == 0) = true from rfl, cond_true, manyL_len]; omega
  · rw [pmL_no h]; simp
theorem laws_FnExactPassMany (A : Option Addr) (l : List Cd) (c : Nat) (B : Option Addr) (hs : List Int) (d : Nat) (w : World) (hl : l.length ≤ 9223372036854775807 ∧ CSz l ∧ Rd w A (cds l)) (hh : hs.length ≤ 9223372036854775807 ∧ Rd w B (ints hs)) :
    Calls Tryd.prog 11 #[.slice A l.length c, .slice B hs.length d] w fun e w' => e = .returned (.bool true) ∧ Keep w w' := by
  obtain ⟨hl1, hlz, hR⟩ := hl
  obtain ⟨hm2, hS⟩ := hh
  by_cases hsn : hs.length ≤ 1048576
  · by_cases hn : (1048576 : Int) < (l.length + cSum l : Nat)
    · have e1 := szD_gt hn
      go_enter Tryd.func11, Tryd.ntmps11
      (go_wp2_with fail); (go_at_call 26); (refine (laws_szCardS _ _ _ 1048576 _ (by decide) hl1 hlz hR).mono ?_); rintro e w1 ⟨rfl, hk1⟩
      rw [e1]
      go_wp2
      go_ret; exact ⟨rfl, (by ((repeat (first | (with_reducible assumption) | ((with_reducible refine Keep.setCell ?_ ?_ _); rotate_left; focus (first | omega | (simp; done) | (simp; omega))) | (with_reducible refine Keep.alloc ?_ _) | (with_reducible refine Keep.drewN ?_ _) | (with_reducible refine Keep.drew ?_) | (with_reducible exact Keep.refl _) | refine Keep.trans ?_ (by with_reducible assumption) | exact Keep.refl _ | assumption))))⟩
    · obtain ⟨left, hleft⟩ : ∃ x, szD 1048576 l = x := ⟨_, rfl⟩
      have e1 : left = 1048576 - (l.length + cSum l : Nat) := by rw [← hleft]; exact szD_le hn
      have hl0 : ¬ left < 0 := by omega
      have hln : l.length ≤ 1048576 := by omega
      have hpl := pmL_len l hs
      have hI := Aside.mk (fun g B c d W hc hr hq => impl_PassMany g l c B hs d W hl1 hc hlz hm2 hr hq)
      have hJ := Aside.mk (fun g B c d W hr hq => spec_PassMany g l c B hs d W hl1 hlz hm2 hr hq)
      generalize pmL l hs = L at *
      generalize pmE l hs = E at *
      have hpn : L.length ≤ 1048576 := by omega
      clear hn e1 hpl
      go_enter Tryd.func11, Tryd.ntmps11
      (go_wp2_with fail); (go_at_call 26); (refine (laws_szCardS _ _ _ 1048576 _ (by decide) hl1 hlz hR).mono ?_); rintro e w1 ⟨rfl, hW⟩
      rw [hleft]
      clear hleft
      (go_wp2_with fail); (go_at_call 28); (refine (laws_toCardS _ _ _ _ hln (hR.keep hW)).mono ?_); rintro e w2 ⟨g2, rfl, ho2, hk⟩
      have kk : Keep w1 w2 := (by ((repeat (first | (with_reducible assumption) | ((with_reducible refine Keep.setCell ?_ ?_ _); rotate_left; focus (first | omega | (simp; done) | (simp; omega))) | (with_reducible refine Keep.alloc ?_ _) | (with_reducible refine Keep.drewN ?_ _) | (with_reducible refine Keep.drew ?_) | (with_reducible exact Keep.refl _) | refine Keep.trans ?_ (by with_reducible assumption) | exact Keep.refl _ | assumption))))
      replace hW := hW.trans kk
      clear hk kk
      have hx0 := Own.new ho2
      clear ho2
      (go_wp2_with fail); (go_at_call 51); (refine (laws_toInt64S _ _ _ _ hsn (hS.keep hW)).mono ?_); rintro e x2 ⟨j2, rfl, ho2, hk⟩
      have kk : Keep w2 x2 := (by ((repeat (first | (with_reducible assumption) | ((with_reducible refine Keep.setCell ?_ ?_ _); rotate_left; focus (first | omega | (simp; done) | (simp; omega))) | (with_reducible refine Keep.alloc ?_ _) | (with_reducible refine Keep.drewN ?_ _) | (with_reducible refine Keep.drew ?_) | (with_reducible exact Keep.refl _) | refine Keep.trans ?_ (by with_reducible assumption) | exact Keep.refl _ | assumption))))
      replace hx0 := hx0.keep kk
      replace hW := hW.trans kk
      clear hk kk
      have hy0 := Own.new ho2
      clear ho2
      (go_wp2_with fail); (go_at_call 50); (refine (hJ.out _ _ _ _ _ hx0.rd hy0.rd).mono ?_); rintro e w3 ⟨v3, rfl, o3, hk⟩
      have kk : Keep x2 w3 := (by ((repeat (first | (with_reducible assumption) | ((with_reducible refine Keep.setCell ?_ ?_ _); rotate_left; focus (first | omega | (simp; done) | (simp; omega))) | (with_reducible refine Keep.alloc ?_ _) | (with_reducible refine Keep.drewN ?_ _) | (with_reducible refine Keep.drew ?_) | (with_reducible exact Keep.refl _) | refine Keep.trans ?_ (by with_reducible assumption) | exact Keep.refl _ | assumption))))
      replace hW := hW.trans kk
      clear hk kk
      have hw := Own.new o3
      obtain ⟨A3, c3, rfl⟩ := hw.form
      clear hx0 hy0 o3
      have z3 := hW.size
      have s3 := hW
      (go_wp2_with fail); (go_at_call 28); (refine (laws_toCardS _ _ _ _ hln (hR.keep hW)).mono ?_); rintro e w4 ⟨g4, rfl, ho4, hk⟩
      have kk : Keep w3 w4 := (by ((repeat (first | (with_reducible assumption) | ((with_reducible refine Keep.setCell ?_ ?_ _); rotate_left; focus (first | omega | (simp; done) | (simp; omega))) | (with_reducible refine Keep.alloc ?_ _) | (with_reducible refine Keep.drewN ?_ _) | (with_reducible refine Keep.drew ?_) | (with_reducible exact Keep.refl _) | refine Keep.trans ?_ (by with_reducible assumption) | exact Keep.refl _ | assumption))))
      replace hw := hw.keep kk
      replace hW := hW.trans kk
      clear hk kk
      have hz34 : w3.heap.size ≤ w4.heap.size := by have := ho4.lt g4 rfl; omega
      clear s3
      have hx := Own.new ho4
      clear ho4
      have s4 := hW.size
      (go_wp2_with fail); (go_at_call 51); (refine (laws_toInt64S _ _ _ _ hsn (hS.keep hW)).mono ?_); rintro e x4 ⟨j4, rfl, ho4, hk⟩
      have kk : Keep w4 x4 := (by ((repeat (first | (with_reducible assumption) | ((with_reducible refine Keep.setCell ?_ ?_ _); rotate_left; focus (first | omega | (simp; done) | (simp; omega))) | (with_reducible refine Keep.alloc ?_ _) | (with_reducible refine Keep.drewN ?_ _) | (with_reducible refine Keep.drew ?_) | (with_reducible exact Keep.refl _) | refine Keep.trans ?_ (by with_reducible assumption) | exact Keep.refl _ | assumption))))
      replace hw := hw.keep kk
      replace hx := hx.keep kk
      replace hW := hW.trans kk
      clear hk kk
      have hz44 : w4.heap.size ≤ x4.heap.size := by have := ho4.lt; have := ho4.2; rcases this with ⟨h1, _⟩ | ⟨g, cap, cur, h1, h2, h3, _⟩ <;> first | (simp at h1; done) | (simp at h1; obtain ⟨rfl, _⟩ := h1; have := (Array.getElem?_eq_some_iff.1 h3).1; omega)
      have hy := Own.new ho4
      clear ho4
      have z4 := hW.size
      (go_wp2_with fail); (go_at_call 52); (refine (hI.out _ _ _ _ _ (Nat.le_refl _) hx.rd hy.rd).mono ?_); rintro e w5 ⟨v5, rfl, o5, hk⟩
      have kk : Keep x4 w5 := (by ((repeat (first | (with_reducible assumption) | ((with_reducible refine Keep.setCell ?_ ?_ _); rotate_left; focus (first | omega | (simp; done) | (simp; omega))) | (with_reducible refine Keep.alloc ?_ _) | (with_reducible refine Keep.drewN ?_ _) | (with_reducible refine Keep.drew ?_) | (with_reducible exact Keep.refl _) | refine Keep.trans ?_ (by with_reducible assumption) | exact Keep.refl _ | assumption))))
      replace hw := hw.keep kk
      replace hx := hx.keep kk
      replace hy := hy.keep kk
      replace hW := hW.trans kk
      clear hk kk
      have hg := Own.new o5
      obtain ⟨A5, c5, rfl⟩ := hg.form
      clear o5
      (go_wp2_with fail); (go_at_call 30); (refine (laws_eqCardS _ _ _ _ _ _ hpn hg.rd hw.rd).mono ?_); rintro e w6 ⟨rfl, hk⟩
      have kk : Keep w5 w6 := (by ((repeat (first | (with_reducible assumption) | ((with_reducible refine Keep.setCell ?_ ?_ _); rotate_left; focus (first | omega | (simp; done) | (simp; omega))) | (with_reducible refine Keep.alloc ?_ _) | (with_reducible refine Keep.drewN ?_ _) | (with_reducible refine Keep.drew ?_) | (with_reducible exact Keep.refl _) | refine Keep.trans ?_ (by with_reducible assumption) | exact Keep.refl _ | assumption))))
      replace hw := hw.keep kk
      replace hx := hx.keep kk
      replace hy := hy.keep kk
      replace hg := hg.keep kk
      replace hW := hW.trans kk
      clear hk kk
      (go_wp2_with fail); (go_at_call 28); (refine (laws_toCardS _ _ _ _ hln (hR.keep hW)).mono ?_); rintro e w7 ⟨g7, rfl, ho7, hk⟩
      have kk : Keep w6 w7 := (by ((repeat (first | (with_reducible assumption) | ((with_reducible refine Keep.setCell ?_ ?_ _); rotate_left; focus (first | omega | (simp; done) | (simp; omega))) | (with_reducible refine Keep.alloc ?_ _) | (with_reducible refine Keep.drewN ?_ _) | (with_reducible refine Keep.drew ?_) | (with_reducible exact Keep.refl _) | refine Keep.trans ?_ (by with_reducible assumption) | exact Keep.refl _ | assumption))))
      replace hw := hw.keep kk
      replace hx := hx.keep kk
      replace hy := hy.keep kk
      replace hg := hg.keep kk
      replace hW := hW.trans kk
      clear hk kk
      (go_wp2_with fail); (go_at_call 30); (refine (laws_eqCardS _ _ _ _ _ _ hln hx.rd (own_rdc ho7)).mono ?_); rintro e w8 ⟨rfl, hk⟩
      have kk : Keep w7 w8 := (by ((repeat (first | (with_reducible assumption) | ((with_reducible refine Keep.setCell ?_ ?_ _); rotate_left; focus (first | omega | (simp; done) | (simp; omega))) | (with_reducible refine Keep.alloc ?_ _) | (with_reducible refine Keep.drewN ?_ _) | (with_reducible refine Keep.drew ?_) | (with_reducible exact Keep.refl _) | refine Keep.trans ?_ (by with_reducible assumption) | exact Keep.refl _ | assumption))))
      replace hw := hw.keep kk
      replace hx := hx.keep kk
      replace hy := hy.keep kk
      replace hg := hg.keep kk
      replace hW := hW.trans kk
      clear hk kk
      clear ho7
      (go_wp2_with fail); (go_at_call 51); (refine (laws_toInt64S _ _ _ _ hsn (hS.keep hW)).mono ?_); rintro e x7 ⟨g7, rfl, ho7, hk⟩
      have kk : Keep w8 x7 := (by ((repeat (first | (with_reducible assumption) | ((with_reducible refine Keep.setCell ?_ ?_ _); rotate_left; focus (first | omega | (simp; done) | (simp; omega))) | (with_reducible refine Keep.alloc ?_ _) | (with_reducible refine Keep.drewN ?_ _) | (with_reducible refine Keep.drew ?_) | (with_reducible exact Keep.refl _) | refine Keep.trans ?_ (by with_reducible assumption) | exact Keep.refl _ | assumption))))
      replace hw := hw.keep kk
      replace hx := hx.keep kk
      replace hy := hy.keep kk
      replace hg := hg.keep kk
      replace hW := hW.trans kk
      clear hk kk
      (go_wp2_with fail); (go_at_call 47); (refine (laws_eqInt64S _ _ _ _ _ _ hsn hy.rd (Own.new ho7).rd).mono ?_); rintro e x8 ⟨rfl, hk⟩
      have kk : Keep x7 x8 := (by ((repeat (first | (with_reducible assumption) | ((with_reducible refine Keep.setCell ?_ ?_ _); rotate_left; focus (first | omega | (simp; done) | (simp; omega))) | (with_reducible refine Keep.alloc ?_ _) | (with_reducible refine Keep.drewN ?_ _) | (with_reducible refine Keep.drew ?_) | (with_reducible exact Keep.refl _) | refine Keep.trans ?_ (by with_reducible assumption) | exact Keep.refl _ | assumption))))
      replace hw := hw.keep kk
      replace hx := hx.keep kk
      replace hy := hy.keep kk
      replace hg := hg.keep kk
      replace hW := hW.trans kk
      clear hk kk
      clear ho7
      (go_wp2_with fail); (go_at_call 40); (refine (laws_markCardS _ _ _ _ _ 1 _ hln (by decide) (by decide) hx.out).mono ?_); rintro e w9 ⟨rfl, om, hgr⟩
      replace hw := hw.other hgr (fun k hk => .inr (hx.lt k hk).1)
      replace hg := hg.other hgr (fun k hk => .inl (Nat.lt_of_lt_of_le (hx.lt k hk).2 hz44))
      replace hy := hy.other hgr (fun k hk => .inl (hx.lt k hk).2)
      replace hW := hx.keepW hW hgr z3
      clear hx om hgr
      (go_wp2_with fail); (go_at_call 48); (refine (laws_markInt64B _ _ _ _ _ ((1 + 3 * l.length : Nat) : Int) _ hsn (by omega) (by omega) hy.out).mono ?_); rintro e x9 ⟨rfl, om, hgr⟩
      replace hw := hw.other hgr (fun k hk => .inr (Nat.le_trans hz34 (hy.lt k hk).1))
      replace hg := hg.other hgr (fun k hk => .inl (hy.lt k hk).2)
      replace hW := hy.keepW hW hgr s4
      clear hy om hgr
      (go_wp2_with fail); (go_at_call 30); (refine (laws_eqCardS _ _ _ _ _ _ hpn hg.rd hw.rd).mono ?_); rintro e w10 ⟨rfl, hk⟩
      have kk : Keep x9 w10 := (by ((repeat (first | (with_reducible assumption) | ((with_reducible refine Keep.setCell ?_ ?_ _); rotate_left; focus (first | omega | (simp; done) | (simp; omega))) | (with_reducible refine Keep.alloc ?_ _) | (with_reducible refine Keep.drewN ?_ _) | (with_reducible refine Keep.drew ?_) | (with_reducible exact Keep.refl _) | refine Keep.trans ?_ (by with_reducible assumption) | exact Keep.refl _ | assumption))))
      replace hw := hw.keep kk
      replace hg := hg.keep kk
      replace hW := hW.trans kk
      clear hk kk
      (go_wp2_with fail); (go_at_call 40); (refine (laws_markCardS _ _ _ _ _ 1 _ hpn (by decide) (by decide) hg.out).mono ?_); rintro e w11 ⟨rfl, om, hgr⟩
      have hm := Own.mk om hg.lt
      replace hw := hw.other hgr (fun k hk => .inr (Nat.le_trans hz34 (Nat.le_trans hz44 (hg.lt k hk).1)))
      replace hW := hg.keepW hW hgr z4
      clear hg om hgr
      (go_wp2_with fail); (go_at_call 41); (refine (laws_heldCardS _ _ _ 1 _ hpn (by decide) (by decide) hm.rd).mono ?_); rintro e w12 ⟨rfl, hk⟩
      have kk : Keep w11 w12 := (by ((repeat (first | (with_reducible assumption) | ((with_reducible refine Keep.setCell ?_ ?_ _); rotate_left; focus (first | omega | (simp; done) | (simp; omega))) | (with_reducible refine Keep.alloc ?_ _) | (with_reducible refine Keep.drewN ?_ _) | (with_reducible refine Keep.drew ?_) | (with_reducible exact Keep.refl _) | refine Keep.trans ?_ (by with_reducible assumption) | exact Keep.refl _ | assumption))))
      replace hw := hw.keep kk
      replace hm := hm.keep kk
      replace hW := hW.trans kk
      clear hk kk
      (go_wp2_with fail); (go_at_call 28); (refine (laws_toCardS _ _ _ _ hln (hR.keep hW)).mono ?_); rintro e w13 ⟨g13, rfl, ho13, hk⟩
      have kk : Keep w12 w13 := (by ((repeat (first | (with_reducible assumption) | ((with_reducible refine Keep.setCell ?_ ?_ _); rotate_left; focus (first | omega | (simp; done) | (simp; omega))) | (with_reducible refine Keep.alloc ?_ _) | (with_reducible refine Keep.drewN ?_ _) | (with_reducible refine Keep.drew ?_) | (with_reducible exact Keep.refl _) | refine Keep.trans ?_ (by with_reducible assumption) | exact Keep.refl _ | assumption))))
      replace hw := hw.keep kk
      replace hm := hm.keep kk
      replace hW := hW.trans kk
      clear hk kk
      have hx := Own.new ho13
      clear ho13
      (go_wp2_with fail); (go_at_call 51); (refine (laws_toInt64S _ _ _ _ hsn (hS.keep hW)).mono ?_); rintro e x13 ⟨j13, rfl, ho13, hk⟩
      have kk : Keep w13 x13 := (by ((repeat (first | (with_reducible assumption) | ((with_reducible refine Keep.setCell ?_ ?_ _); rotate_left; focus (first | omega | (simp; done) | (simp; omega))) | (with_reducible refine Keep.alloc ?_ _) | (with_reducible refine Keep.drewN ?_ _) | (with_reducible refine Keep.drew ?_) | (with_reducible exact Keep.refl _) | refine Keep.trans ?_ (by with_reducible assumption) | exact Keep.refl _ | assumption))))
      replace hw := hw.keep kk
      replace hm := hm.keep kk
      replace hx := hx.keep kk
      replace hW := hW.trans kk
      clear hk kk
      have hy := Own.new ho13
      clear ho13
      (go_wp2_with fail); (go_at_call 52); (refine (hI.out _ _ _ _ _ (Nat.le_refl _) hx.rd hy.rd).mono ?_); rintro e w14 ⟨v14, rfl, o14, hk⟩
      have kk : Keep x13 w14 := (by ((repeat (first | (with_reducible assumption) | ((with_reducible refine Keep.setCell ?_ ?_ _); rotate_left; focus (first | omega | (simp; done) | (simp; omega))) | (with_reducible refine Keep.alloc ?_ _) | (with_reducible refine Keep.drewN ?_ _) | (with_reducible refine Keep.drew ?_) | (with_reducible exact Keep.refl _) | refine Keep.trans ?_ (by with_reducible assumption) | exact Keep.refl _ | assumption))))
      replace hw := hw.keep kk
      replace hm := hm.keep kk
      replace hW := hW.trans kk
      clear hk kk
      have hg := Own.new o14
      obtain ⟨A14, c14, rfl⟩ := hg.form
      clear o14 hx hy
      (go_wp2_with fail); (go_at_call 30); (refine (laws_eqCardS _ _ _ _ _ _ hpn hg.rd hw.rd).mono ?_); rintro e w15 ⟨rfl, hk⟩
      have kk : Keep w14 w15 := (by ((repeat (first | (with_reducible assumption) | ((with_reducible refine Keep.setCell ?_ ?_ _); rotate_left; focus (first | omega | (simp; done) | (simp; omega))) | (with_reducible refine Keep.alloc ?_ _) | (with_reducible refine Keep.drewN ?_ _) | (with_reducible refine Keep.drew ?_) | (with_reducible exact Keep.refl _) | refine Keep.trans ?_ (by with_reducible assumption) | exact Keep.refl _ | assumption))))
      replace hm := hm.keep kk
      replace hW := hW.trans kk
      clear hk kk
      (go_wp2_with fail); (go_at_call 41); (refine (laws_heldCardS _ _ _ 1 _ hpn (by decide) (by decide) hm.rd).mono ?_); rintro e w16 ⟨rfl, hk⟩
      have kk : Keep w15 w16 := (by ((repeat (first | (with_reducible assumption) | ((with_reducible refine Keep.setCell ?_ ?_ _); rotate_left; focus (first | omega | (simp; done) | (simp; omega))) | (with_reducible refine Keep.alloc ?_ _) | (with_reducible refine Keep.drewN ?_ _) | (with_reducible refine Keep.drew ?_) | (with_reducible exact Keep.refl _) | refine Keep.trans ?_ (by with_reducible assumption) | exact Keep.refl _ | assumption))))
      replace hW := hW.trans kk
      clear hk kk
      clear hw hg hm
      go_wp2
      go_ret; exact ⟨rfl, (by ((repeat (first | (with_reducible assumption) | ((with_reducible refine Keep.setCell ?_ ?_ _); rotate_left; focus (first | omega | (simp; done) | (simp; omega))) | (with_reducible refine Keep.alloc ?_ _) | (with_reducible refine Keep.drewN ?_ _) | (with_reducible refine Keep.drew ?_) | (with_reducible exact Keep.refl _) | refine Keep.trans ?_ (by with_reducible assumption) | exact Keep.refl _ | assumption))))⟩
  · have hsn' : (1048576 : Int) < hs.length := by omega
    go_enter Tryd.func11, Tryd.ntmps11
    go_wp2
    go_ret; exact ⟨rfl, (by ((repeat (first | (with_reducible assumption) | ((with_reducible refine Keep.setCell ?_ ?_ _); rotate_left; focus (first | omega | (simp; done) | (simp; omega))) | (with_reducible refine Keep.alloc ?_ _) | (with_reducible refine Keep.drewN ?_ _) | (with_reducible refine Keep.drew ?_) | (with_reducible exact Keep.refl _) | refine Keep.trans ?_ (by with_reducible assumption) | exact Keep.refl _ | assumption))))⟩
end Go.Proofs.YtpmilcfppcmodaaDoor

/- The laws of valid decks and of cards found by name. -/
import Derived.Test.YtpmilcfppcmodaaDoorDW1
set_option linter.unusedVariables false
set_option linter.unusedSimpArgs false
namespace Go.Proofs.YtpmilcfppcmodaaDoor
open Go.RowKit
set_option maxHeartbeats 1000000
set_option maxRecDepth 20000
theorem laws_FnExactValidDeck (A : Option Addr) (l : List Cd) (c : Nat) (w : World) (hl : l.length ≤ 9223372036854775807 ∧ CSz l ∧ Rd w A (cds l)) :
    Calls Tryd.prog 4 #[.slice A l.length c] w fun e w' => e = .returned (.bool true) ∧ Keep w w' := by
  obtain ⟨hl1, hlz, hR⟩ := hl
  by_cases hn : (1048576 : Int) < (l.length + cSum l : Nat)
  · have e1 := szD_gt hn
    go_enter Tryd.func4, Tryd.ntmps4
    (go_wp2_with fail); (go_at_call 26); (refine (laws_szCardS _ _ _ 1048576 _ (by decide) hl1 hlz hR).mono ?_); rintro e w1 ⟨rfl, hk1⟩
    rw [e1]
    go_wp2
    go_ret; exact ⟨rfl, (by ((repeat (first | (with_reducible assumption) | ((with_reducible refine Keep.setCell ?_ ?_ _); rotate_left; focus (first | omega | (simp; done) | (simp; omega))) | (with_reducible refine Keep.alloc ?_ _) | (with_reducible refine Keep.drewN ?_ _) | (with_reducible refine Keep.drew ?_) | (with_reducible exact Keep.refl _) | refine Keep.trans ?_ (by with_reducible assumption) | exact Keep.refl _ | assumption))))⟩
  · obtain ⟨left, hleft⟩ : ∃ x, szD 1048576 l = x := ⟨_, rfl⟩
    have e1 : left = 1048576 - (l.length + cSum l : Nat) := by rw [← hleft]; exact szD_le hn
    have hl0 : ¬ left < 0 := by omega
    have hln : l.length ≤ 1048576 := by omega
    have hI := fun A c W hc h => impl_ValidDeck A l c W hl1 hc hlz h
    have hJ := fun A c W h => spec_ValidDeck A l c W hl1 hlz h
    generalize dkB l = r at *
    clear hn e1
    go_enter Tryd.func4, Tryd.ntmps4
    (go_wp2_with fail); (go_at_call 26); (refine (laws_szCardS _ _ _ 1048576 _ (by decide) hl1 hlz hR).mono ?_); rintro e w1 ⟨rfl, hW⟩
    rw [hleft]
    clear hleft
    (go_wp2_with fail); (go_at_call 28); (refine (laws_toCardS _ _ _ _ hln (hR.keep hW)).mono ?_); rintro e w2 ⟨g2, rfl, ho2, hk⟩
    have kk : Keep w1 w2 := (by ((repeat (first | (with_reducible assumption) | ((with_reducible refine Keep.setCell ?_ ?_ _); rotate_left; focus (first | omega | (simp; done) | (simp; omega))) | (with_reducible refine Keep.alloc ?_ _) | (with_reducible refine Keep.drewN ?_ _) | (with_reducible refine Keep.drew ?_) | (with_reducible exact Keep.refl _) | refine Keep.trans ?_ (by with_reducible assumption) | exact Keep.refl _ | assumption))))
    replace hW := hW.trans kk
    clear hk kk
    (go_wp2_with fail); (go_at_call 27); (refine (hJ _ _ _ (own_rdc ho2)).mono ?_); rintro e w3 ⟨rfl, hk⟩
    have kk : Keep w2 w3 := (by ((repeat (first | (with_reducible assumption) | ((with_reducible refine Keep.setCell ?_ ?_ _); rotate_left; focus (first | omega | (simp; done) | (simp; omega))) | (with_reducible refine Keep.alloc ?_ _) | (with_reducible refine Keep.drewN ?_ _) | (with_reducible refine Keep.drew ?_) | (with_reducible exact Keep.refl _) | refine Keep.trans ?_ (by with_reducible assumption) | exact Keep.refl _ | assumption))))
    replace hW := hW.trans kk
    clear hk kk
    clear ho2
    (go_wp2_with fail); (go_at_call 28); (refine (laws_toCardS _ _ _ _ hln (hR.keep hW)).mono ?_); rintro e w4 ⟨g4, rfl, ho4, hk⟩
    have kk : Keep w3 w4 := (by ((repeat (first | (with_reducible assumption) | ((with_reducible refine Keep.setCell ?_ ?_ _); rotate_left; focus (first | omega | (simp; done) | (simp; omega))) | (with_reducible refine Keep.alloc ?_ _) | (with_reducible refine Keep.drewN ?_ _) | (with_reducible refine Keep.drew ?_) | (with_reducible exact Keep.refl _) | refine Keep.trans ?_ (by with_reducible assumption) | exact Keep.refl _ | assumption))))
    replace hW := hW.trans kk
    clear hk kk
    have h4 := Own.new ho4
    clear ho4
    (go_wp2_with fail); (go_at_call 29); (refine (hI _ _ _ (Nat.le_refl _) h4.rd).mono ?_); rintro e w5 ⟨rfl, hk⟩
    have kk : Keep w4 w5 := (by ((repeat (first | (with_reducible assumption) | ((with_reducible refine Keep.setCell ?_ ?_ _); rotate_left; focus (first | omega | (simp; done) | (simp; omega))) | (with_reducible refine Keep.alloc ?_ _) | (with_reducible refine Keep.drewN ?_ _) | (with_reducible refine Keep.drew ?_) | (with_reducible exact Keep.refl _) | refine Keep.trans ?_ (by with_reducible assumption) | exact Keep.refl _ | assumption))))
    replace h4 := h4.keep kk
    replace hW := hW.trans kk
    clear hk kk
    (go_wp2_with fail); (go_at_call 28); (refine (laws_toCardS _ _ _ _ hln (hR.keep hW)).mono ?_); rintro e w6 ⟨g6, rfl, ho6, hk⟩
    have kk : Keep w5 w6 := (by ((repeat (first | (with_reducible assumption) | ((with_reducible refine Keep.setCell ?_ ?_ _); rotate_left; focus (first | omega | (simp; done) | (simp; omega))) | (with_reducible refine Keep.alloc ?_ _) | (with_reducible refine Keep.drewN ?_ _) | (with_reducible refine Keep.drew ?_) | (with_reducible exact Keep.refl _) | refine Keep.trans ?_ (by with_reducible assumption) | exact Keep.refl _ | assumption))))
    replace h4 := h4.keep kk
    replace hW := hW.trans kk
    clear hk kk
    (go_wp2_with fail); (go_at_call 30); (refine (laws_eqCardS _ _ _ _ _ _ hln h4.rd (own_rdc ho6)).mono ?_); rintro e w7 ⟨rfl, hk⟩
    have kk : Keep w6 w7 := (by ((repeat (first | (with_reducible assumption) | ((with_reducible refine Keep.setCell ?_ ?_ _); rotate_left; focus (first | omega | (simp; done) | (simp; omega))) | (with_reducible refine Keep.alloc ?_ _) | (with_reducible refine Keep.drewN ?_ _) | (with_reducible refine Keep.drew ?_) | (with_reducible exact Keep.refl _) | refine Keep.trans ?_ (by with_reducible assumption) | exact Keep.refl _ | assumption))))
    replace hW := hW.trans kk
    clear hk kk
    clear ho6 h4
    go_wp2
    go_ret; exact ⟨rfl, (by ((repeat (first | (with_reducible assumption) | ((with_reducible refine Keep.setCell ?_ ?_ _); rotate_left; focus (first | omega | (simp; done) | (simp; omega))) | (with_reducible refine Keep.alloc ?_ _) | (with_reducible refine Keep.drewN ?_ _) | (with_reducible refine Keep.drew ?_) | (with_reducible exact Keep.refl _) | refine Keep.trans ?_ (by with_reducible assumption) | exact Keep.refl _ | assumption))))⟩
theorem laws_FnExactFindCard (A : Option Addr) (l : List Cd) (c : Nat) (s : ByteArray) (w : World) (hl : l.length ≤ 9223372036854775807 ∧ CSz l ∧ Rd w A (cds l)) (hs : s.size ≤ 9223372036854775807) :
    Calls Tryd.prog 5 #[.slice A l.length c, .string s] w fun e w' => e = .returned (.bool true) ∧ Keep w w' := by
  obtain ⟨hl1, hlz, hR⟩ := hl
  by_cases hsn : s.size ≤ 1048576
  · by_cases hn : (1048576 : Int) < (l.length + cSum l : Nat)
    · have e1 := szD_gt hn
      go_enter Tryd.func5, Tryd.ntmps5
      (go_wp2_with fail); (go_at_call 26); (refine (laws_szCardS _ _ _ 1048576 _ (by decide) hl1 hlz hR).mono ?_); rintro e w1 ⟨rfl, hk1⟩
      rw [e1]
      go_wp2
      go_ret; exact ⟨rfl, (by ((repeat (first | (with_reducible assumption) | ((with_reducible refine Keep.setCell ?_ ?_ _); rotate_left; focus (first | omega | (simp; done) | (simp; omega))) | (with_reducible refine Keep.alloc ?_ _) | (with_reducible refine Keep.drewN ?_ _) | (with_reducible refine Keep.drew ?_) | (with_reducible exact Keep.refl _) | refine Keep.trans ?_ (by with_reducible assumption) | exact Keep.refl _ | assumption))))⟩
    · obtain ⟨left, hleft⟩ : ∃ x, szD 1048576 l = x := ⟨_, rfl⟩
      have e1 : left = 1048576 - (l.length + cSum l : Nat) := by rw [← hleft]; exact szD_le hn
      have hl0 : ¬ left < 0 := by omega
      have hln : l.length ≤ 1048576 := by omega
      have hI := fun A c W hc h => impl_FindCard A l c s W hl1 hc hlz h
      have hJ := fun A c W h => spec_FindCard A l c s W hl1 hlz h
      generalize fcN l s = r at *
      generalize fcE l s = r2 at *
      clear hn e1
      go_enter Tryd.func5, Tryd.ntmps5
      (go_wp2_with fail); (go_at_call 26); (refine (laws_szCardS _ _ _ 1048576 _ (by decide) hl1 hlz hR).mono ?_); rintro e w1 ⟨rfl, hW⟩
      rw [hleft]
      clear hleft
      (go_wp2_with fail); (go_at_call 28); (refine (laws_toCardS _ _ _ _ hln (hR.keep hW)).mono ?_); rintro e w2 ⟨g2, rfl, ho2, hk⟩
      have kk : Keep w1 w2 := (by ((repeat (first | (with_reducible assumption) | ((with_reducible refine Keep.setCell ?_ ?_ _); rotate_left; focus (first | omega | (simp; done) | (simp; omega))) | (with_reducible refine Keep.alloc ?_ _) | (with_reducible refine Keep.drewN ?_ _) | (with_reducible refine Keep.drew ?_) | (with_reducible exact Keep.refl _) | refine Keep.trans ?_ (by with_reducible assumption) | exact Keep.refl _ | assumption))))
      replace hW := hW.trans kk
      clear hk kk
      (go_wp2_with fail); (go_at_call 31); (refine (hJ _ _ _ (own_rdc ho2)).mono ?_); rintro e w3 ⟨rfl, hk⟩
      have kk : Keep w2 w3 := (by ((repeat (first | (with_reducible assumption) | ((with_reducible refine Keep.setCell ?_ ?_ _); rotate_left; focus (first | omega | (simp; done) | (simp; omega))) | (with_reducible refine Keep.alloc ?_ _) | (with_reducible refine Keep.drewN ?_ _) | (with_reducible refine Keep.drew ?_) | (with_reducible exact Keep.refl _) | refine Keep.trans ?_ (by with_reducible assumption) | exact Keep.refl _ | assumption))))
      replace hW := hW.trans kk
      clear hk kk
      clear ho2
      (go_wp2_with fail); (go_at_call 28); (refine (laws_toCardS _ _ _ _ hln (hR.keep hW)).mono ?_); rintro e w4 ⟨g4, rfl, ho4, hk⟩
      have kk : Keep w3 w4 := (by ((repeat (first | (with_reducible assumption) | ((with_reducible refine Keep.setCell ?_ ?_ _); rotate_left; focus (first | omega | (simp; done) | (simp; omega))) | (with_reducible refine Keep.alloc ?_ _) | (with_reducible refine Keep.drewN ?_ _) | (with_reducible refine Keep.drew ?_) | (with_reducible exact Keep.refl _) | refine Keep.trans ?_ (by with_reducible assumption) | exact Keep.refl _ | assumption))))
      replace hW := hW.trans kk
      clear hk kk
      have h4 := Own.new ho4
      clear ho4
      (go_wp2_with fail); (go_at_call 32); (refine (hI _ _ _ (Nat.le_refl _) h4.rd).mono ?_); rintro e w5 ⟨rfl, hk⟩
      have kk : Keep w4 w5 := (by ((repeat (first | (with_reducible assumption) | ((with_reducible refine Keep.setCell ?_ ?_ _); rotate_left; focus (first | omega | (simp; done) | (simp; omega))) | (with_reducible refine Keep.alloc ?_ _) | (with_reducible refine Keep.drewN ?_ _) | (with_reducible refine Keep.drew ?_) | (with_reducible exact Keep.refl _) | refine Keep.trans ?_ (by with_reducible assumption) | exact Keep.refl _ | assumption))))
      replace h4 := h4.keep kk
      replace hW := hW.trans kk
      clear hk kk
      (go_wp2_with fail); (go_at_call 28); (refine (laws_toCardS _ _ _ _ hln (hR.keep hW)).mono ?_); rintro e w6 ⟨g6, rfl, ho6, hk⟩
      have kk : Keep w5 w6 := (by ((repeat (first | (with_reducible assumption) | ((with_reducible refine Keep.setCell ?_ ?_ _); rotate_left; focus (first | omega | (simp; done) | (simp; omega))) | (with_reducible refine Keep.alloc ?_ _) | (with_reducible refine Keep.drewN ?_ _) | (with_reducible refine Keep.drew ?_) | (with_reducible exact Keep.refl _) | refine Keep.trans ?_ (by with_reducible assumption) | exact Keep.refl _ | assumption))))
      replace h4 := h4.keep kk
      replace hW := hW.trans kk
      clear hk kk
      (go_wp2_with fail); (go_at_call 30); (refine (laws_eqCardS _ _ _ _ _ _ hln h4.rd (own_rdc ho6)).mono ?_); rintro e w7 ⟨rfl, hk⟩
      have kk : Keep w6 w7 := (by ((repeat (first | (with_reducible assumption) | ((with_reducible refine Keep.setCell ?_ ?_ _); rotate_left; focus (first | omega | (simp; done) | (simp; omega))) | (with_reducible refine Keep.alloc ?_ _) | (with_reducible refine Keep.drewN ?_ _) | (with_reducible refine Keep.drew ?_) | (with_reducible exact Keep.refl _) | refine Keep.trans ?_ (by with_reducible assumption) | exact Keep.refl _ | assumption))))
      replace hW := hW.trans kk
      clear hk kk
      clear ho6 h4
      go_wp2
      go_ret; exact ⟨rfl, (by ((repeat (first | (with_reducible assumption) | ((with_reducible refine Keep.setCell ?_ ?_ _); rotate_left; focus (first | omega | (simp; done) | (simp; omega))) | (with_reducible refine Keep.alloc ?_ _) | (with_reducible refine Keep.drewN ?_ _) | (with_reducible refine Keep.drew ?_) | (with_reducible exact Keep.refl _) | refine Keep.trans ?_ (by with_reducible assumption) | exact Keep.refl _ | assumption))))⟩
  · have hsn' : (1048576 : Int) < s.size := by omega
    go_enter Tryd.func5, Tryd.ntmps5
    go_wp2
    go_ret; exact ⟨rfl, (by ((repeat (first | (with_reducible assumption) | ((with_reducible refine Keep.setCell ?_ ?_ _); rotate_left; focus (first | omega | (simp; done) | (simp; omega))) | (with_reducible refine Keep.alloc ?_ _) | (with_reducible refine Keep.drewN ?_ _) | (with_reducible refine Keep.drew ?_) | (with_reducible exact Keep.refl _) | refine Keep.trans ?_ (by with_reducible assumption) | exact Keep.refl _ | assumption))))⟩
end Go.Proofs.YtpmilcfppcmodaaDoor

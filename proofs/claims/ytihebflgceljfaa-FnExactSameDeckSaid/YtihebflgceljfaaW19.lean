/- The law SameDeck. -/
import Derived.Test.YtihebflgceljfaaD2
import Derived.Test.YtihebflgceljfaaDT
set_option linter.unusedVariables false
set_option linter.unusedSimpArgs false
namespace Go.Proofs.Ytihebflgceljfaa
open Go.RowKit
set_option maxHeartbeats 1000000
set_option maxRecDepth 20000
theorem spec_SameDeck (A B : Option Addr) (l m : List Cd) (c d : Nat) (w : World) (hl : l.length ≤ 9223372036854775807) (hm : m.length ≤ 9223372036854775807) (hR : Rd w A (cds l)) (hS : Rd w B (cds m)) :
    Calls Try.prog 13 #[.slice A l.length c, .slice B m.length d] w fun e w' => e = .returned (.bool (decide (l = m))) ∧ Keep w w' := by
  have h := spec_l02Same A B l m c d w hl hm hR hS
  generalize decide (l = m) = r at *
  go_enter Try.func13, Try.ntmps13
  (go_wp2_with fail); (go_at_call 46); refine h.mono ?_; rintro e w1 ⟨rfl, hk1⟩
  go_wp2
  go_ret; exact ⟨rfl, (by ((repeat (first | (with_reducible assumption) | ((with_reducible refine Keep.setCell ?_ ?_ _); rotate_left; focus (first | omega | (simp; done) | (simp; omega))) | (with_reducible refine Keep.alloc ?_ _) | (with_reducible refine Keep.drewN ?_ _) | (with_reducible refine Keep.drew ?_) | (with_reducible exact Keep.refl _) | refine Keep.trans ?_ (by with_reducible assumption) | exact Keep.refl _ | assumption))))⟩
theorem impl_SameDeck (A B : Option Addr) (l m : List Cd) (c d : Nat) (w : World) (hl : l.length ≤ 9223372036854775807) (hm : m.length ≤ 9223372036854775807) (hR : Rd w A (cds l)) (hS : Rd w B (cds m)) :
    Calls Try.prog 15 #[.slice A l.length c, .slice B m.length d] w fun e w' => e = .returned (.bool (decide (l = m))) ∧ Keep w w' := by
  have h := slices_EqualC A B l m c d w hl hm hR hS
  generalize decide (l = m) = r at *
  go_enter Try.func15, Try.ntmps15
  (go_wp2_with fail); (go_at_call 48); refine h.mono ?_; rintro e w1 ⟨rfl, hk1⟩
  go_wp2
  go_ret; exact ⟨rfl, (by ((repeat (first | (with_reducible assumption) | ((with_reducible refine Keep.setCell ?_ ?_ _); rotate_left; focus (first | omega | (simp; done) | (simp; omega))) | (with_reducible refine Keep.alloc ?_ _) | (with_reducible refine Keep.drewN ?_ _) | (with_reducible refine Keep.drew ?_) | (with_reducible exact Keep.refl _) | refine Keep.trans ?_ (by with_reducible assumption) | exact Keep.refl _ | assumption))))⟩
theorem laws_FnExactSameDeck (A : Option Addr) (l : List Cd) (c : Nat) (B : Option Addr) (m : List Cd) (d : Nat) (w : World) (hl : l.length ≤ 9223372036854775807 ∧ CSz l ∧ Rd w A (cds l)) (hm : m.length ≤ 9223372036854775807 ∧ CSz m ∧ Rd w B (cds m)) :
    Calls Try.prog 4 #[.slice A l.length c, .slice B m.length d] w fun e w' => e = .returned (.bool true) ∧ Keep w w' := by
  obtain ⟨hl1, hlz, hR⟩ := hl
  obtain ⟨hm1, hmz, hS⟩ := hm
  by_cases hn : (1048576 : Int) < (l.length + cSum l : Nat)
  · have e1 := szD_gt hn
    go_enter Try.func4, Try.ntmps4
    (go_wp2_with fail); (go_at_call 12); (refine (laws_szCardS _ _ _ 1048576 _ (by decide) hl1 hlz hR).mono ?_); rintro e w1 ⟨rfl, hk1⟩
    rw [e1]
    go_wp2
    go_ret; exact ⟨rfl, (by ((repeat (first | (with_reducible assumption) | ((with_reducible refine Keep.setCell ?_ ?_ _); rotate_left; focus (first | omega | (simp; done) | (simp; omega))) | (with_reducible refine Keep.alloc ?_ _) | (with_reducible refine Keep.drewN ?_ _) | (with_reducible refine Keep.drew ?_) | (with_reducible exact Keep.refl _) | refine Keep.trans ?_ (by with_reducible assumption) | exact Keep.refl _ | assumption))))⟩
  · obtain ⟨left, hleft⟩ : ∃ x, szD 1048576 l = x := ⟨_, rfl⟩
    have e1 : left = 1048576 - (l.length + cSum l : Nat) := by rw [← hleft]; exact szD_le hn
    have hl0 : 0 ≤ left ∧ left ≤ 1048576 := by omega
    have hl0' : ¬ left < 0 := by omega
    have hln : l.length ≤ 1048576 := by omega
    clear hn
    by_cases hn2 : left < (m.length + cSum m : Nat)
    · have e2 := szD_gt hn2
      clear e1
      go_enter Try.func4, Try.ntmps4
      (go_wp2_with fail); (go_at_call 12); (refine (laws_szCardS _ _ _ 1048576 _ (by decide) hl1 hlz hR).mono ?_); rintro e w1 ⟨rfl, hk1⟩
      rw [hleft]
      (go_wp2_with fail); (go_at_call 12); (refine (laws_szCardS _ _ _ left _ hl0 hm1 hmz (hS.keep hk1)).mono ?_); rintro e w2 ⟨rfl, hk2⟩
      rw [e2]
      go_wp2
      go_ret; exact ⟨rfl, (by ((repeat (first | (with_reducible assumption) | ((with_reducible refine Keep.setCell ?_ ?_ _); rotate_left; focus (first | omega | (simp; done) | (simp; omega))) | (with_reducible refine Keep.alloc ?_ _) | (with_reducible refine Keep.drewN ?_ _) | (with_reducible refine Keep.drew ?_) | (with_reducible exact Keep.refl _) | refine Keep.trans ?_ (by with_reducible assumption) | exact Keep.refl _ | assumption))))⟩
    · obtain ⟨left2, hleft2⟩ : ∃ x, szD left m = x := ⟨_, rfl⟩
      have e2 : left2 = left - (m.length + cSum m : Nat) := by rw [← hleft2]; exact szD_le hn2
      have hl2 : ¬ left2 < 0 := by omega
      have hmn : m.length ≤ 1048576 := by omega
      clear e1 e2 hn2
      have hI := fun A B c d W h k => impl_SameDeck A B l m c d W hl1 hm1 h k
      have hJ := fun A B c d W h k => spec_SameDeck A B l m c d W hl1 hm1 h k
      generalize decide (l = m) = r at *
      go_enter Try.func4, Try.ntmps4
      (go_wp2_with fail); (go_at_call 12); (refine (laws_szCardS _ _ _ 1048576 _ (by decide) hl1 hlz hR).mono ?_); rintro e w1 ⟨rfl, hk1⟩
      rw [hleft]
      (go_wp2_with fail); (go_at_call 12); (refine (laws_szCardS _ _ _ left _ hl0 hm1 hmz (hS.keep hk1)).mono ?_); rintro e w2 ⟨rfl, hk2⟩
      rw [hleft2]
      have k2 : Keep w w2 := (by ((repeat (first | (with_reducible assumption) | ((with_reducible refine Keep.setCell ?_ ?_ _); rotate_left; focus (first | omega | (simp; done) | (simp; omega))) | (with_reducible refine Keep.alloc ?_ _) | (with_reducible refine Keep.drewN ?_ _) | (with_reducible refine Keep.drew ?_) | (with_reducible exact Keep.refl _) | refine Keep.trans ?_ (by with_reducible assumption) | exact Keep.refl _ | assumption))))
      clear hk1 hk2 hleft hleft2 hlz hmz
      (go_wp2_with fail); (go_at_call 14); (refine (laws_toCardS _ _ _ _ hln (hR.keep k2)).mono ?_); rintro e w3 ⟨g3, rfl, ho3, hk3⟩
      have k3 : Keep w w3 := (by ((repeat (first | (with_reducible assumption) | ((with_reducible refine Keep.setCell ?_ ?_ _); rotate_left; focus (first | omega | (simp; done) | (simp; omega))) | (with_reducible refine Keep.alloc ?_ _) | (with_reducible refine Keep.drewN ?_ _) | (with_reducible refine Keep.drew ?_) | (with_reducible exact Keep.refl _) | refine Keep.trans ?_ (by with_reducible assumption) | exact Keep.refl _ | assumption))))
      have hO3 := own_rdc ho3
      clear hk3 k2 ho3
      (go_wp2_with fail); (go_at_call 14); (refine (laws_toCardS _ _ _ _ hmn (hS.keep k3)).mono ?_); rintro e w4 ⟨g4, rfl, ho4, hk4⟩
      have k4 : Keep w w4 := (by ((repeat (first | (with_reducible assumption) | ((with_reducible refine Keep.setCell ?_ ?_ _); rotate_left; focus (first | omega | (simp; done) | (simp; omega))) | (with_reducible refine Keep.alloc ?_ _) | (with_reducible refine Keep.drewN ?_ _) | (with_reducible refine Keep.drew ?_) | (with_reducible exact Keep.refl _) | refine Keep.trans ?_ (by with_reducible assumption) | exact Keep.refl _ | assumption))))
      have hO4 := hO3.keep hk4
      have hP4 := own_rdc ho4
      clear hk4 k3 ho4 hO3
      (go_wp2_with fail); (go_at_call 13); (refine (hJ _ _ _ _ _ hO4 hP4).mono ?_); rintro e w5 ⟨rfl, hk5⟩
      have k5 : Keep w w5 := (by ((repeat (first | (with_reducible assumption) | ((with_reducible refine Keep.setCell ?_ ?_ _); rotate_left; focus (first | omega | (simp; done) | (simp; omega))) | (with_reducible refine Keep.alloc ?_ _) | (with_reducible refine Keep.drewN ?_ _) | (with_reducible refine Keep.drew ?_) | (with_reducible exact Keep.refl _) | refine Keep.trans ?_ (by with_reducible assumption) | exact Keep.refl _ | assumption))))
      clear hk5 k4 hO4 hP4
      (go_wp2_with fail); (go_at_call 14); (refine (laws_toCardS _ _ _ _ hln (hR.keep k5)).mono ?_); rintro e w6 ⟨g6, rfl, ho6, hk6⟩
      have k6 : Keep w w6 := (by ((repeat (first | (with_reducible assumption) | ((with_reducible refine Keep.setCell ?_ ?_ _); rotate_left; focus (first | omega | (simp; done) | (simp; omega))) | (with_reducible refine Keep.alloc ?_ _) | (with_reducible refine Keep.drewN ?_ _) | (with_reducible refine Keep.drew ?_) | (with_reducible exact Keep.refl _) | refine Keep.trans ?_ (by with_reducible assumption) | exact Keep.refl _ | assumption))))
      have hO6 := own_rdc ho6
      clear hk6 k5 ho6
      (go_wp2_with fail); (go_at_call 14); (refine (laws_toCardS _ _ _ _ hmn (hS.keep k6)).mono ?_); rintro e w7 ⟨g7, rfl, ho7, hk7⟩
      have k7 : Keep w w7 := (by ((repeat (first | (with_reducible assumption) | ((with_reducible refine Keep.setCell ?_ ?_ _); rotate_left; focus (first | omega | (simp; done) | (simp; omega))) | (with_reducible refine Keep.alloc ?_ _) | (with_reducible refine Keep.drewN ?_ _) | (with_reducible refine Keep.drew ?_) | (with_reducible exact Keep.refl _) | refine Keep.trans ?_ (by with_reducible assumption) | exact Keep.refl _ | assumption))))
      have hO7 := hO6.keep hk7
      have hP7 := own_rdc ho7
      clear hk7 k6 ho7 hO6
      (go_wp2_with fail); (go_at_call 15); (refine (hI _ _ _ _ _ hO7 hP7).mono ?_); rintro e w8 ⟨rfl, hk8⟩
      have k8 : Keep w w8 := (by ((repeat (first | (with_reducible assumption) | ((with_reducible refine Keep.setCell ?_ ?_ _); rotate_left; focus (first | omega | (simp; done) | (simp; omega))) | (with_reducible refine Keep.alloc ?_ _) | (with_reducible refine Keep.drewN ?_ _) | (with_reducible refine Keep.drew ?_) | (with_reducible exact Keep.refl _) | refine Keep.trans ?_ (by with_reducible assumption) | exact Keep.refl _ | assumption))))
      have hO8 := hO7.keep hk8
      have hP8 := hP7.keep hk8
      clear hk8 k7 hO7 hP7
      (go_wp2_with fail); (go_at_call 14); (refine (laws_toCardS _ _ _ _ hln (hR.keep k8)).mono ?_); rintro e w9 ⟨g9, rfl, ho9, hk9⟩
      have k9 : Keep w w9 := (by ((repeat (first | (with_reducible assumption) | ((with_reducible refine Keep.setCell ?_ ?_ _); rotate_left; focus (first | omega | (simp; done) | (simp; omega))) | (with_reducible refine Keep.alloc ?_ _) | (with_reducible refine Keep.drewN ?_ _) | (with_reducible refine Keep.drew ?_) | (with_reducible exact Keep.refl _) | refine Keep.trans ?_ (by with_reducible assumption) | exact Keep.refl _ | assumption))))
      have hO9 := hO8.keep hk9
      have hP9 := hP8.keep hk9
      have hX9 := own_rdc ho9
      clear hk9 k8 ho9 hO8 hP8
      (go_wp2_with fail); (go_at_call 16); (refine (laws_eqCardS _ _ _ _ _ _ hln hO9 hX9).mono ?_); rintro e w10 ⟨rfl, hk10⟩
      have k10 : Keep w w10 := (by ((repeat (first | (with_reducible assumption) | ((with_reducible refine Keep.setCell ?_ ?_ _); rotate_left; focus (first | omega | (simp; done) | (simp; omega))) | (with_reducible refine Keep.alloc ?_ _) | (with_reducible refine Keep.drewN ?_ _) | (with_reducible refine Keep.drew ?_) | (with_reducible exact Keep.refl _) | refine Keep.trans ?_ (by with_reducible assumption) | exact Keep.refl _ | assumption))))
      have hP10 := hP9.keep hk10
      clear hk10 k9 hO9 hP9 hX9
      (go_wp2_with fail); (go_at_call 14); (refine (laws_toCardS _ _ _ _ hmn (hS.keep k10)).mono ?_); rintro e w11 ⟨g11, rfl, ho11, hk11⟩
      have k11 : Keep w w11 := (by ((repeat (first | (with_reducible assumption) | ((with_reducible refine Keep.setCell ?_ ?_ _); rotate_left; focus (first | omega | (simp; done) | (simp; omega))) | (with_reducible refine Keep.alloc ?_ _) | (with_reducible refine Keep.drewN ?_ _) | (with_reducible refine Keep.drew ?_) | (with_reducible exact Keep.refl _) | refine Keep.trans ?_ (by with_reducible assumption) | exact Keep.refl _ | assumption))))
      have hP11 := hP10.keep hk11
      have hX11 := own_rdc ho11
      clear hk11 k10 ho11 hP10
      (go_wp2_with fail); (go_at_call 16); (refine (laws_eqCardS _ _ _ _ _ _ hmn hP11 hX11).mono ?_); rintro e w12 ⟨rfl, hk12⟩
      go_wp2
      go_ret; exact ⟨rfl, (by ((repeat (first | (with_reducible assumption) | ((with_reducible refine Keep.setCell ?_ ?_ _); rotate_left; focus (first | omega | (simp; done) | (simp; omega))) | (with_reducible refine Keep.alloc ?_ _) | (with_reducible refine Keep.drewN ?_ _) | (with_reducible refine Keep.drew ?_) | (with_reducible exact Keep.refl _) | refine Keep.trans ?_ (by with_reducible assumption) | exact Keep.refl _ | assumption))))⟩
end Go.Proofs.Ytihebflgceljfaa

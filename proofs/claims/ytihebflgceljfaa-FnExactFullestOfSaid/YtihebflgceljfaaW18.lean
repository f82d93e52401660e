/- The fullest of masks: the law. -/
import Derived.Test.YtihebflgceljfaaF3
import Derived.Test.YtihebflgceljfaaMS
set_option linter.unusedVariables false
set_option linter.unusedSimpArgs false
namespace Go.Proofs.Ytihebflgceljfaa
open Go.RowKit
set_option maxHeartbeats 1000000
set_option maxRecDepth 20000
theorem laws_FnExactFullestOf (s z p : Int) (A : Option Addr) (l : List (Wd × Wd)) (c : Nat) (w : World) (hw : I16 s ∧ I16 z ∧ I16 p) (hl : l.length ≤ 9223372036854775807 ∧ Rd w A (msks l)) :
    Calls Try.prog 3 #[.agg #[.int .i16 s, .int .i16 z, .int .i16 p], .slice A l.length c] w fun e w' => e = .returned (.bool true) ∧ Keep w w' := by
  obtain ⟨hm, hR⟩ := hl
  by_cases hn : (1048576 : Int) < l.length
  · go_enter Try.func3, Try.ntmps3
    (go_wp2_with fail); (go_at_call 6); (refine (laws_szMaskS _ _ _ 1048576 _ (by decide) hm).mono ?_); rintro e w1 ⟨rfl, hk1⟩
    rw [if_pos (show (1048576 : Int) < l.length by omega)]
    go_wp2
    go_ret; exact ⟨rfl, (by ((repeat (first | (with_reducible assumption) | ((with_reducible refine Keep.setCell ?_ ?_ _); rotate_left; focus (first | omega | (simp; done) | (simp; omega))) | (with_reducible refine Keep.alloc ?_ _) | (with_reducible refine Keep.drewN ?_ _) | (with_reducible refine Keep.drew ?_) | (with_reducible exact Keep.refl _) | refine Keep.trans ?_ (by with_reducible assumption) | exact Keep.refl _ | assumption))))⟩
  · have hn' : l.length ≤ 1048576 := by omega
    have hI := fun A c W h => impl_FullestOf s z p A l c W hw hm h
    have hJ := fun A c W h => spec_FullestOf s z p A l c W hw hm h
    have hl0 : ¬ ((1048576 : Int) - l.length < 0) := by omega
    generalize flB s z p l = x at *
    generalize flM s z p l = y at *
    generalize flE s z p l = u at *
    go_enter Try.func3, Try.ntmps3
    (go_wp2_with fail); (go_at_call 6); (refine (laws_szMaskS _ _ _ 1048576 _ (by decide) hm).mono ?_); rintro e w1 ⟨rfl, hk1⟩
    rw [if_neg (show ¬ (1048576 : Int) < l.length by omega)]
    have hX : Bx w1 w.heap.size #[.int .i16 s, .int .i16 z, .int .i16 p] 24 := (Bx.new _ _ _).keep hk1
    have k1 : Keep w w1 := (by ((repeat (first | (with_reducible assumption) | ((with_reducible refine Keep.setCell ?_ ?_ _); rotate_left; focus (first | omega | (simp; done) | (simp; omega))) | (with_reducible refine Keep.alloc ?_ _) | (with_reducible refine Keep.drewN ?_ _) | (with_reducible refine Keep.drew ?_) | (with_reducible exact Keep.refl _) | refine Keep.trans ?_ (by with_reducible assumption) | exact Keep.refl _ | assumption))))
    clear hk1
    have hXs := hX.three
    (go_wp2_with fail); (go_at_call 8); (refine (laws_toMix _ _ _ _).mono ?_); rintro e w2 ⟨rfl, hk2⟩
    have hX2 := hX.keep hk2
    have k2 : Keep w w2 := (by ((repeat (first | (with_reducible assumption) | ((with_reducible refine Keep.setCell ?_ ?_ _); rotate_left; focus (first | omega | (simp; done) | (simp; omega))) | (with_reducible refine Keep.alloc ?_ _) | (with_reducible refine Keep.drewN ?_ _) | (with_reducible refine Keep.drew ?_) | (with_reducible exact Keep.refl _) | refine Keep.trans ?_ (by with_reducible assumption) | exact Keep.refl _ | assumption))))
    clear hXs hX hk2 k1
    (go_wp2_with fail); (go_at_call 9); (refine (laws_toMaskS _ _ _ _ hn' (hR.keep k2)).mono ?_); rintro e w3 ⟨g3, rfl, ho3, hk3⟩
    have hX3 := hX2.keep hk3
    have k3 : Keep w w3 := (by ((repeat (first | (with_reducible assumption) | ((with_reducible refine Keep.setCell ?_ ?_ _); rotate_left; focus (first | omega | (simp; done) | (simp; omega))) | (with_reducible refine Keep.alloc ?_ _) | (with_reducible refine Keep.drewN ?_ _) | (with_reducible refine Keep.drew ?_) | (with_reducible exact Keep.refl _) | refine Keep.trans ?_ (by with_reducible assumption) | exact Keep.refl _ | assumption))))
    clear hX2 hk3 k2
    (go_wp2_with fail); (go_at_call 7); (refine (hJ _ _ _ (own_rdm ho3)).mono ?_); rintro e w4 ⟨rfl, hk4⟩
    have hX4 := hX3.keep hk4
    have k4 : Keep w w4 := (by ((repeat (first | (with_reducible assumption) | ((with_reducible refine Keep.setCell ?_ ?_ _); rotate_left; focus (first | omega | (simp; done) | (simp; omega))) | (with_reducible refine Keep.alloc ?_ _) | (with_reducible refine Keep.drewN ?_ _) | (with_reducible refine Keep.drew ?_) | (with_reducible exact Keep.refl _) | refine Keep.trans ?_ (by with_reducible assumption) | exact Keep.refl _ | assumption))))
    clear hX3 hk4 k3 ho3
    (go_wp2_with fail); (go_at_call 9); (refine (laws_toMaskS _ _ _ _ hn' (hR.keep k4)).mono ?_); rintro e w5 ⟨g5, rfl, ho5, hk5⟩
    have hX5 := hX4.keep hk5
    have k5 : Keep w w5 := (by ((repeat (first | (with_reducible assumption) | ((with_reducible refine Keep.setCell ?_ ?_ _); rotate_left; focus (first | omega | (simp; done) | (simp; omega))) | (with_reducible refine Keep.alloc ?_ _) | (with_reducible refine Keep.drewN ?_ _) | (with_reducible refine Keep.drew ?_) | (with_reducible exact Keep.refl _) | refine Keep.trans ?_ (by with_reducible assumption) | exact Keep.refl _ | assumption))))
    have hO5 := own_rdm ho5
    clear hX4 hk5 k4 ho5
    have hXs := hX5.three
    (go_wp2_with fail); (go_at_call 8); (refine (laws_toMix _ _ _ _).mono ?_); rintro e w6 ⟨rfl, hk6⟩
    have k6 : Keep w w6 := (by ((repeat (first | (with_reducible assumption) | ((with_reducible refine Keep.setCell ?_ ?_ _); rotate_left; focus (first | omega | (simp; done) | (simp; omega))) | (with_reducible refine Keep.alloc ?_ _) | (with_reducible refine Keep.drewN ?_ _) | (with_reducible refine Keep.drew ?_) | (with_reducible exact Keep.refl _) | refine Keep.trans ?_ (by with_reducible assumption) | exact Keep.refl _ | assumption))))
    have hO6 := hO5.keep hk6
    clear hXs hX5 hk6 k5 hO5
    (go_wp2_with fail); (go_at_call 10); (refine (hI _ _ _ hO6).mono ?_); rintro e w7 ⟨rfl, hk7⟩
    have k7 : Keep w w7 := (by ((repeat (first | (with_reducible assumption) | ((with_reducible refine Keep.setCell ?_ ?_ _); rotate_left; focus (first | omega | (simp; done) | (simp; omega))) | (with_reducible refine Keep.alloc ?_ _) | (with_reducible refine Keep.drewN ?_ _) | (with_reducible refine Keep.drew ?_) | (with_reducible exact Keep.refl _) | refine Keep.trans ?_ (by with_reducible assumption) | exact Keep.refl _ | assumption))))
    have hO7 := hO6.keep hk7
    clear hk7 k6 hO6
    (go_wp2_with fail); (go_at_call 9); (refine (laws_toMaskS _ _ _ _ hn' (hR.keep k7)).mono ?_); rintro e w8 ⟨g8, rfl, ho8, hk8⟩
    have k8 : Keep w w8 := (by ((repeat (first | (with_reducible assumption) | ((with_reducible refine Keep.setCell ?_ ?_ _); rotate_left; focus (first | omega | (simp; done) | (simp; omega))) | (with_reducible refine Keep.alloc ?_ _) | (with_reducible refine Keep.drewN ?_ _) | (with_reducible refine Keep.drew ?_) | (with_reducible exact Keep.refl _) | refine Keep.trans ?_ (by with_reducible assumption) | exact Keep.refl _ | assumption))))
    have hO8 := hO7.keep hk8
    have hP8 := own_rdm ho8
    clear ho8 hk8 k7 hO7
    (go_wp2_with fail); (go_at_call 11); (refine (laws_eqMaskS _ _ _ _ _ _ hn' hO8 hP8).mono ?_); rintro e w9 ⟨rfl, hk9⟩
    go_wp2
    go_ret; exact ⟨rfl, (by ((repeat (first | (with_reducible assumption) | ((with_reducible refine Keep.setCell ?_ ?_ _); rotate_left; focus (first | omega | (simp; done) | (simp; omega))) | (with_reducible refine Keep.alloc ?_ _) | (with_reducible refine Keep.drewN ?_ _) | (with_reducible refine Keep.drew ?_) | (with_reducible exact Keep.refl _) | refine Keep.trans ?_ (by with_reducible assumption) | exact Keep.refl _ | assumption))))⟩
end Go.Proofs.Ytihebflgceljfaa

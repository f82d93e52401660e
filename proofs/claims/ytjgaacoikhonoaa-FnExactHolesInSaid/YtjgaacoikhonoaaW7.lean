/- The laws of lists of holes. -/
import Derived.Test.YtjgaacoikhonoaaW3
import Derived.Test.YtjgaacoikhonoaaS3
set_option linter.unusedVariables false
set_option linter.unusedSimpArgs false
namespace Go.Proofs.Ytjgaacoikhonoaa
open Go.RowKit
set_option maxHeartbeats 1000000
set_option maxRecDepth 20000
theorem own_rd {w : World} {base : Nat} {e : TypeId} {A : Option Addr} {n c : Nat} {xs : List Value} (h : w.ownsRow base e 1 (.slice A n c) n xs) : Rd w A xs := by
  obtain ⟨A', c', hv, hR, _⟩ := own_row h
  simp only [Value.slice.injEq] at hv
  rw [hv.1]; exact hR
theorem laws_FnExactMaskOf (A : Option Addr) (l : List Int) (c : Nat) (w : World) (hw : l.length ≤ 9223372036854775807 ∧ Rd w A (ints l)) :
    Calls Try.prog 9 #[.slice A l.length c] w fun e w' => e = .returned (.bool true) ∧ Keep w w' := by
  obtain ⟨hm, hR⟩ := hw
  by_cases hn : l.length ≤ 1048576
  · go_enter Try.func9, Try.ntmps9
    (go_wp2_with fail); (go_at_call 32); (refine (laws_toInt64S _ _ _ _ hn hR).mono ?_); rintro e w1 ⟨g1, rfl, ho1, hk1⟩
    (go_wp2_with fail); (go_at_call 31); (refine (spec_MaskOf _ _ _ _ hm (own_rd ho1)).mono ?_); rintro e w2 ⟨rfl, hk2⟩
    have k2 : Keep w w2 := (by ((repeat (first | (with_reducible assumption) | ((with_reducible refine Keep.setCell ?_ ?_ _); rotate_left; focus (first | omega | (simp; done) | (simp; omega))) | (with_reducible refine Keep.alloc ?_ _) | (with_reducible refine Keep.drewN ?_ _) | (with_reducible refine Keep.drew ?_) | (with_reducible exact Keep.refl _) | refine Keep.trans ?_ (by with_reducible assumption) | exact Keep.refl _ | assumption))))
    have hR2 := hR.keep k2
    clear hk1 hk2 ho1
    (go_wp2_with fail); (go_at_call 32); (refine (laws_toInt64S _ _ _ _ hn (hR2.keep (by ((repeat (first | (with_reducible assumption) | ((with_reducible refine Keep.setCell ?_ ?_ _); rotate_left; focus (first | omega | (simp; done) | (simp; omega))) | (with_reducible refine Keep.alloc ?_ _) | (with_reducible refine Keep.drewN ?_ _) | (with_reducible refine Keep.drew ?_) | (with_reducible exact Keep.refl _) | refine Keep.trans ?_ (by with_reducible assumption) | exact Keep.refl _ | assumption)))))).mono ?_); rintro e w3 ⟨g3, rfl, ho3, hk3⟩
    have hB : Bx w3 w2.heap.size #[.int .u64 (U (mOfLo l)), .int .u64 (U (mOfHi l))] 24 := (Bx.new w2 _ _).keep hk3
    have k3 : Keep w w3 := (by ((repeat (first | (with_reducible assumption) | ((with_reducible refine Keep.setCell ?_ ?_ _); rotate_left; focus (first | omega | (simp; done) | (simp; omega))) | (with_reducible refine Keep.alloc ?_ _) | (with_reducible refine Keep.drewN ?_ _) | (with_reducible refine Keep.drew ?_) | (with_reducible exact Keep.refl _) | refine Keep.trans ?_ (by with_reducible assumption) | exact Keep.refl _ | assumption))))
    have hR3 := hR.keep k3
    clear hk3 k2 hR2
    have HO3 := Aside.mk ho3
    clear ho3
    have hBs := hB.two
    (go_wp2_with fail); (go_at_call 33); (refine (impl_MaskOf _ _ _ _ hm (own_rd HO3.out)).mono ?_); rintro e w4 ⟨rfl, hk4⟩
    have hB4 := hB.keep hk4
    have HO4 := Aside.mk (own_keep HO3.out hk4)
    have k4 : Keep w w4 := (by ((repeat (first | (with_reducible assumption) | ((with_reducible refine Keep.setCell ?_ ?_ _); rotate_left; focus (first | omega | (simp; done) | (simp; omega))) | (with_reducible refine Keep.alloc ?_ _) | (with_reducible refine Keep.drewN ?_ _) | (with_reducible refine Keep.drew ?_) | (with_reducible exact Keep.refl _) | refine Keep.trans ?_ (by with_reducible assumption) | exact Keep.refl _ | assumption))))
    have hR4 := hR3.keep hk4
    clear hB hBs HO3 hk4 k3 hR3
    have hBs := hB4.two
    (go_wp2_with fail); (go_at_call 18); (refine (laws_eqMask_self _ _ _).mono ?_); rintro e w5 ⟨rfl, hk5⟩
    have HO5 := Aside.mk (own_keep HO4.out (by first | exact hk5 | exact Keep.trans (Keep.alloc (Keep.refl _) _) hk5 | skip))
    have hR5 := hR4.keep ((by ((repeat (first | (with_reducible assumption) | ((with_reducible refine Keep.setCell ?_ ?_ _); rotate_left; focus (first | omega | (simp; done) | (simp; omega))) | (with_reducible refine Keep.alloc ?_ _) | (with_reducible refine Keep.drewN ?_ _) | (with_reducible refine Keep.drew ?_) | (with_reducible exact Keep.refl _) | refine Keep.trans ?_ (by with_reducible assumption) | exact Keep.refl _ | assumption)))) : Keep w4 w5)
    have k5 : Keep w w5 := (by ((repeat (first | (with_reducible assumption) | ((with_reducible refine Keep.setCell ?_ ?_ _); rotate_left; focus (first | omega | (simp; done) | (simp; omega))) | (with_reducible refine Keep.alloc ?_ _) | (with_reducible refine Keep.drewN ?_ _) | (with_reducible refine Keep.drew ?_) | (with_reducible exact Keep.refl _) | refine Keep.trans ?_ (by with_reducible assumption) | exact Keep.refl _ | assumption))))
    clear hB4 hBs HO4 hk5 k4 hR4
    (go_wp2_with fail); (go_at_call 32); (refine (laws_toInt64S _ _ _ _ hn hR5).mono ?_); rintro e w6 ⟨g6, rfl, ho6, hk6⟩
    have HO6 := Aside.mk (own_keep HO5.out hk6)
    have HP6 := Aside.mk ho6
    have k6 : Keep w w6 := (by ((repeat (first | (with_reducible assumption) | ((with_reducible refine Keep.setCell ?_ ?_ _); rotate_left; focus (first | omega | (simp; done) | (simp; omega))) | (with_reducible refine Keep.alloc ?_ _) | (with_reducible refine Keep.drewN ?_ _) | (with_reducible refine Keep.drew ?_) | (with_reducible exact Keep.refl _) | refine Keep.trans ?_ (by with_reducible assumption) | exact Keep.refl _ | assumption))))
    clear ho6 hk6 HO5 k5 hR5
    (go_wp2_with fail); (go_at_call 34); (refine (laws_eqInt64S _ _ _ _ _ _ hn (own_rd HO6.out) (own_rd HP6.out)).mono ?_); rintro e w7 ⟨rfl, hk7⟩
    go_wp2
    go_ret; exact ⟨rfl, (by ((repeat (first | (with_reducible assumption) | ((with_reducible refine Keep.setCell ?_ ?_ _); rotate_left; focus (first | omega | (simp; done) | (simp; omega))) | (with_reducible refine Keep.alloc ?_ _) | (with_reducible refine Keep.drewN ?_ _) | (with_reducible refine Keep.drew ?_) | (with_reducible exact Keep.refl _) | refine Keep.trans ?_ (by with_reducible assumption) | exact Keep.refl _ | assumption))))⟩
  · go_enter Try.func9, Try.ntmps9
    go_wp2
    go_ret; exact ⟨rfl, (by ((repeat (first | (with_reducible assumption) | ((with_reducible refine Keep.setCell ?_ ?_ _); rotate_left; focus (first | omega | (simp; done) | (simp; omega))) | (with_reducible refine Keep.alloc ?_ _) | (with_reducible refine Keep.drewN ?_ _) | (with_reducible refine Keep.drew ?_) | (with_reducible exact Keep.refl _) | refine Keep.trans ?_ (by with_reducible assumption) | exact Keep.refl _ | assumption))))⟩
theorem holesL_len (a b : Wd) : (holesL a b).length ≤ 96 := by
  have := hs_len a b 96
  cases h : okB b <;> simp [holesL, h]; omega
theorem laws_FnExactHolesIn (a b : Wd) (w : World) :
    Calls Try.prog 12 #[.agg #[.int .u64 (U a), .int .u64 (U b)]] w fun e w' => e = .returned (.bool true) ∧ Keep w w' := by
  have hl := holesL_len a b
  obtain ⟨l, hlE⟩ : ∃ l, Aside (holesL a b = l) := ⟨_, Aside.mk rfl⟩
  rw [hlE.out] at hl
  go_enter Try.func12, Try.ntmps12
  (go_wp2_with fail); (go_at_call 16); (refine (laws_toMask _ _ _).mono ?_); rintro e w1 ⟨rfl, hk1⟩
  have hA := (Bx.new w #[.int .u64 (U a), .int .u64 (U b)] 23).keep hk1
  have k1 : Keep w w1 := (by ((repeat (first | (with_reducible assumption) | ((with_reducible refine Keep.setCell ?_ ?_ _); rotate_left; focus (first | omega | (simp; done) | (simp; omega))) | (with_reducible refine Keep.alloc ?_ _) | (with_reducible refine Keep.drewN ?_ _) | (with_reducible refine Keep.drew ?_) | (with_reducible exact Keep.refl _) | refine Keep.trans ?_ (by with_reducible assumption) | exact Keep.refl _ | assumption))))
  have z1 : w.heap.size < w1.heap.size := hA.lt
  clear hk1
  (go_wp2_with fail); (go_at_call 40); (refine (spec_HolesIn _ _ _).mono ?_); rintro e w2 ⟨v2, rfl, ho2, hk2⟩
  rw [hlE.out] at ho2
  obtain ⟨A2, c2, rfl, -, hb2⟩ := own_row ho2
  have HB2 := Aside.mk hb2
  have z2 : w1.heap.size ≤ w2.heap.size := hk2.size
  have HO2 := Aside.mk ho2
  have hA2 := hA.keep hk2
  have k2 : Keep w w2 := (by ((repeat (first | (with_reducible assumption) | ((with_reducible refine Keep.setCell ?_ ?_ _); rotate_left; focus (first | omega | (simp; done) | (simp; omega))) | (with_reducible refine Keep.alloc ?_ _) | (with_reducible refine Keep.drewN ?_ _) | (with_reducible refine Keep.drew ?_) | (with_reducible exact Keep.refl _) | refine Keep.trans ?_ (by with_reducible assumption) | exact Keep.refl _ | assumption))))
  clear hA hk2 ho2 hb2 k1
  have hAs := hA2.two
  (go_wp2_with fail); (go_at_call 16); (refine (laws_toMask _ _ _).mono ?_); rintro e w3 ⟨rfl, hk3⟩
  have HO3 := Aside.mk (own_keep HO2.out hk3)
  have hA3 := hA2.keep hk3
  have k3 : Keep w w3 := (by ((repeat (first | (with_reducible assumption) | ((with_reducible refine Keep.setCell ?_ ?_ _); rotate_left; focus (first | omega | (simp; done) | (simp; omega))) | (with_reducible refine Keep.alloc ?_ _) | (with_reducible refine Keep.drewN ?_ _) | (with_reducible refine Keep.drew ?_) | (with_reducible exact Keep.refl _) | refine Keep.trans ?_ (by with_reducible assumption) | exact Keep.refl _ | assumption))))
  have z3 : w2.heap.size ≤ w3.heap.size := hk3.size
  clear hA2 hk3 k2 HO2 hAs
  (go_wp2_with fail); (go_at_call 41); (refine (impl_HolesIn _ _ _).mono ?_); rintro e w4 ⟨v4, rfl, ho4, hk4⟩
  rw [hlE.out] at ho4
  obtain ⟨A4, c4, rfl, -, hb4⟩ := own_row ho4
  have HB4 := Aside.mk hb4
  have HO4 := Aside.mk (own_keep HO3.out hk4)
  have HG4 := Aside.mk ho4
  have hA4 := hA3.keep hk4
  have k4 : Keep w w4 := (by ((repeat (first | (with_reducible assumption) | ((with_reducible refine Keep.setCell ?_ ?_ _); rotate_left; focus (first | omega | (simp; done) | (simp; omega))) | (with_reducible refine Keep.alloc ?_ _) | (with_reducible refine Keep.drewN ?_ _) | (with_reducible refine Keep.drew ?_) | (with_reducible exact Keep.refl _) | refine Keep.trans ?_ (by with_reducible assumption) | exact Keep.refl _ | assumption))))
  clear hA3 hk4 k3 HO3 ho4 hb4
  (go_wp2_with fail); (go_at_call 34); (refine (laws_eqInt64S _ _ l _ _ _ (by omega) (own_rd HG4.out) (own_rd HO4.out)).mono ?_); rintro e w5 ⟨rfl, hk5⟩
  have HO5 := Aside.mk (own_keep HO4.out hk5)
  have HG5 := Aside.mk (own_keep HG4.out hk5)
  have hA5 := hA4.keep hk5
  have k5 : Keep w w5 := (by ((repeat (first | (with_reducible assumption) | ((with_reducible refine Keep.setCell ?_ ?_ _); rotate_left; focus (first | omega | (simp; done) | (simp; omega))) | (with_reducible refine Keep.alloc ?_ _) | (with_reducible refine Keep.drewN ?_ _) | (with_reducible refine Keep.drew ?_) | (with_reducible exact Keep.refl _) | refine Keep.trans ?_ (by with_reducible assumption) | exact Keep.refl _ | assumption))))
  clear hA4 hk5 k4 HO4 HG4
  (go_wp2_with fail); (go_at_call 42); (refine (laws_markInt64S _ _ _ _ _ 1 _ (by omega) (by omega) (by omega) HG5.out).mono ?_); rintro e w6 ⟨rfl, ho6, hg6⟩
  have hne : ∀ k, Value.ownBlock (.slice A2 l.length c2) = some k → Value.ownBlock (.slice A4 l.length c4) ≠ some k := fun k h2 h4 => by
    have := HB2.out k h2; have := HB4.out k h4; omega
  have HO6 := Aside.mk (HO5.out.kept hg6 (by
    cases h2 : Value.ownBlock (.slice A2 l.length c2) with
    | none => exact .inl rfl
    | some k => exact .inr (fun h => hne k h2 h.symm)))
  have HG6 := Aside.mk ho6
  have hA6 := hA5.grownBy hg6 (fun h => by have := HB4.out _ h.symm; omega)
  have k6 : Keep w w6 := k5.grown hg6 (fun k hk => by have := HB4.out k hk; omega)
  clear ho6 hg6 hA5 k5 HO5 HG5 hne
  (go_wp2_with fail); (go_at_call 43); (refine (laws_heldInt64S _ _ _ 1 _ (by omega) (by omega) (by omega) (own_rd HG6.out)).mono ?_); rintro e w7 ⟨rfl, hk7⟩
  have HO7 := Aside.mk (own_keep HO6.out hk7)
  have HG7 := Aside.mk (own_keep HG6.out hk7)
  have hA7 := hA6.keep hk7
  have k7 : Keep w w7 := (by ((repeat (first | (with_reducible assumption) | ((with_reducible refine Keep.setCell ?_ ?_ _); rotate_left; focus (first | omega | (simp; done) | (simp; omega))) | (with_reducible refine Keep.alloc ?_ _) | (with_reducible refine Keep.drewN ?_ _) | (with_reducible refine Keep.drew ?_) | (with_reducible exact Keep.refl _) | refine Keep.trans ?_ (by with_reducible assumption) | exact Keep.refl _ | assumption))))
  clear hA6 hk7 k6 HO6 HG6
  have hAs := hA7.two
  (go_wp2_with fail); (go_at_call 16); (refine (laws_toMask _ _ _).mono ?_); rintro e w8 ⟨rfl, hk8⟩
  have HO8 := Aside.mk (own_keep HO7.out hk8)
  have HG8 := Aside.mk (own_keep HG7.out hk8)
  have k8 : Keep w w8 := (by ((repeat (first | (with_reducible assumption) | ((with_reducible refine Keep.setCell ?_ ?_ _); rotate_left; focus (first | omega | (simp; done) | (simp; omega))) | (with_reducible refine Keep.alloc ?_ _) | (with_reducible refine Keep.drewN ?_ _) | (with_reducible refine Keep.drew ?_) | (with_reducible exact Keep.refl _) | refine Keep.trans ?_ (by with_reducible assumption) | exact Keep.refl _ | assumption))))
  clear hA7 hk8 k7 HO7 HG7 hAs
  (go_wp2_with fail); (go_at_call 41); (refine (impl_HolesIn _ _ _).mono ?_); rintro e w9 ⟨v9, rfl, ho9, hk9⟩
  rw [hlE.out] at ho9
  obtain ⟨A9, c9, rfl, -, hb9⟩ := own_row ho9
  have HO9 := Aside.mk (own_keep HO8.out hk9)
  have HG9 := Aside.mk (own_keep HG8.out hk9)
  have HH9 := Aside.mk ho9
  have k9 : Keep w w9 := (by ((repeat (first | (with_reducible assumption) | ((with_reducible refine Keep.setCell ?_ ?_ _); rotate_left; focus (first | omega | (simp; done) | (simp; omega))) | (with_reducible refine Keep.alloc ?_ _) | (with_reducible refine Keep.drewN ?_ _) | (with_reducible refine Keep.drew ?_) | (with_reducible exact Keep.refl _) | refine Keep.trans ?_ (by with_reducible assumption) | exact Keep.refl _ | assumption))))
  clear hk9 k8 HO8 HG8 ho9 hb9
  (go_wp2_with fail); (go_at_call 34); (refine (laws_eqInt64S _ _ l _ _ _ (by omega) (own_rd HH9.out) (own_rd HO9.out)).mono ?_); rintro e w10 ⟨rfl, hk10⟩
  have HG10 := Aside.mk (own_keep HG9.out hk10)
  have k10 : Keep w w10 := (by ((repeat (first | (with_reducible assumption) | ((with_reducible refine Keep.setCell ?_ ?_ _); rotate_left; focus (first | omega | (simp; done) | (simp; omega))) | (with_reducible refine Keep.alloc ?_ _) | (with_reducible refine Keep.drewN ?_ _) | (with_reducible refine Keep.drew ?_) | (with_reducible exact Keep.refl _) | refine Keep.trans ?_ (by with_reducible assumption) | exact Keep.refl _ | assumption))))
  clear hk10 k9 HO9 HG9 HH9
  (go_wp2_with fail); (go_at_call 43); (refine (laws_heldInt64S _ _ _ 1 _ (by omega) (by omega) (by omega) (own_rd HG10.out)).mono ?_); rintro e w11 ⟨rfl, hk11⟩
  go_wp2
  go_ret; exact ⟨rfl, (by ((repeat (first | (with_reducible assumption) | ((with_reducible refine Keep.setCell ?_ ?_ _); rotate_left; focus (first | omega | (simp; done) | (simp; omega))) | (with_reducible refine Keep.alloc ?_ _) | (with_reducible refine Keep.drewN ?_ _) | (with_reducible refine Keep.drew ?_) | (with_reducible exact Keep.refl _) | refine Keep.trans ?_ (by with_reducible assumption) | exact Keep.refl _ | assumption))))⟩
end Go.Proofs.Ytjgaacoikhonoaa

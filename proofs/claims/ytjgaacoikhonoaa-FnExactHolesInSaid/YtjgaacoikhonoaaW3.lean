/- The laws of a mask and a code. -/
import Derived.Test.YtjgaacoikhonoaaW2
set_option linter.unusedVariables false
set_option linter.unusedSimpArgs false
namespace Go.Proofs.Ytjgaacoikhonoaa
open Go.RowKit
set_option maxHeartbeats 1000000
theorem laws_eqMask_self (a b : Wd) (w : World) :
    Calls Try.prog 18 #[.agg #[.int .u64 (U a), .int .u64 (U b)], .agg #[.int .u64 (U a), .int .u64 (U b)]] w fun e w' => e = .returned (.bool true) ∧ Keep w w' :=
  (laws_eqMask a b a b w).mono fun e w' ⟨h, k⟩ => ⟨by rw [h]; simp, k⟩
theorem beq_self2 (a b : Wd) : (a == a && b == b) = true := by simp
theorem laws_FnExactWithHole (a b : Wd) (h : Int) (o : Bool) (w : World) (hw : (Lit.int .i64 h).wf = true) :
    Calls Try.prog 11 #[.agg #[.int .u64 (U a), .int .u64 (U b)], .int .i64 h, .bool o] w fun e w' => e = .returned (.bool true) ∧ Keep w w' := by
  go_enter Try.func11, Try.ntmps11
  (go_wp2_with fail); (go_at_call 16); (refine (laws_toMask _ _ _).mono ?_); rintro e w1 ⟨rfl, hk1⟩
  have hA := (Bx.new w #[.int .u64 (U a), .int .u64 (U b)] 23).keep hk1
  have k1 : Keep w w1 := (by ((repeat (first | (with_reducible assumption) | ((with_reducible refine Keep.setCell ?_ ?_ _); rotate_left; focus (first | omega | (simp; done) | (simp; omega))) | (with_reducible refine Keep.alloc ?_ _) | (with_reducible refine Keep.drewN ?_ _) | (with_reducible refine Keep.drew ?_) | (with_reducible exact Keep.refl _) | refine Keep.trans ?_ (by with_reducible assumption) | exact Keep.refl _ | assumption))))
  clear hk1
  obtain ⟨a0, a1, _, _, az⟩ := hA.two
  (go_wp2_with fail); (go_at_call 38); (refine (spec_WithHole _ _ _ _ _).mono ?_); rintro e w2 ⟨rfl, hk2⟩
  have hA2 := hA.keep hk2
  have k2 : Keep w w2 := (by ((repeat (first | (with_reducible assumption) | ((with_reducible refine Keep.setCell ?_ ?_ _); rotate_left; focus (first | omega | (simp; done) | (simp; omega))) | (with_reducible refine Keep.alloc ?_ _) | (with_reducible refine Keep.drewN ?_ _) | (with_reducible refine Keep.drew ?_) | (with_reducible exact Keep.refl _) | refine Keep.trans ?_ (by with_reducible assumption) | exact Keep.refl _ | assumption))))
  clear hA hk2 k1 a0 a1 az
  obtain ⟨a0, a1, _, _, az⟩ := hA2.two
  (go_wp2_with fail); (go_at_call 16); (refine (laws_toMask _ _ _).mono ?_); rintro e w3 ⟨rfl, hk3⟩
  have hB : Bx w3 w2.heap.size #[.int .u64 (U (withLo a b h o)), .int .u64 (U (withHi a b h o))] 24 := (Bx.new w2 _ _).keep hk3
  have k3 : Keep w w3 := (by ((repeat (first | (with_reducible assumption) | ((with_reducible refine Keep.setCell ?_ ?_ _); rotate_left; focus (first | omega | (simp; done) | (simp; omega))) | (with_reducible refine Keep.alloc ?_ _) | (with_reducible refine Keep.drewN ?_ _) | (with_reducible refine Keep.drew ?_) | (with_reducible exact Keep.refl _) | refine Keep.trans ?_ (by with_reducible assumption) | exact Keep.refl _ | assumption))))
  clear hA2 hk3 k2 a0 a1 az
  obtain ⟨b0, b1, _, _, bz⟩ := hB.two
  (go_wp2_with fail); (go_at_call 39); (refine (impl_WithHole _ _ _ _ _).mono ?_); rintro e w4 ⟨rfl, hk4⟩
  have hB2 := hB.keep hk4
  have k4 : Keep w w4 := (by ((repeat (first | (with_reducible assumption) | ((with_reducible refine Keep.setCell ?_ ?_ _); rotate_left; focus (first | omega | (simp; done) | (simp; omega))) | (with_reducible refine Keep.alloc ?_ _) | (with_reducible refine Keep.drewN ?_ _) | (with_reducible refine Keep.drew ?_) | (with_reducible exact Keep.refl _) | refine Keep.trans ?_ (by with_reducible assumption) | exact Keep.refl _ | assumption))))
  clear hB hk4 k3 b0 b1 bz
  obtain ⟨b0, b1, _, _, bz⟩ := hB2.two
  (go_wp2_with fail); (go_at_call 18); (refine (laws_eqMask _ _ _ _ _).mono ?_); rintro e w5 ⟨rfl, hk5⟩
  rw [beq_self2]
  go_wp2
  go_ret; exact ⟨rfl, (by ((repeat (first | (with_reducible assumption) | ((with_reducible refine Keep.setCell ?_ ?_ _); rotate_left; focus (first | omega | (simp; done) | (simp; omega))) | (with_reducible refine Keep.alloc ?_ _) | (with_reducible refine Keep.drewN ?_ _) | (with_reducible refine Keep.drew ?_) | (with_reducible exact Keep.refl _) | refine Keep.trans ?_ (by with_reducible assumption) | exact Keep.refl _ | assumption))))⟩
theorem laws_eqQuery (a b c d : Wd) (w : World) :
    Calls Try.prog 37 #[.agg #[.int .u64 (U a), .int .u64 (U b), .int .u64 (U c), .int .u64 (U d)], .agg #[.int .u64 (U a), .int .u64 (U b), .int .u64 (U c), .int .u64 (U d)]] w fun e w' => e = .returned (.bool true) ∧ Keep w w' := by
  go_enter Try.func37, Try.ntmps37
  (go_wp2_with fail); (go_at_call 18); (refine (laws_eqMask_self _ _ _).mono ?_); rintro e w1 ⟨rfl, hk1⟩
  have hA := ((Bx.new w #[.int .u64 (U a), .int .u64 (U b), .int .u64 (U c), .int .u64 (U d)] 33).alloc _).keep hk1
  have hB := (Bx.new1 w _ #[.int .u64 (U a), .int .u64 (U b), .int .u64 (U c), .int .u64 (U d)] 33).keep hk1
  have k1 : Keep w w1 := (by ((repeat (first | (with_reducible assumption) | ((with_reducible refine Keep.setCell ?_ ?_ _); rotate_left; focus (first | omega | (simp; done) | (simp; omega))) | (with_reducible refine Keep.alloc ?_ _) | (with_reducible refine Keep.drewN ?_ _) | (with_reducible refine Keep.drew ?_) | (with_reducible exact Keep.refl _) | refine Keep.trans ?_ (by with_reducible assumption) | exact Keep.refl _ | assumption))))
  clear hk1
  have hAs := hA.four
  have hBs := hB.four
  (go_wp2_with fail); (go_at_call 18); (refine (laws_eqMask_self _ _ _).mono ?_); rintro e w2 ⟨rfl, hk2⟩
  go_wp2
  go_ret; exact ⟨rfl, (by ((repeat (first | (with_reducible assumption) | ((with_reducible refine Keep.setCell ?_ ?_ _); rotate_left; focus (first | omega | (simp; done) | (simp; omega))) | (with_reducible refine Keep.alloc ?_ _) | (with_reducible refine Keep.drewN ?_ _) | (with_reducible refine Keep.drew ?_) | (with_reducible exact Keep.refl _) | refine Keep.trans ?_ (by with_reducible assumption) | exact Keep.refl _ | assumption))))⟩
end Go.Proofs.Ytjgaacoikhonoaa

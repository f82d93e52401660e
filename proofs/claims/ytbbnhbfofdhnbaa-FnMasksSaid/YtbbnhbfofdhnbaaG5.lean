/- A valid mask that is drawn. -/
import Derived.Test.YtbbnhbfofdhnbaaG4
set_option linter.unusedVariables false
set_option linter.unusedSimpArgs false
namespace Go.Proofs.Ytbbnhbfofdhnbaa
open Go.RowKit
set_option maxHeartbeats 1000000
set_option maxRecDepth 20000
theorem spec_A2Mask (S : Option Addr) (l : List UInt8) (c : Nat) (w : World) (hm : l.length ≤ 9223372036854775807) (hR : Rd w S (bys l)) :
    Calls Try.prog 5 #[.slice S l.length c] w fun e w' => ∃ a b : Wd, okB b = true ∧ e = .returned (.agg #[.int .u64 (U a), .int .u64 (U b)]) ∧ Keep w w' := by
  go_enter Try.func5, Try.ntmps5
  (go_wp2_with fail); (go_at_call 22); refine (srcx_from S l c _ hm (hR.keep ((Keep.refl _).alloc _))).mono ?_; rintro e w1 ⟨g, rfl, hg, hk1, hS⟩
  have hA : Bx w1 w.heap.size #[.int .u64 0, .int .u64 0] 26 := (Bx.new _ _ _).keep hk1
  have k1 : Keep w w1 := (by ((repeat (first | (with_reducible assumption) | ((with_reducible refine Keep.setCell ?_ ?_ _); rotate_left; focus (first | omega | (simp; done) | (simp; omega))) | (with_reducible refine Keep.alloc ?_ _) | (with_reducible refine Keep.drewN ?_ _) | (with_reducible refine Keep.drew ?_) | (with_reducible exact Keep.refl _) | refine Keep.trans ?_ (by with_reducible assumption) | exact Keep.refl _ | assumption))))
  have hg0 : w.heap.size + 1 ≤ g := by simpa using hg
  clear hk1 hg
  (go_wp2_with fail); (go_at_call 21); refine (src_any g 0 _ (by omega) hS).mono ?_; rintro e w2 ⟨a, b, rfl, hG, hS2⟩
  have hA2 := hA.grownBy hG (by simp; omega)
  have k2 : Keep w w2 := k1.grown hG (by intro k hk; simp at hk; omega)
  clear hA hG hS hS2 k1
  have hAs := hA2.two
  obtain ⟨b2, hb2, ok2⟩ := shl_shr b
  have HO := Aside.mk ok2
  clear ok2
  go_wp2
  apply bodyPost_ret; rotate_left; rfl; exact ⟨a, b2, HO.out, rfl, (by ((repeat (first | (with_reducible assumption) | ((with_reducible refine Keep.setCell ?_ ?_ _); rotate_left; focus (first | omega | (simp; done) | (simp; omega))) | (with_reducible refine Keep.alloc ?_ _) | (with_reducible refine Keep.drewN ?_ _) | (with_reducible refine Keep.drew ?_) | (with_reducible exact Keep.refl _) | refine Keep.trans ?_ (by with_reducible assumption) | exact Keep.refl _ | assumption))))⟩; simp [results, Try.results5, go_sem, U_zero, *]
end Go.Proofs.Ytbbnhbfofdhnbaa

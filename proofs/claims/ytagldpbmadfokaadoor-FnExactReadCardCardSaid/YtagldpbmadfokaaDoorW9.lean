/- The laws of the part of a field, and of an emptied one. -/
import Derived.Test.YtagldpbmadfokaaDoorW8
import Derived.Test.YtagldpbmadfokaaDoorW3
import Derived.Test.YtagldpbmadfokaaDoorN6
set_option linter.unusedVariables false
set_option linter.unusedSimpArgs false
namespace Go.Proofs.YtagldpbmadfokaaDoor
open Go.RowKit
set_option maxHeartbeats 2000000
theorem szN_le {left : Int} {n : Nat} (h : (n : Int) ≤ left) : szN left n = left - n := by unfold szN; rw [if_neg (by omega)]
theorem szN_gt {left : Int} {n : Nat} (h : left < n) : szN left n = -1 := by unfold szN; rw [if_pos (by omega)]
theorem laws_eqCard_self (s : ByteArray) (a b : Wd) (w : World) :
    Calls Tryd.prog 17 #[.agg #[.string s, .int .u64 (U a), .int .u64 (U b)], .agg #[.string s, .int .u64 (U a), .int .u64 (U b)]] w fun e w' => e = .returned (.bool true) ∧ Keep w w' := by
  go_enter Tryd.func17, Tryd.ntmps17
  (go_wp2_with fail); (go_at_call 28); (refine (laws_eqMask_self _ _ _).mono ?_); rintro e w1 ⟨rfl, hk1⟩
  go_wp2
  go_ret; exact ⟨rfl, (by ((repeat (first | (with_reducible assumption) | ((with_reducible refine Keep.setCell ?_ ?_ _); rotate_left; focus (first | omega | (simp; done) | (simp; omega))) | (with_reducible refine Keep.alloc ?_ _) | (with_reducible refine Keep.drewN ?_ _) | (with_reducible refine Keep.drew ?_) | (with_reducible exact Keep.refl _) | refine Keep.trans ?_ (by with_reducible assumption) | exact Keep.refl _ | assumption))))⟩
end Go.Proofs.YtagldpbmadfokaaDoor

/- Masks: the functions over masks that call others, each once. -/
import Derived.Test.YtagldpbmadfokaaGreatDoorM1
set_option linter.unusedVariables false
set_option linter.unusedSimpArgs false
namespace Go.Proofs.YtagldpbmadfokaaGreatDoor
open Go.RowKit
set_option maxHeartbeats 400000
theorem spec_l01Join (a b c d : Wd) (w : World) :
    Calls Tryz.prog 19 #[.agg #[.int .u64 (U a), .int .u64 (U b)], .agg #[.int .u64 (U c), .int .u64 (U d)]] w fun e w' => e = .returned (.agg #[.int .u64 (U (a ||| c)), .int .u64 (U (b ||| d))]) ∧ Keep w w' := by
  go_enter Tryz.func19, Tryz.ntmps19
  go_wp2
  (apply bodyPost_ret; rotate_left; rfl; exact ⟨rfl, (by ((repeat (first | (with_reducible assumption) | ((with_reducible refine Keep.setCell ?_ ?_ _); rotate_left; focus (first | omega | (simp; done) | (simp; omega))) | (with_reducible refine Keep.alloc ?_ _) | (with_reducible refine Keep.drewN ?_ _) | (with_reducible refine Keep.drew ?_) | (with_reducible exact Keep.refl _) | refine Keep.trans ?_ (by with_reducible assumption) | exact Keep.refl _ | assumption))))⟩; simp [results, Tryz.results19, go_sem, U_zero, *])
end Go.Proofs.YtagldpbmadfokaaGreatDoor

/- The laws of what is told by a truth value and a code. -/
import Derived.Test.YtbbnhbfofdhnbaaDoorQ1
import Derived.Test.YtbbnhbfofdhnbaaDoorM4
import Derived.Test.YtbbnhbfofdhnbaaDoorMono
set_option linter.unusedVariables false
set_option linter.unusedSimpArgs false
namespace Go.Proofs.YtbbnhbfofdhnbaaDoor
open Go.RowKit
set_option maxHeartbeats 1000000
theorem laws_toMix (s z p : Int) (w : World) :
    Calls Tryd.prog 21 #[.agg #[.int .i16 s, .int .i16 z, .int .i16 p]] w fun e w' => e = .returned (.agg #[.int .i16 s, .int .i16 z, .int .i16 p]) ∧ Keep w w' := by
  go_enter Tryd.func21, Tryd.ntmps21
  go_wp2
  (apply bodyPost_ret; rotate_left; rfl; exact ⟨rfl, (by ((repeat (first | (with_reducible assumption) | ((with_reducible refine Keep.setCell ?_ ?_ _); rotate_left; focus (first | omega | (simp; done) | (simp; omega))) | (with_reducible refine Keep.alloc ?_ _) | (with_reducible refine Keep.drewN ?_ _) | (with_reducible refine Keep.drew ?_) | (with_reducible exact Keep.refl _) | refine Keep.trans ?_ (by with_reducible assumption) | exact Keep.refl _ | assumption))))⟩; simp [results, Tryd.results21, go_sem, U_zero, *])
end Go.Proofs.YtbbnhbfofdhnbaaDoor

/- Masks: the functions over masks that call others, each once. -/
import Derived.Test.YtbgegnbcjklmjaaDoorM1
set_option linter.unusedVariables false
set_option linter.unusedSimpArgs false
namespace Go.Proofs.YtbgegnbcjklmjaaDoor
open Go.RowKit
set_option maxHeartbeats 400000
theorem impl_JoinMasks (a b c d : Wd) (w : World) :
    Calls Tryd.prog 74 #[.agg #[.int .u64 (U a), .int .u64 (U b)], .agg #[.int .u64 (U c), .int .u64 (U d)]] w fun e w' => e = .returned (.agg #[.int .u64 (U (a ||| c)), .int .u64 (U (b ||| d))]) ∧ Keep w w' := by
  go_enter Tryd.func74, Tryd.ntmps74
  go_wp2
  (apply bodyPost_ret; rotate_left; rfl; exact ⟨rfl, (by ((repeat (first | (with_reducible assumption) | ((with_reducible refine Keep.setCell ?_ ?_ _); rotate_left; focus (first | omega | (simp; done) | (simp; omega))) | (with_reducible refine Keep.alloc ?_ _) | (with_reducible refine Keep.drewN ?_ _) | (with_reducible refine Keep.drew ?_) | (with_reducible exact Keep.refl _) | refine Keep.trans ?_ (by with_reducible assumption) | exact Keep.refl _ | assumption))))⟩; simp [results, Tryd.results74, go_sem, U_zero, *])
theorem impl_MeetMasks (a b c d : Wd) (w : World) :
    Calls Tryd.prog 92 #[.agg #[.int .u64 (U a), .int .u64 (U b)], .agg #[.int .u64 (U c), .int .u64 (U d)]] w fun e w' => e = .returned (.agg #[.int .u64 (U (a &&& c)), .int .u64 (U (b &&& d))]) ∧ Keep w w' := by
  go_enter Tryd.func92, Tryd.ntmps92
  go_wp2
  (apply bodyPost_ret; rotate_left; rfl; exact ⟨rfl, (by ((repeat (first | (with_reducible assumption) | ((with_reducible refine Keep.setCell ?_ ?_ _); rotate_left; focus (first | omega | (simp; done) | (simp; omega))) | (with_reducible refine Keep.alloc ?_ _) | (with_reducible refine Keep.drewN ?_ _) | (with_reducible refine Keep.drew ?_) | (with_reducible exact Keep.refl _) | refine Keep.trans ?_ (by with_reducible assumption) | exact Keep.refl _ | assumption))))⟩; simp [results, Tryd.results92, go_sem, U_zero, *])
theorem impl_LessMask (a b c d : Wd) (w : World) :
    Calls Tryd.prog 61 #[.agg #[.int .u64 (U a), .int .u64 (U b)], .agg #[.int .u64 (U c), .int .u64 (U d)]] w fun e w' => e = .returned (.agg #[.int .u64 (U (a &&& ~~~c)), .int .u64 (U (b &&& ~~~d))]) ∧ Keep w w' := by
  go_enter Tryd.func61, Tryd.ntmps61
  go_wp2
  (apply bodyPost_ret; rotate_left; rfl; exact ⟨rfl, (by ((repeat (first | (with_reducible assumption) | ((with_reducible refine Keep.setCell ?_ ?_ _); rotate_left; focus (first | omega | (simp; done) | (simp; omega))) | (with_reducible refine Keep.alloc ?_ _) | (with_reducible refine Keep.drewN ?_ _) | (with_reducible refine Keep.drew ?_) | (with_reducible exact Keep.refl _) | refine Keep.trans ?_ (by with_reducible assumption) | exact Keep.refl _ | assumption))))⟩; simp [results, Tryd.results61, go_sem, U_zero, *])
theorem spec_l01Join (a b c d : Wd) (w : World) :
    Calls Tryd.prog 73 #[.agg #[.int .u64 (U a), .int .u64 (U b)], .agg #[.int .u64 (U c), .int .u64 (U d)]] w fun e w' => e = .returned (.agg #[.int .u64 (U (a ||| c)), .int .u64 (U (b ||| d))]) ∧ Keep w w' := by
  go_enter Tryd.func73, Tryd.ntmps73
  go_wp2
  (apply bodyPost_ret; rotate_left; rfl; exact ⟨rfl, (by ((repeat (first | (with_reducible assumption) | ((with_reducible refine Keep.setCell ?_ ?_ _); rotate_left; focus (first | omega | (simp; done) | (simp; omega))) | (with_reducible refine Keep.alloc ?_ _) | (with_reducible refine Keep.drewN ?_ _) | (with_reducible refine Keep.drew ?_) | (with_reducible exact Keep.refl _) | refine Keep.trans ?_ (by with_reducible assumption) | exact Keep.refl _ | assumption))))⟩; simp [results, Tryd.results73, go_sem, U_zero, *])
theorem spec_l01Meet (a b c d : Wd) (w : World) :
    Calls Tryd.prog 91 #[.agg #[.int .u64 (U a), .int .u64 (U b)], .agg #[.int .u64 (U c), .int .u64 (U d)]] w fun e w' => e = .returned (.agg #[.int .u64 (U (a &&& c)), .int .u64 (U (b &&& d))]) ∧ Keep w w' := by
  go_enter Tryd.func91, Tryd.ntmps91
  go_wp2
  (apply bodyPost_ret; rotate_left; rfl; exact ⟨rfl, (by ((repeat (first | (with_reducible assumption) | ((with_reducible refine Keep.setCell ?_ ?_ _); rotate_left; focus (first | omega | (simp; done) | (simp; omega))) | (with_reducible refine Keep.alloc ?_ _) | (with_reducible refine Keep.drewN ?_ _) | (with_reducible refine Keep.drew ?_) | (with_reducible exact Keep.refl _) | refine Keep.trans ?_ (by with_reducible assumption) | exact Keep.refl _ | assumption))))⟩; simp [results, Tryd.results91, go_sem, U_zero, *])
theorem spec_l01Less (a b c d : Wd) (w : World) :
    Calls Tryd.prog 60 #[.agg #[.int .u64 (U a), .int .u64 (U b)], .agg #[.int .u64 (U c), .int .u64 (U d)]] w fun e w' => e = .returned (.agg #[.int .u64 (U (a &&& ~~~c)), .int .u64 (U (b &&& ~~~d))]) ∧ Keep w w' := by
  go_enter Tryd.func60, Tryd.ntmps60
  go_wp2
  (apply bodyPost_ret; rotate_left; rfl; exact ⟨rfl, (by ((repeat (first | (with_reducible assumption) | ((with_reducible refine Keep.setCell ?_ ?_ _); rotate_left; focus (first | omega | (simp; done) | (simp; omega))) | (with_reducible refine Keep.alloc ?_ _) | (with_reducible refine Keep.drewN ?_ _) | (with_reducible refine Keep.drew ?_) | (with_reducible exact Keep.refl _) | refine Keep.trans ?_ (by with_reducible assumption) | exact Keep.refl _ | assumption))))⟩; simp [results, Tryd.results60, go_sem, U_zero, *])
end Go.Proofs.YtbgegnbcjklmjaaDoor

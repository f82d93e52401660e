/- Masks: the functions over masks that call others, each once. -/
import Derived.Test.YtihebflgceljfaaDoorM1
set_option linter.unusedVariables false
set_option linter.unusedSimpArgs false
namespace Go.Proofs.YtihebflgceljfaaDoor
open Go.RowKit
set_option maxHeartbeats 400000
theorem impl_JoinMasks (a b c d : Wd) (w : World) :
    Calls Tryd.prog 51 #[.agg #[.int .u64 (U a), .int .u64 (U b)], .agg #[.int .u64 (U c), .int .u64 (U d)]] w fun e w' => e = .returned (.agg #[.int .u64 (U (a ||| c)), .int .u64 (U (b ||| d))]) ∧ Keep w w' := by
  go_enter Tryd.func51, Tryd.ntmps51
  go_wp2
  (apply bodyPost_ret; rotate_left; rfl; exact ⟨rfl, (by ((repeat (first | (with_reducible assumption) | ((with_reducible refine Keep.setCell ?_ ?_ _); rotate_left; focus (first | omega | (simp; done) | (simp; omega))) | (with_reducible refine Keep.alloc ?_ _) | (with_reducible refine Keep.drewN ?_ _) | (with_reducible refine Keep.drew ?_) | (with_reducible exact Keep.refl _) | refine Keep.trans ?_ (by with_reducible assumption) | exact Keep.refl _ | assumption))))⟩; simp [results, Tryd.results51, go_sem, U_zero, *])
theorem impl_LessMask (a b c d : Wd) (w : World) :
    Calls Tryd.prog 86 #[.agg #[.int .u64 (U a), .int .u64 (U b)], .agg #[.int .u64 (U c), .int .u64 (U d)]] w fun e w' => e = .returned (.agg #[.int .u64 (U (a &&& ~~~c)), .int .u64 (U (b &&& ~~~d))]) ∧ Keep w w' := by
  go_enter Tryd.func86, Tryd.ntmps86
  go_wp2
  (apply bodyPost_ret; rotate_left; rfl; exact ⟨rfl, (by ((repeat (first | (with_reducible assumption) | ((with_reducible refine Keep.setCell ?_ ?_ _); rotate_left; focus (first | omega | (simp; done) | (simp; omega))) | (with_reducible refine Keep.alloc ?_ _) | (with_reducible refine Keep.drewN ?_ _) | (with_reducible refine Keep.drew ?_) | (with_reducible exact Keep.refl _) | refine Keep.trans ?_ (by with_reducible assumption) | exact Keep.refl _ | assumption))))⟩; simp [results, Tryd.results86, go_sem, U_zero, *])
theorem spec_l01Join (a b c d : Wd) (w : World) :
    Calls Tryd.prog 87 #[.agg #[.int .u64 (U a), .int .u64 (U b)], .agg #[.int .u64 (U c), .int .u64 (U d)]] w fun e w' => e = .returned (.agg #[.int .u64 (U (a ||| c)), .int .u64 (U (b ||| d))]) ∧ Keep w w' := by
  go_enter Tryd.func87, Tryd.ntmps87
  go_wp2
  (apply bodyPost_ret; rotate_left; rfl; exact ⟨rfl, (by ((repeat (first | (with_reducible assumption) | ((with_reducible refine Keep.setCell ?_ ?_ _); rotate_left; focus (first | omega | (simp; done) | (simp; omega))) | (with_reducible refine Keep.alloc ?_ _) | (with_reducible refine Keep.drewN ?_ _) | (with_reducible refine Keep.drew ?_) | (with_reducible exact Keep.refl _) | refine Keep.trans ?_ (by with_reducible assumption) | exact Keep.refl _ | assumption))))⟩; simp [results, Tryd.results87, go_sem, U_zero, *])
theorem spec_l01Less (a b c d : Wd) (w : World) :
    Calls Tryd.prog 102 #[.agg #[.int .u64 (U a), .int .u64 (U b)], .agg #[.int .u64 (U c), .int .u64 (U d)]] w fun e w' => e = .returned (.agg #[.int .u64 (U (a &&& ~~~c)), .int .u64 (U (b &&& ~~~d))]) ∧ Keep w w' := by
  go_enter Tryd.func102, Tryd.ntmps102
  go_wp2
  (apply bodyPost_ret; rotate_left; rfl; exact ⟨rfl, (by ((repeat (first | (with_reducible assumption) | ((with_reducible refine Keep.setCell ?_ ?_ _); rotate_left; focus (first | omega | (simp; done) | (simp; omega))) | (with_reducible refine Keep.alloc ?_ _) | (with_reducible refine Keep.drewN ?_ _) | (with_reducible refine Keep.drew ?_) | (with_reducible exact Keep.refl _) | refine Keep.trans ?_ (by with_reducible assumption) | exact Keep.refl _ | assumption))))⟩; simp [results, Tryd.results102, go_sem, U_zero, *])
theorem spec_JoinMasks (a b c d : Wd) (w : World) :
    Calls Tryd.prog 53 #[.agg #[.int .u64 (U a), .int .u64 (U b)], .agg #[.int .u64 (U c), .int .u64 (U d)]] w fun e w' => e = .returned (.agg #[.int .u64 (U (a ||| c)), .int .u64 (U (b ||| d))]) ∧ Keep w w' := by
  go_enter Tryd.func53, Tryd.ntmps53
  go_wp2_with (go_at_call 87; refine (spec_l01Join _ _ _ _ _).mono ?_; rintro e w1 ⟨rfl, hk⟩; obtain ⟨hkc, hkf⟩ := hk.cells; have hkz0 : w.heap.size < w1.heap.size := (by have := hk.size; (try simp at this); omega); have hkz1 : w.heap.size + 1 < w1.heap.size := (by have := hk.size; (try simp at this); omega); have hkz2 : w.heap.size + 1 + 1 < w1.heap.size := (by have := hk.size; (try simp at this); omega))
  (apply bodyPost_ret; rotate_left; rfl; exact ⟨rfl, (by ((repeat (first | (with_reducible assumption) | ((with_reducible refine Keep.setCell ?_ ?_ _); rotate_left; focus (first | omega | (simp; done) | (simp; omega))) | (with_reducible refine Keep.alloc ?_ _) | (with_reducible refine Keep.drewN ?_ _) | (with_reducible refine Keep.drew ?_) | (with_reducible exact Keep.refl _) | refine Keep.trans ?_ (by with_reducible assumption) | exact Keep.refl _ | assumption))))⟩; simp [results, Tryd.results53, go_sem, U_zero, *])
theorem impl_IsWithin (a b c d : Wd) (w : World) :
    Calls Tryd.prog 50 #[.agg #[.int .u64 (U a), .int .u64 (U b)], .agg #[.int .u64 (U c), .int .u64 (U d)]] w fun e w' => e = .returned (.bool (withinB a b c d)) ∧ Keep w w' := by
  unfold withinB
  go_enter Tryd.func50, Tryd.ntmps50
  go_wp2_with (go_at_call 86; refine (impl_LessMask _ _ _ _ _).mono ?_; rintro e w1 ⟨rfl, hk⟩; obtain ⟨hkc, hkf⟩ := hk.cells; have hkz0 : w.heap.size < w1.heap.size := (by have := hk.size; (try simp at this); omega); have hkz1 : w.heap.size + 1 < w1.heap.size := (by have := hk.size; (try simp at this); omega))
  go_ret; exact ⟨rfl, (by ((repeat (first | (with_reducible assumption) | ((with_reducible refine Keep.setCell ?_ ?_ _); rotate_left; focus (first | omega | (simp; done) | (simp; omega))) | (with_reducible refine Keep.alloc ?_ _) | (with_reducible refine Keep.drewN ?_ _) | (with_reducible refine Keep.drew ?_) | (with_reducible exact Keep.refl _) | refine Keep.trans ?_ (by with_reducible assumption) | exact Keep.refl _ | assumption))))⟩
theorem spec_IsWithin (a b c d : Wd) (w : World) :
    Calls Tryd.prog 73 #[.agg #[.int .u64 (U a), .int .u64 (U b)], .agg #[.int .u64 (U c), .int .u64 (U d)]] w fun e w' => e = .returned (.bool (withinB a b c d)) ∧ Keep w w' := by
  unfold withinB
  go_enter Tryd.func73, Tryd.ntmps73
  go_wp2_with (go_at_call 102; refine (spec_l01Less _ _ _ _ _).mono ?_; rintro e w1 ⟨rfl, hk⟩; obtain ⟨hkc, hkf⟩ := hk.cells; have hkz0 : w.heap.size < w1.heap.size := (by have := hk.size; (try simp at this); omega); have hkz1 : w.heap.size + 1 < w1.heap.size := (by have := hk.size; (try simp at this); omega))
  go_ret; exact ⟨rfl, (by ((repeat (first | (with_reducible assumption) | ((with_reducible refine Keep.setCell ?_ ?_ _); rotate_left; focus (first | omega | (simp; done) | (simp; omega))) | (with_reducible refine Keep.alloc ?_ _) | (with_reducible refine Keep.drewN ?_ _) | (with_reducible refine Keep.drew ?_) | (with_reducible exact Keep.refl _) | refine Keep.trans ?_ (by with_reducible assumption) | exact Keep.refl _ | assumption))))⟩
theorem spec_ValidMask (a b : Wd) (w : World) :
    Calls Tryd.prog 91 #[.agg #[.int .u64 (U a), .int .u64 (U b)]] w fun e w' => e = .returned (.bool (okB b)) ∧ Keep w w' := by
  go_enter Tryd.func91, Tryd.ntmps91
  go_wp2_with (go_at_call 115; refine (spec_l01Mask _ _ _).mono ?_; rintro e w1 ⟨rfl, hk⟩; obtain ⟨hkc, hkf⟩ := hk.cells; have hkz0 : w.heap.size < w1.heap.size := (by have := hk.size; (try simp at this); omega))
  go_ret; exact ⟨rfl, (by ((repeat (first | (with_reducible assumption) | ((with_reducible refine Keep.setCell ?_ ?_ _); rotate_left; focus (first | omega | (simp; done) | (simp; omega))) | (with_reducible refine Keep.alloc ?_ _) | (with_reducible refine Keep.drewN ?_ _) | (with_reducible refine Keep.drew ?_) | (with_reducible exact Keep.refl _) | refine Keep.trans ?_ (by with_reducible assumption) | exact Keep.refl _ | assumption))))⟩
end Go.Proofs.YtihebflgceljfaaDoor

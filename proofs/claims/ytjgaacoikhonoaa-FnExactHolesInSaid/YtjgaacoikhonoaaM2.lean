/- Masks: the functions over masks that call others, each once. -/
import Derived.Test.YtjgaacoikhonoaaM1
set_option linter.unusedVariables false
set_option linter.unusedSimpArgs false
namespace Go.Proofs.Ytjgaacoikhonoaa
open Go.RowKit
set_option maxHeartbeats 400000
theorem impl_JoinMasks (a b c d : Wd) (w : World) :
    Calls Try.prog 48 #[.agg #[.int .u64 (U a), .int .u64 (U b)], .agg #[.int .u64 (U c), .int .u64 (U d)]] w fun e w' => e = .returned (.agg #[.int .u64 (U (a ||| c)), .int .u64 (U (b ||| d))]) ∧ Keep w w' := by
  go_enter Try.func48, Try.ntmps48
  go_wp2
  (apply bodyPost_ret; rotate_left; rfl; exact ⟨rfl, (by ((repeat (first | (with_reducible assumption) | ((with_reducible refine Keep.setCell ?_ ?_ _); rotate_left; focus (first | omega | (simp; done) | (simp; omega))) | (with_reducible refine Keep.alloc ?_ _) | (with_reducible refine Keep.drewN ?_ _) | (with_reducible refine Keep.drew ?_) | (with_reducible exact Keep.refl _) | refine Keep.trans ?_ (by with_reducible assumption) | exact Keep.refl _ | assumption))))⟩; simp [results, Try.results48, go_sem, U_zero, *])
theorem impl_MeetMasks (a b c d : Wd) (w : World) :
    Calls Try.prog 17 #[.agg #[.int .u64 (U a), .int .u64 (U b)], .agg #[.int .u64 (U c), .int .u64 (U d)]] w fun e w' => e = .returned (.agg #[.int .u64 (U (a &&& c)), .int .u64 (U (b &&& d))]) ∧ Keep w w' := by
  go_enter Try.func17, Try.ntmps17
  go_wp2
  (apply bodyPost_ret; rotate_left; rfl; exact ⟨rfl, (by ((repeat (first | (with_reducible assumption) | ((with_reducible refine Keep.setCell ?_ ?_ _); rotate_left; focus (first | omega | (simp; done) | (simp; omega))) | (with_reducible refine Keep.alloc ?_ _) | (with_reducible refine Keep.drewN ?_ _) | (with_reducible refine Keep.drew ?_) | (with_reducible exact Keep.refl _) | refine Keep.trans ?_ (by with_reducible assumption) | exact Keep.refl _ | assumption))))⟩; simp [results, Try.results17, go_sem, U_zero, *])
theorem impl_LessMask (a b c d : Wd) (w : World) :
    Calls Try.prog 49 #[.agg #[.int .u64 (U a), .int .u64 (U b)], .agg #[.int .u64 (U c), .int .u64 (U d)]] w fun e w' => e = .returned (.agg #[.int .u64 (U (a &&& ~~~c)), .int .u64 (U (b &&& ~~~d))]) ∧ Keep w w' := by
  go_enter Try.func49, Try.ntmps49
  go_wp2
  (apply bodyPost_ret; rotate_left; rfl; exact ⟨rfl, (by ((repeat (first | (with_reducible assumption) | ((with_reducible refine Keep.setCell ?_ ?_ _); rotate_left; focus (first | omega | (simp; done) | (simp; omega))) | (with_reducible refine Keep.alloc ?_ _) | (with_reducible refine Keep.drewN ?_ _) | (with_reducible refine Keep.drew ?_) | (with_reducible exact Keep.refl _) | refine Keep.trans ?_ (by with_reducible assumption) | exact Keep.refl _ | assumption))))⟩; simp [results, Try.results49, go_sem, U_zero, *])
theorem spec_l01Join (a b c d : Wd) (w : World) :
    Calls Try.prog 73 #[.agg #[.int .u64 (U a), .int .u64 (U b)], .agg #[.int .u64 (U c), .int .u64 (U d)]] w fun e w' => e = .returned (.agg #[.int .u64 (U (a ||| c)), .int .u64 (U (b ||| d))]) ∧ Keep w w' := by
  go_enter Try.func73, Try.ntmps73
  go_wp2
  (apply bodyPost_ret; rotate_left; rfl; exact ⟨rfl, (by ((repeat (first | (with_reducible assumption) | ((with_reducible refine Keep.setCell ?_ ?_ _); rotate_left; focus (first | omega | (simp; done) | (simp; omega))) | (with_reducible refine Keep.alloc ?_ _) | (with_reducible refine Keep.drewN ?_ _) | (with_reducible refine Keep.drew ?_) | (with_reducible exact Keep.refl _) | refine Keep.trans ?_ (by with_reducible assumption) | exact Keep.refl _ | assumption))))⟩; simp [results, Try.results73, go_sem, U_zero, *])
theorem spec_l01Meet (a b c d : Wd) (w : World) :
    Calls Try.prog 56 #[.agg #[.int .u64 (U a), .int .u64 (U b)], .agg #[.int .u64 (U c), .int .u64 (U d)]] w fun e w' => e = .returned (.agg #[.int .u64 (U (a &&& c)), .int .u64 (U (b &&& d))]) ∧ Keep w w' := by
  go_enter Try.func56, Try.ntmps56
  go_wp2
  (apply bodyPost_ret; rotate_left; rfl; exact ⟨rfl, (by ((repeat (first | (with_reducible assumption) | ((with_reducible refine Keep.setCell ?_ ?_ _); rotate_left; focus (first | omega | (simp; done) | (simp; omega))) | (with_reducible refine Keep.alloc ?_ _) | (with_reducible refine Keep.drewN ?_ _) | (with_reducible refine Keep.drew ?_) | (with_reducible exact Keep.refl _) | refine Keep.trans ?_ (by with_reducible assumption) | exact Keep.refl _ | assumption))))⟩; simp [results, Try.results56, go_sem, U_zero, *])
theorem spec_l01Less (a b c d : Wd) (w : World) :
    Calls Try.prog 76 #[.agg #[.int .u64 (U a), .int .u64 (U b)], .agg #[.int .u64 (U c), .int .u64 (U d)]] w fun e w' => e = .returned (.agg #[.int .u64 (U (a &&& ~~~c)), .int .u64 (U (b &&& ~~~d))]) ∧ Keep w w' := by
  go_enter Try.func76, Try.ntmps76
  go_wp2
  (apply bodyPost_ret; rotate_left; rfl; exact ⟨rfl, (by ((repeat (first | (with_reducible assumption) | ((with_reducible refine Keep.setCell ?_ ?_ _); rotate_left; focus (first | omega | (simp; done) | (simp; omega))) | (with_reducible refine Keep.alloc ?_ _) | (with_reducible refine Keep.drewN ?_ _) | (with_reducible refine Keep.drew ?_) | (with_reducible exact Keep.refl _) | refine Keep.trans ?_ (by with_reducible assumption) | exact Keep.refl _ | assumption))))⟩; simp [results, Try.results76, go_sem, U_zero, *])
theorem spec_JoinMasks (a b c d : Wd) (w : World) :
    Calls Try.prog 52 #[.agg #[.int .u64 (U a), .int .u64 (U b)], .agg #[.int .u64 (U c), .int .u64 (U d)]] w fun e w' => e = .returned (.agg #[.int .u64 (U (a ||| c)), .int .u64 (U (b ||| d))]) ∧ Keep w w' := by
  go_enter Try.func52, Try.ntmps52
  go_wp2_with (go_at_call 73; refine (spec_l01Join _ _ _ _ _).mono ?_; rintro e w1 ⟨rfl, hk⟩; obtain ⟨hkc, hkf⟩ := hk.cells; have hkz0 : w.heap.size < w1.heap.size := (by have := hk.size; (try simp at this); omega); have hkz1 : w.heap.size + 1 < w1.heap.size := (by have := hk.size; (try simp at this); omega); have hkz2 : w.heap.size + 1 + 1 < w1.heap.size := (by have := hk.size; (try simp at this); omega))
  (apply bodyPost_ret; rotate_left; rfl; exact ⟨rfl, (by ((repeat (first | (with_reducible assumption) | ((with_reducible refine Keep.setCell ?_ ?_ _); rotate_left; focus (first | omega | (simp; done) | (simp; omega))) | (with_reducible refine Keep.alloc ?_ _) | (with_reducible refine Keep.drewN ?_ _) | (with_reducible refine Keep.drew ?_) | (with_reducible exact Keep.refl _) | refine Keep.trans ?_ (by with_reducible assumption) | exact Keep.refl _ | assumption))))⟩; simp [results, Try.results52, go_sem, U_zero, *])
theorem spec_MeetMasks (a b c d : Wd) (w : World) :
    Calls Try.prog 15 #[.agg #[.int .u64 (U a), .int .u64 (U b)], .agg #[.int .u64 (U c), .int .u64 (U d)]] w fun e w' => e = .returned (.agg #[.int .u64 (U (a &&& c)), .int .u64 (U (b &&& d))]) ∧ Keep w w' := by
  go_enter Try.func15, Try.ntmps15
  go_wp2_with (go_at_call 56; refine (spec_l01Meet _ _ _ _ _).mono ?_; rintro e w1 ⟨rfl, hk⟩; obtain ⟨hkc, hkf⟩ := hk.cells; have hkz0 : w.heap.size < w1.heap.size := (by have := hk.size; (try simp at this); omega); have hkz1 : w.heap.size + 1 < w1.heap.size := (by have := hk.size; (try simp at this); omega); have hkz2 : w.heap.size + 1 + 1 < w1.heap.size := (by have := hk.size; (try simp at this); omega))
  (apply bodyPost_ret; rotate_left; rfl; exact ⟨rfl, (by ((repeat (first | (with_reducible assumption) | ((with_reducible refine Keep.setCell ?_ ?_ _); rotate_left; focus (first | omega | (simp; done) | (simp; omega))) | (with_reducible refine Keep.alloc ?_ _) | (with_reducible refine Keep.drewN ?_ _) | (with_reducible refine Keep.drew ?_) | (with_reducible exact Keep.refl _) | refine Keep.trans ?_ (by with_reducible assumption) | exact Keep.refl _ | assumption))))⟩; simp [results, Try.results15, go_sem, U_zero, *])
theorem impl_IsWithin (a b c d : Wd) (w : World) :
    Calls Try.prog 51 #[.agg #[.int .u64 (U a), .int .u64 (U b)], .agg #[.int .u64 (U c), .int .u64 (U d)]] w fun e w' => e = .returned (.bool (withinB a b c d)) ∧ Keep w w' := by
  unfold withinB
  go_enter Try.func51, Try.ntmps51
  go_wp2_with (go_at_call 49; refine (impl_LessMask _ _ _ _ _).mono ?_; rintro e w1 ⟨rfl, hk⟩; obtain ⟨hkc, hkf⟩ := hk.cells; have hkz0 : w.heap.size < w1.heap.size := (by have := hk.size; (try simp at this); omega); have hkz1 : w.heap.size + 1 < w1.heap.size := (by have := hk.size; (try simp at this); omega))
  go_ret; exact ⟨rfl, (by ((repeat (first | (with_reducible assumption) | ((with_reducible refine Keep.setCell ?_ ?_ _); rotate_left; focus (first | omega | (simp; done) | (simp; omega))) | (with_reducible refine Keep.alloc ?_ _) | (with_reducible refine Keep.drewN ?_ _) | (with_reducible refine Keep.drew ?_) | (with_reducible exact Keep.refl _) | refine Keep.trans ?_ (by with_reducible assumption) | exact Keep.refl _ | assumption))))⟩
theorem spec_IsWithin (a b c d : Wd) (w : World) :
    Calls Try.prog 83 #[.agg #[.int .u64 (U a), .int .u64 (U b)], .agg #[.int .u64 (U c), .int .u64 (U d)]] w fun e w' => e = .returned (.bool (withinB a b c d)) ∧ Keep w w' := by
  unfold withinB
  go_enter Try.func83, Try.ntmps83
  go_wp2_with (go_at_call 76; refine (spec_l01Less _ _ _ _ _).mono ?_; rintro e w1 ⟨rfl, hk⟩; obtain ⟨hkc, hkf⟩ := hk.cells; have hkz0 : w.heap.size < w1.heap.size := (by have := hk.size; (try simp at this); omega); have hkz1 : w.heap.size + 1 < w1.heap.size := (by have := hk.size; (try simp at this); omega))
  go_ret; exact ⟨rfl, (by ((repeat (first | (with_reducible assumption) | ((with_reducible refine Keep.setCell ?_ ?_ _); rotate_left; focus (first | omega | (simp; done) | (simp; omega))) | (with_reducible refine Keep.alloc ?_ _) | (with_reducible refine Keep.drewN ?_ _) | (with_reducible refine Keep.drew ?_) | (with_reducible exact Keep.refl _) | refine Keep.trans ?_ (by with_reducible assumption) | exact Keep.refl _ | assumption))))⟩
theorem impl_ValidMask (a b : Wd) (w : World) :
    Calls Try.prog 50 #[.agg #[.int .u64 (U a), .int .u64 (U b)]] w fun e w' => e = .returned (.bool (okB b)) ∧ Keep w w' := by
  go_enter Try.func50, Try.ntmps50
  go_wp2_with (go_at_call 61; refine (impl_isMask _ _ _).mono ?_; rintro e w1 ⟨rfl, hk⟩; obtain ⟨hkc, hkf⟩ := hk.cells; have hkz0 : w.heap.size < w1.heap.size := (by have := hk.size; (try simp at this); omega))
  go_ret; exact ⟨rfl, (by ((repeat (first | (with_reducible assumption) | ((with_reducible refine Keep.setCell ?_ ?_ _); rotate_left; focus (first | omega | (simp; done) | (simp; omega))) | (with_reducible refine Keep.alloc ?_ _) | (with_reducible refine Keep.drewN ?_ _) | (with_reducible refine Keep.drew ?_) | (with_reducible exact Keep.refl _) | refine Keep.trans ?_ (by with_reducible assumption) | exact Keep.refl _ | assumption))))⟩
end Go.Proofs.Ytjgaacoikhonoaa

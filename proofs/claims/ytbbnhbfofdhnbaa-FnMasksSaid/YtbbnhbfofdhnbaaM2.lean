/- Masks: the functions over masks that call others, each once. -/
import Derived.Test.YtbbnhbfofdhnbaaM1
set_option linter.unusedVariables false
set_option linter.unusedSimpArgs false
namespace Go.Proofs.Ytbbnhbfofdhnbaa
open Go.RowKit
set_option maxHeartbeats 400000
theorem impl_JoinMasks (a b c d : Wd) (w : World) :
    Calls Try.prog 7 #[.agg #[.int .u64 (U a), .int .u64 (U b)], .agg #[.int .u64 (U c), .int .u64 (U d)]] w fun e w' => e = .returned (.agg #[.int .u64 (U (a ||| c)), .int .u64 (U (b ||| d))]) ∧ Keep w w' := by
  go_enter Try.func7, Try.ntmps7
  go_wp2
  (apply bodyPost_ret; rotate_left; rfl; exact ⟨rfl, (by ((repeat (first | (with_reducible assumption) | ((with_reducible refine Keep.setCell ?_ ?_ _); rotate_left; focus (first | omega | (simp; done) | (simp; omega))) | (with_reducible refine Keep.alloc ?_ _) | (with_reducible refine Keep.drewN ?_ _) | (with_reducible refine Keep.drew ?_) | (with_reducible exact Keep.refl _) | refine Keep.trans ?_ (by with_reducible assumption) | exact Keep.refl _ | assumption))))⟩; simp [results, Try.results7, go_sem, U_zero, *])
theorem impl_MeetMasks (a b c d : Wd) (w : World) :
    Calls Try.prog 6 #[.agg #[.int .u64 (U a), .int .u64 (U b)], .agg #[.int .u64 (U c), .int .u64 (U d)]] w fun e w' => e = .returned (.agg #[.int .u64 (U (a &&& c)), .int .u64 (U (b &&& d))]) ∧ Keep w w' := by
  go_enter Try.func6, Try.ntmps6
  go_wp2
  (apply bodyPost_ret; rotate_left; rfl; exact ⟨rfl, (by ((repeat (first | (with_reducible assumption) | ((with_reducible refine Keep.setCell ?_ ?_ _); rotate_left; focus (first | omega | (simp; done) | (simp; omega))) | (with_reducible refine Keep.alloc ?_ _) | (with_reducible refine Keep.drewN ?_ _) | (with_reducible refine Keep.drew ?_) | (with_reducible exact Keep.refl _) | refine Keep.trans ?_ (by with_reducible assumption) | exact Keep.refl _ | assumption))))⟩; simp [results, Try.results6, go_sem, U_zero, *])
theorem impl_LessMask (a b c d : Wd) (w : World) :
    Calls Try.prog 8 #[.agg #[.int .u64 (U a), .int .u64 (U b)], .agg #[.int .u64 (U c), .int .u64 (U d)]] w fun e w' => e = .returned (.agg #[.int .u64 (U (a &&& ~~~c)), .int .u64 (U (b &&& ~~~d))]) ∧ Keep w w' := by
  go_enter Try.func8, Try.ntmps8
  go_wp2
  (apply bodyPost_ret; rotate_left; rfl; exact ⟨rfl, (by ((repeat (first | (with_reducible assumption) | ((with_reducible refine Keep.setCell ?_ ?_ _); rotate_left; focus (first | omega | (simp; done) | (simp; omega))) | (with_reducible refine Keep.alloc ?_ _) | (with_reducible refine Keep.drewN ?_ _) | (with_reducible refine Keep.drew ?_) | (with_reducible exact Keep.refl _) | refine Keep.trans ?_ (by with_reducible assumption) | exact Keep.refl _ | assumption))))⟩; simp [results, Try.results8, go_sem, U_zero, *])
theorem spec_l01Join (a b c d : Wd) (w : World) :
    Calls Try.prog 25 #[.agg #[.int .u64 (U a), .int .u64 (U b)], .agg #[.int .u64 (U c), .int .u64 (U d)]] w fun e w' => e = .returned (.agg #[.int .u64 (U (a ||| c)), .int .u64 (U (b ||| d))]) ∧ Keep w w' := by
  go_enter Try.func25, Try.ntmps25
  go_wp2
  (apply bodyPost_ret; rotate_left; rfl; exact ⟨rfl, (by ((repeat (first | (with_reducible assumption) | ((with_reducible refine Keep.setCell ?_ ?_ _); rotate_left; focus (first | omega | (simp; done) | (simp; omega))) | (with_reducible refine Keep.alloc ?_ _) | (with_reducible refine Keep.drewN ?_ _) | (with_reducible refine Keep.drew ?_) | (with_reducible exact Keep.refl _) | refine Keep.trans ?_ (by with_reducible assumption) | exact Keep.refl _ | assumption))))⟩; simp [results, Try.results25, go_sem, U_zero, *])
theorem spec_JoinMasks (a b c d : Wd) (w : World) :
    Calls Try.prog 12 #[.agg #[.int .u64 (U a), .int .u64 (U b)], .agg #[.int .u64 (U c), .int .u64 (U d)]] w fun e w' => e = .returned (.agg #[.int .u64 (U (a ||| c)), .int .u64 (U (b ||| d))]) ∧ Keep w w' := by
  go_enter Try.func12, Try.ntmps12
  go_wp2_with (go_at_call 25; refine (spec_l01Join _ _ _ _ _).mono ?_; rintro e w1 ⟨rfl, hk⟩; obtain ⟨hkc, hkf⟩ := hk.cells; have hkz0 : w.heap.size < w1.heap.size := (by have := hk.size; (try simp at this); omega); have hkz1 : w.heap.size + 1 < w1.heap.size := (by have := hk.size; (try simp at this); omega); have hkz2 : w.heap.size + 1 + 1 < w1.heap.size := (by have := hk.size; (try simp at this); omega))
  (apply bodyPost_ret; rotate_left; rfl; exact ⟨rfl, (by ((repeat (first | (with_reducible assumption) | ((with_reducible refine Keep.setCell ?_ ?_ _); rotate_left; focus (first | omega | (simp; done) | (simp; omega))) | (with_reducible refine Keep.alloc ?_ _) | (with_reducible refine Keep.drewN ?_ _) | (with_reducible refine Keep.drew ?_) | (with_reducible exact Keep.refl _) | refine Keep.trans ?_ (by with_reducible assumption) | exact Keep.refl _ | assumption))))⟩; simp [results, Try.results12, go_sem, U_zero, *])
theorem impl_IsWithin (a b c d : Wd) (w : World) :
    Calls Try.prog 11 #[.agg #[.int .u64 (U a), .int .u64 (U b)], .agg #[.int .u64 (U c), .int .u64 (U d)]] w fun e w' => e = .returned (.bool (withinB a b c d)) ∧ Keep w w' := by
  unfold withinB
  go_enter Try.func11, Try.ntmps11
  go_wp2_with (go_at_call 8; refine (impl_LessMask _ _ _ _ _).mono ?_; rintro e w1 ⟨rfl, hk⟩; obtain ⟨hkc, hkf⟩ := hk.cells; have hkz0 : w.heap.size < w1.heap.size := (by have := hk.size; (try simp at this); omega); have hkz1 : w.heap.size + 1 < w1.heap.size := (by have := hk.size; (try simp at this); omega))
  go_ret; exact ⟨rfl, (by ((repeat (first | (with_reducible assumption) | ((with_reducible refine Keep.setCell ?_ ?_ _); rotate_left; focus (first | omega | (simp; done) | (simp; omega))) | (with_reducible refine Keep.alloc ?_ _) | (with_reducible refine Keep.drewN ?_ _) | (with_reducible refine Keep.drew ?_) | (with_reducible exact Keep.refl _) | refine Keep.trans ?_ (by with_reducible assumption) | exact Keep.refl _ | assumption))))⟩
theorem impl_ValidMask (a b : Wd) (w : World) :
    Calls Try.prog 9 #[.agg #[.int .u64 (U a), .int .u64 (U b)]] w fun e w' => e = .returned (.bool (okB b)) ∧ Keep w w' := by
  go_enter Try.func9, Try.ntmps9
  go_wp2_with (go_at_call 23; refine (impl_isMask _ _ _).mono ?_; rintro e w1 ⟨rfl, hk⟩; obtain ⟨hkc, hkf⟩ := hk.cells; have hkz0 : w.heap.size < w1.heap.size := (by have := hk.size; (try simp at this); omega))
  go_ret; exact ⟨rfl, (by ((repeat (first | (with_reducible assumption) | ((with_reducible refine Keep.setCell ?_ ?_ _); rotate_left; focus (first | omega | (simp; done) | (simp; omega))) | (with_reducible refine Keep.alloc ?_ _) | (with_reducible refine Keep.drewN ?_ _) | (with_reducible refine Keep.drew ?_) | (with_reducible exact Keep.refl _) | refine Keep.trans ?_ (by with_reducible assumption) | exact Keep.refl _ | assumption))))⟩
end Go.Proofs.Ytbbnhbfofdhnbaa

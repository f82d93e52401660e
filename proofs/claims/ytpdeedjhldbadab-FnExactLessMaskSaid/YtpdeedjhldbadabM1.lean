/- Masks: the functions that only compute with words, each once. -/
import Derived.Test.YtpdeedjhldbadabPure
set_option linter.unusedVariables false
set_option linter.unusedSimpArgs false
namespace Go.Proofs.Ytpdeedjhldbadab
open Go.RowKit
set_option maxHeartbeats 400000
theorem laws_toMask (a b : Int) (w : World) :
    Calls Try.prog 5 #[.agg #[.int .u64 a, .int .u64 b]] w fun e w' => e = .returned (.agg #[.int .u64 a, .int .u64 b]) ∧ Keep w w' := by
  go_enter Try.func5, Try.ntmps5
  go_wp2
  go_rounds 3
  (apply bodyPost_ret; rotate_left; rfl; exact ⟨rfl, (by ((repeat (first | (with_reducible assumption) | ((with_reducible refine Keep.setCell ?_ ?_ _); rotate_left; focus (first | omega | (simp; done) | (simp; omega))) | (with_reducible refine Keep.alloc ?_ _) | (with_reducible refine Keep.drewN ?_ _) | (with_reducible refine Keep.drew ?_) | (with_reducible exact Keep.refl _) | refine Keep.trans ?_ (by with_reducible assumption) | exact Keep.refl _ | assumption))))⟩; simp [results, Try.results5, go_sem, U_zero, *])
theorem laws_eqMask (a b c d : Wd) (w : World) :
    Calls Try.prog 7 #[.agg #[.int .u64 (U a), .int .u64 (U b)], .agg #[.int .u64 (U c), .int .u64 (U d)]] w fun e w' => e = .returned (.bool (a == c && b == d)) ∧ Keep w w' := by
  go_enter Try.func7, Try.ntmps7
  go_wp2
  refine wp_loop_rounds 3 ?_
  rw [rounds_succ]
  go_wp2
  go_quiet (fail)
  go_wp2
  · have h : (a != c) = true := by assumption
    go_ret; exact ⟨rb (by simp at h; simp [h]), (by ((repeat (first | (with_reducible assumption) | ((with_reducible refine Keep.setCell ?_ ?_ _); rotate_left; focus (first | omega | (simp; done) | (simp; omega))) | (with_reducible refine Keep.alloc ?_ _) | (with_reducible refine Keep.drewN ?_ _) | (with_reducible refine Keep.drew ?_) | (with_reducible exact Keep.refl _) | refine Keep.trans ?_ (by with_reducible assumption) | exact Keep.refl _ | assumption))))⟩
  · have h : (a != c) = false := by assumption
    rw [rounds_succ]
    go_wp2
    go_quiet (fail)
    go_wp2
    · have h2 : (b != d) = true := by assumption
      go_ret; exact ⟨rb (by simp at h h2; simp [h, h2]), (by ((repeat (first | (with_reducible assumption) | ((with_reducible refine Keep.setCell ?_ ?_ _); rotate_left; focus (first | omega | (simp; done) | (simp; omega))) | (with_reducible refine Keep.alloc ?_ _) | (with_reducible refine Keep.drewN ?_ _) | (with_reducible refine Keep.drew ?_) | (with_reducible exact Keep.refl _) | refine Keep.trans ?_ (by with_reducible assumption) | exact Keep.refl _ | assumption))))⟩
    · have h2 : (b != d) = false := by assumption
      rw [rounds_succ]
      go_wp2
      go_ret; exact ⟨rb (by simp at h h2; simp [h, h2]), (by ((repeat (first | (with_reducible assumption) | ((with_reducible refine Keep.setCell ?_ ?_ _); rotate_left; focus (first | omega | (simp; done) | (simp; omega))) | (with_reducible refine Keep.alloc ?_ _) | (with_reducible refine Keep.drewN ?_ _) | (with_reducible refine Keep.drew ?_) | (with_reducible exact Keep.refl _) | refine Keep.trans ?_ (by with_reducible assumption) | exact Keep.refl _ | assumption))))⟩
end Go.Proofs.Ytpdeedjhldbadab

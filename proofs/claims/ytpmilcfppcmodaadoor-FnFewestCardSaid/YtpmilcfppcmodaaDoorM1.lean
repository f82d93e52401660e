/- Masks: the functions that only compute with words, each once. -/
import Derived.Test.YtpmilcfppcmodaaDoorPure
set_option linter.unusedVariables false
set_option linter.unusedSimpArgs false
namespace Go.Proofs.YtpmilcfppcmodaaDoor
open Go.RowKit
set_option maxHeartbeats 400000
theorem impl_isMask (a b : Wd) (w : World) :
    Calls Tryd.prog 81 #[.agg #[.int .u64 (U a), .int .u64 (U b)]] w fun e w' => e = .returned (.bool (okB b)) ∧ Keep w w' := by
  go_enter Tryd.func81, Tryd.ntmps81
  go_wp2
  go_ret
  exact ⟨rb (okB_div b), (by ((repeat (first | (with_reducible assumption) | ((with_reducible refine Keep.setCell ?_ ?_ _); rotate_left; focus (first | omega | (simp; done) | (simp; omega))) | (with_reducible refine Keep.alloc ?_ _) | (with_reducible refine Keep.drewN ?_ _) | (with_reducible refine Keep.drew ?_) | (with_reducible exact Keep.refl _) | refine Keep.trans ?_ (by with_reducible assumption) | exact Keep.refl _ | assumption))))⟩
theorem spec_l01Mask (a b : Wd) (w : World) :
    Calls Tryd.prog 125 #[.agg #[.int .u64 (U a), .int .u64 (U b)]] w fun e w' => e = .returned (.bool (okB b)) ∧ Keep w w' := by
  go_enter Tryd.func125, Tryd.ntmps125
  go_wp2
  go_ret
  exact ⟨rb (okB_div b), (by ((repeat (first | (with_reducible assumption) | ((with_reducible refine Keep.setCell ?_ ?_ _); rotate_left; focus (first | omega | (simp; done) | (simp; omega))) | (with_reducible refine Keep.alloc ?_ _) | (with_reducible refine Keep.drewN ?_ _) | (with_reducible refine Keep.drew ?_) | (with_reducible exact Keep.refl _) | refine Keep.trans ?_ (by with_reducible assumption) | exact Keep.refl _ | assumption))))⟩
theorem impl_isHole (n : Int) (w : World) :
    Calls Tryd.prog 84 #[.int .i64 n] w fun e w' => e = .returned (.bool (holeB n)) ∧ Keep w w' := by
  go_enter Tryd.func84, Tryd.ntmps84
  go_wp2
  all_goals go_ret; exact ⟨rb (by simp [holeB, *]; try omega), (by ((repeat (first | (with_reducible assumption) | ((with_reducible refine Keep.setCell ?_ ?_ _); rotate_left; focus (first | omega | (simp; done) | (simp; omega))) | (with_reducible refine Keep.alloc ?_ _) | (with_reducible refine Keep.drewN ?_ _) | (with_reducible refine Keep.drew ?_) | (with_reducible exact Keep.refl _) | refine Keep.trans ?_ (by with_reducible assumption) | exact Keep.refl _ | assumption))))⟩
theorem spec_l00In (n lo hi : Int) (w : World) :
    Calls Tryd.prog 132 #[.int .i64 n, .int .i64 lo, .int .i64 hi] w fun e w' => e = .returned (.bool (inB n lo hi)) ∧ Keep w w' := by
  go_enter Tryd.func132, Tryd.ntmps132
  go_wp2
  all_goals go_ret; exact ⟨rb (by simp [inB, *]; try omega), (by ((repeat (first | (with_reducible assumption) | ((with_reducible refine Keep.setCell ?_ ?_ _); rotate_left; focus (first | omega | (simp; done) | (simp; omega))) | (with_reducible refine Keep.alloc ?_ _) | (with_reducible refine Keep.drewN ?_ _) | (with_reducible refine Keep.drew ?_) | (with_reducible exact Keep.refl _) | refine Keep.trans ?_ (by with_reducible assumption) | exact Keep.refl _ | assumption))))⟩
theorem spec_l01Hole (n : Int) (w : World) :
    Calls Tryd.prog 97 #[.int .i64 n] w fun e w' => e = .returned (.bool (holeB n)) ∧ Keep w w' := by
  go_enter Tryd.func97, Tryd.ntmps97
  go_wp2_with (go_at_call 132; refine (spec_l00In _ _ _ _).mono ?_; rintro e w1 ⟨rfl, hk⟩)
  go_ret; exact ⟨rb (inB_hole n), (by ((repeat (first | (with_reducible assumption) | ((with_reducible refine Keep.setCell ?_ ?_ _); rotate_left; focus (first | omega | (simp; done) | (simp; omega))) | (with_reducible refine Keep.alloc ?_ _) | (with_reducible refine Keep.drewN ?_ _) | (with_reducible refine Keep.drew ?_) | (with_reducible exact Keep.refl _) | refine Keep.trans ?_ (by with_reducible assumption) | exact Keep.refl _ | assumption))))⟩
theorem spec_l01Bit (h : Int) (h0 : 0 ≤ h) (h1 : h < 96) (w : World) :
    Calls Tryd.prog 123 #[.int .i64 h] w fun e w' => e = .returned (.agg #[.int .u64 (U (bitLo h)), .int .u64 (U (bitHi h))]) ∧ Keep w w' := by
  by_cases hh : h < 64
  · rw [← bitLo_lt hh h0, ← bitHi_lt hh]
    have e1 : h / 64 = 0 := by omega
    have e2 : h % 64 = h := by omega
    go_enter Tryd.func123, Tryd.ntmps123
    go_wp2
    (apply bodyPost_ret; rotate_left; rfl; exact ⟨rfl, (by ((repeat (first | (with_reducible assumption) | ((with_reducible refine Keep.setCell ?_ ?_ _); rotate_left; focus (first | omega | (simp; done) | (simp; omega))) | (with_reducible refine Keep.alloc ?_ _) | (with_reducible refine Keep.drewN ?_ _) | (with_reducible refine Keep.drew ?_) | (with_reducible exact Keep.refl _) | refine Keep.trans ?_ (by with_reducible assumption) | exact Keep.refl _ | assumption))))⟩; simp [results, Tryd.results123, go_sem, U_zero, *])
  · rw [← bitLo_ge hh, ← bitHi_ge hh h1]
    have e1 : h / 64 = 1 := by omega
    have e2 : h % 64 = h - 64 := by omega
    go_enter Tryd.func123, Tryd.ntmps123
    go_wp2
    (apply bodyPost_ret; rotate_left; rfl; exact ⟨rfl, (by ((repeat (first | (with_reducible assumption) | ((with_reducible refine Keep.setCell ?_ ?_ _); rotate_left; focus (first | omega | (simp; done) | (simp; omega))) | (with_reducible refine Keep.alloc ?_ _) | (with_reducible refine Keep.drewN ?_ _) | (with_reducible refine Keep.drew ?_) | (with_reducible exact Keep.refl _) | refine Keep.trans ?_ (by with_reducible assumption) | exact Keep.refl _ | assumption))))⟩; simp [results, Tryd.results123, go_sem, U_zero, *])
theorem spec_l01Has (a b : Wd) (h : Int) (h0 : 0 ≤ h) (h1 : h < 96) (w : World) :
    Calls Tryd.prog 98 #[.agg #[.int .u64 (U a), .int .u64 (U b)], .int .i64 h] w fun e w' => e = .returned (.bool (hasB a b h)) ∧ Keep w w' := by
  by_cases hh : h < 64
  · rw [hasB_lt hh]
    have e1 : h / 64 = 0 := by omega
    have e2 : h % 64 = h := by omega
    go_enter Tryd.func98, Tryd.ntmps98
    go_wp2
    go_ret; exact ⟨rb (has_tmod _ _), (by ((repeat (first | (with_reducible assumption) | ((with_reducible refine Keep.setCell ?_ ?_ _); rotate_left; focus (first | omega | (simp; done) | (simp; omega))) | (with_reducible refine Keep.alloc ?_ _) | (with_reducible refine Keep.drewN ?_ _) | (with_reducible refine Keep.drew ?_) | (with_reducible exact Keep.refl _) | refine Keep.trans ?_ (by with_reducible assumption) | exact Keep.refl _ | assumption))))⟩
  · rw [hasB_ge hh]
    have e1 : h / 64 = 1 := by omega
    have e2 : h % 64 = h - 64 := by omega
    go_enter Tryd.func98, Tryd.ntmps98
    go_wp2
    go_ret; exact ⟨rb (has_tmod _ _), (by ((repeat (first | (with_reducible assumption) | ((with_reducible refine Keep.setCell ?_ ?_ _); rotate_left; focus (first | omega | (simp; done) | (simp; omega))) | (with_reducible refine Keep.alloc ?_ _) | (with_reducible refine Keep.drewN ?_ _) | (with_reducible refine Keep.drew ?_) | (with_reducible exact Keep.refl _) | refine Keep.trans ?_ (by with_reducible assumption) | exact Keep.refl _ | assumption))))⟩
theorem impl_has (a b : Wd) (h : Int) (h0 : 0 ≤ h) (h1 : h < 96) (w : World) :
    Calls Tryd.prog 101 #[.agg #[.int .u64 (U a), .int .u64 (U b)], .int .i64 h] w fun e w' => e = .returned (.bool (hasB a b h)) ∧ Keep w w' := by
  by_cases hh : h < 64
  · rw [hasB_lt hh]
    have e1 : h / 64 = 0 := by omega
    have e2 : h % 64 = h := by omega
    go_enter Tryd.func101, Tryd.ntmps101
    go_wp2
    go_ret; exact ⟨rb (has_bits _ _), (by ((repeat (first | (with_reducible assumption) | ((with_reducible refine Keep.setCell ?_ ?_ _); rotate_left; focus (first | omega | (simp; done) | (simp; omega))) | (with_reducible refine Keep.alloc ?_ _) | (with_reducible refine Keep.drewN ?_ _) | (with_reducible refine Keep.drew ?_) | (with_reducible exact Keep.refl _) | refine Keep.trans ?_ (by with_reducible assumption) | exact Keep.refl _ | assumption))))⟩
  · rw [hasB_ge hh]
    have e1 : h / 64 = 1 := by omega
    have e2 : h % 64 = h - 64 := by omega
    go_enter Tryd.func101, Tryd.ntmps101
    go_wp2
    go_ret; exact ⟨rb (has_bits _ _), (by ((repeat (first | (with_reducible assumption) | ((with_reducible refine Keep.setCell ?_ ?_ _); rotate_left; focus (first | omega | (simp; done) | (simp; omega))) | (with_reducible refine Keep.alloc ?_ _) | (with_reducible refine Keep.drewN ?_ _) | (with_reducible refine Keep.drew ?_) | (with_reducible exact Keep.refl _) | refine Keep.trans ?_ (by with_reducible assumption) | exact Keep.refl _ | assumption))))⟩
theorem laws_toMask (a b : Int) (w : World) :
    Calls Tryd.prog 102 #[.agg #[.int .u64 a, .int .u64 b]] w fun e w' => e = .returned (.agg #[.int .u64 a, .int .u64 b]) ∧ Keep w w' := by
  go_enter Tryd.func102, Tryd.ntmps102
  go_wp2
  go_rounds 3
  (apply bodyPost_ret; rotate_left; rfl; exact ⟨rfl, (by ((repeat (first | (with_reducible assumption) | ((with_reducible refine Keep.setCell ?_ ?_ _); rotate_left; focus (first | omega | (simp; done) | (simp; omega))) | (with_reducible refine Keep.alloc ?_ _) | (with_reducible refine Keep.drewN ?_ _) | (with_reducible refine Keep.drew ?_) | (with_reducible exact Keep.refl _) | refine Keep.trans ?_ (by with_reducible assumption) | exact Keep.refl _ | assumption))))⟩; simp [results, Tryd.results102, go_sem, U_zero, *])
theorem laws_eqMask (a b c d : Wd) (w : World) :
    Calls Tryd.prog 63 #[.agg #[.int .u64 (U a), .int .u64 (U b)], .agg #[.int .u64 (U c), .int .u64 (U d)]] w fun e w' => e = .returned (.bool (a == c && b == d)) ∧ Keep w w' := by
  go_enter Tryd.func63, Tryd.ntmps63
  go_wp2
  refine wp_loop_rounds 3 ?_
  rw [rounds_succ]
  go_wp2
  go_quiet (fail)
  go_wp2
  · have h : (a != c) = true := by assumption
    go_ret; exact ⟨rb (by simp at h; simp [h]), (by ((repeat (first | (with_reducible assumption) | ((with_reducible refine Keep.setCell ?_ ?_ _); rotate_left; focus (first | omega | (simp; done) | (simp; omega))) | (with_reducible refine Keep.alloc ?_ _) | (with_reducible refine Keep.drewN ?_ _) | (with_reducible refine Keep.drew ?_) | (with_reducible exact Keep.refl _) | refine Keep.trans ?_ (by with_reducible assumption) | exact Keep.refl _ | assumption))))⟩
  · have h : (a != c) = false := by assumption
    rw [rounds_succ]
    go_wp2
    go_quiet (fail)
    go_wp2
    · have h2 : (b != d) = true := by assumption
      go_ret; exact ⟨rb (by simp at h h2; simp [h, h2]), (by ((repeat (first | (with_reducible assumption) | ((with_reducible refine Keep.setCell ?_ ?_ _); rotate_left; focus (first | omega | (simp; done) | (simp; omega))) | (with_reducible refine Keep.alloc ?_ _) | (with_reducible refine Keep.drewN ?_ _) | (with_reducible refine Keep.drew ?_) | (with_reducible exact Keep.refl _) | refine Keep.trans ?_ (by with_reducible assumption) | exact Keep.refl _ | assumption))))⟩
    · have h2 : (b != d) = false := by assumption
      rw [rounds_succ]
      go_wp2
      go_ret; exact ⟨rb (by simp at h h2; simp [h, h2]), (by ((repeat (first | (with_reducible assumption) | ((with_reducible refine Keep.setCell ?_ ?_ _); rotate_left; focus (first | omega | (simp; done) | (simp; omega))) | (with_reducible refine Keep.alloc ?_ _) | (with_reducible refine Keep.drewN ?_ _) | (with_reducible refine Keep.drew ?_) | (with_reducible exact Keep.refl _) | refine Keep.trans ?_ (by with_reducible assumption) | exact Keep.refl _ | assumption))))⟩
end Go.Proofs.YtpmilcfppcmodaaDoor

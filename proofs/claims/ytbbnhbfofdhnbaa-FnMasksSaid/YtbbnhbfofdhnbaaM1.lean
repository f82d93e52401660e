/- Masks: the functions that only compute with words, each once. -/
import Derived.Test.YtbbnhbfofdhnbaaPure
set_option linter.unusedVariables false
set_option linter.unusedSimpArgs false
namespace Go.Proofs.Ytbbnhbfofdhnbaa
open Go.RowKit
set_option maxHeartbeats 400000
theorem impl_isMask (a b : Wd) (w : World) :
    Calls Try.prog 23 #[.agg #[.int .u64 (U a), .int .u64 (U b)]] w fun e w' => e = .returned (.bool (okB b)) ∧ Keep w w' := by
  go_enter Try.func23, Try.ntmps23
  go_wp2
  go_ret
  exact ⟨rb (okB_div b), (by ((repeat (first | (with_reducible assumption) | ((with_reducible refine Keep.setCell ?_ ?_ _); rotate_left; focus (first | omega | (simp; done) | (simp; omega))) | (with_reducible refine Keep.alloc ?_ _) | (with_reducible refine Keep.drewN ?_ _) | (with_reducible refine Keep.drew ?_) | (with_reducible exact Keep.refl _) | refine Keep.trans ?_ (by with_reducible assumption) | exact Keep.refl _ | assumption))))⟩
theorem spec_l01Mask (a b : Wd) (w : World) :
    Calls Try.prog 27 #[.agg #[.int .u64 (U a), .int .u64 (U b)]] w fun e w' => e = .returned (.bool (okB b)) ∧ Keep w w' := by
  go_enter Try.func27, Try.ntmps27
  go_wp2
  go_ret
  exact ⟨rb (okB_div b), (by ((repeat (first | (with_reducible assumption) | ((with_reducible refine Keep.setCell ?_ ?_ _); rotate_left; focus (first | omega | (simp; done) | (simp; omega))) | (with_reducible refine Keep.alloc ?_ _) | (with_reducible refine Keep.drewN ?_ _) | (with_reducible refine Keep.drew ?_) | (with_reducible exact Keep.refl _) | refine Keep.trans ?_ (by with_reducible assumption) | exact Keep.refl _ | assumption))))⟩
theorem impl_isHole (n : Int) (w : World) :
    Calls Try.prog 29 #[.int .i64 n] w fun e w' => e = .returned (.bool (holeB n)) ∧ Keep w w' := by
  go_enter Try.func29, Try.ntmps29
  go_wp2
  all_goals go_ret; exact ⟨rb (by simp [holeB, *]; try omega), (by ((repeat (first | (with_reducible assumption) | ((with_reducible refine Keep.setCell ?_ ?_ _); rotate_left; focus (first | omega | (simp; done) | (simp; omega))) | (with_reducible refine Keep.alloc ?_ _) | (with_reducible refine Keep.drewN ?_ _) | (with_reducible refine Keep.drew ?_) | (with_reducible exact Keep.refl _) | refine Keep.trans ?_ (by with_reducible assumption) | exact Keep.refl _ | assumption))))⟩
theorem spec_l01Bit (h : Int) (h0 : 0 ≤ h) (h1 : h < 96) (w : World) :
    Calls Try.prog 35 #[.int .i64 h] w fun e w' => e = .returned (.agg #[.int .u64 (U (bitLo h)), .int .u64 (U (bitHi h))]) ∧ Keep w w' := by
  by_cases hh : h < 64
  · rw [← bitLo_lt hh h0, ← bitHi_lt hh]
    have e1 : h / 64 = 0 := by omega
    have e2 : h % 64 = h := by omega
    go_enter Try.func35, Try.ntmps35
    go_wp2
    (apply bodyPost_ret; rotate_left; rfl; exact ⟨rfl, (by ((repeat (first | (with_reducible assumption) | ((with_reducible refine Keep.setCell ?_ ?_ _); rotate_left; focus (first | omega | (simp; done) | (simp; omega))) | (with_reducible refine Keep.alloc ?_ _) | (with_reducible refine Keep.drewN ?_ _) | (with_reducible refine Keep.drew ?_) | (with_reducible exact Keep.refl _) | refine Keep.trans ?_ (by with_reducible assumption) | exact Keep.refl _ | assumption))))⟩; simp [results, Try.results35, go_sem, U_zero, *])
  · rw [← bitLo_ge hh, ← bitHi_ge hh h1]
    have e1 : h / 64 = 1 := by omega
    have e2 : h % 64 = h - 64 := by omega
    go_enter Try.func35, Try.ntmps35
    go_wp2
    (apply bodyPost_ret; rotate_left; rfl; exact ⟨rfl, (by ((repeat (first | (with_reducible assumption) | ((with_reducible refine Keep.setCell ?_ ?_ _); rotate_left; focus (first | omega | (simp; done) | (simp; omega))) | (with_reducible refine Keep.alloc ?_ _) | (with_reducible refine Keep.drewN ?_ _) | (with_reducible refine Keep.drew ?_) | (with_reducible exact Keep.refl _) | refine Keep.trans ?_ (by with_reducible assumption) | exact Keep.refl _ | assumption))))⟩; simp [results, Try.results35, go_sem, U_zero, *])
theorem spec_l01Has (a b : Wd) (h : Int) (h0 : 0 ≤ h) (h1 : h < 96) (w : World) :
    Calls Try.prog 36 #[.agg #[.int .u64 (U a), .int .u64 (U b)], .int .i64 h] w fun e w' => e = .returned (.bool (hasB a b h)) ∧ Keep w w' := by
  by_cases hh : h < 64
  · rw [hasB_lt hh]
    have e1 : h / 64 = 0 := by omega
    have e2 : h % 64 = h := by omega
    go_enter Try.func36, Try.ntmps36
    go_wp2
    go_ret; exact ⟨rb (has_tmod _ _), (by ((repeat (first | (with_reducible assumption) | ((with_reducible refine Keep.setCell ?_ ?_ _); rotate_left; focus (first | omega | (simp; done) | (simp; omega))) | (with_reducible refine Keep.alloc ?_ _) | (with_reducible refine Keep.drewN ?_ _) | (with_reducible refine Keep.drew ?_) | (with_reducible exact Keep.refl _) | refine Keep.trans ?_ (by with_reducible assumption) | exact Keep.refl _ | assumption))))⟩
  · rw [hasB_ge hh]
    have e1 : h / 64 = 1 := by omega
    have e2 : h % 64 = h - 64 := by omega
    go_enter Try.func36, Try.ntmps36
    go_wp2
    go_ret; exact ⟨rb (has_tmod _ _), (by ((repeat (first | (with_reducible assumption) | ((with_reducible refine Keep.setCell ?_ ?_ _); rotate_left; focus (first | omega | (simp; done) | (simp; omega))) | (with_reducible refine Keep.alloc ?_ _) | (with_reducible refine Keep.drewN ?_ _) | (with_reducible refine Keep.drew ?_) | (with_reducible exact Keep.refl _) | refine Keep.trans ?_ (by with_reducible assumption) | exact Keep.refl _ | assumption))))⟩
theorem impl_has (a b : Wd) (h : Int) (h0 : 0 ≤ h) (h1 : h < 96) (w : World) :
    Calls Try.prog 32 #[.agg #[.int .u64 (U a), .int .u64 (U b)], .int .i64 h] w fun e w' => e = .returned (.bool (hasB a b h)) ∧ Keep w w' := by
  by_cases hh : h < 64
  · rw [hasB_lt hh]
    have e1 : h / 64 = 0 := by omega
    have e2 : h % 64 = h := by omega
    go_enter Try.func32, Try.ntmps32
    go_wp2
    go_ret; exact ⟨rb (has_bits _ _), (by ((repeat (first | (with_reducible assumption) | ((with_reducible refine Keep.setCell ?_ ?_ _); rotate_left; focus (first | omega | (simp; done) | (simp; omega))) | (with_reducible refine Keep.alloc ?_ _) | (with_reducible refine Keep.drewN ?_ _) | (with_reducible refine Keep.drew ?_) | (with_reducible exact Keep.refl _) | refine Keep.trans ?_ (by with_reducible assumption) | exact Keep.refl _ | assumption))))⟩
  · rw [hasB_ge hh]
    have e1 : h / 64 = 1 := by omega
    have e2 : h % 64 = h - 64 := by omega
    go_enter Try.func32, Try.ntmps32
    go_wp2
    go_ret; exact ⟨rb (has_bits _ _), (by ((repeat (first | (with_reducible assumption) | ((with_reducible refine Keep.setCell ?_ ?_ _); rotate_left; focus (first | omega | (simp; done) | (simp; omega))) | (with_reducible refine Keep.alloc ?_ _) | (with_reducible refine Keep.drewN ?_ _) | (with_reducible refine Keep.drew ?_) | (with_reducible exact Keep.refl _) | refine Keep.trans ?_ (by with_reducible assumption) | exact Keep.refl _ | assumption))))⟩
end Go.Proofs.Ytbbnhbfofdhnbaa

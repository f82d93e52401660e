/- The laws of cards and fields: what they do with their arguments. -/
import Derived.Test.YtagldpbmadfokaaDoorN5
set_option linter.unusedVariables false
set_option linter.unusedSimpArgs false
namespace Go.Proofs.YtagldpbmadfokaaDoor
open Go.RowKit
set_option maxHeartbeats 2000000
def szN (left : Int) (n : Nat) : Int := if left - n < 0 then -1 else left - n
theorem laws_szCard (s : ByteArray) (a b : Wd) (left : Int) (w : World) (hl : 0 ≤ left ∧ left ≤ 1048576) (hs : s.size ≤ 9223372036854775807) :
    Calls Tryd.prog 6 #[.agg #[.string s, .int .u64 (U a), .int .u64 (U b)], .int .i64 left] w fun e w' => e = .returned (.int .i64 (szN left s.size)) ∧ Keep w w' := by
  obtain ⟨l0, l1⟩ := hl
  by_cases h : left - s.size < 0
  · have e1 : szN left s.size = -1 := by unfold szN; rw [if_pos h]
    rw [e1]
    go_enter Tryd.func6, Tryd.ntmps6
    go_wp2
    go_ret; exact ⟨rfl, (by ((repeat (first | (with_reducible assumption) | ((with_reducible refine Keep.setCell ?_ ?_ _); rotate_left; focus (first | omega | (simp; done) | (simp; omega))) | (with_reducible refine Keep.alloc ?_ _) | (with_reducible refine Keep.drewN ?_ _) | (with_reducible refine Keep.drew ?_) | (with_reducible exact Keep.refl _) | refine Keep.trans ?_ (by with_reducible assumption) | exact Keep.refl _ | assumption))))⟩
  · have e1 : szN left s.size = left - s.size := by unfold szN; rw [if_neg h]
    rw [e1]
    go_enter Tryd.func6, Tryd.ntmps6
    go_wp2
    go_ret; exact ⟨rfl, (by ((repeat (first | (with_reducible assumption) | ((with_reducible refine Keep.setCell ?_ ?_ _); rotate_left; focus (first | omega | (simp; done) | (simp; omega))) | (with_reducible refine Keep.alloc ?_ _) | (with_reducible refine Keep.drewN ?_ _) | (with_reducible refine Keep.drew ?_) | (with_reducible exact Keep.refl _) | refine Keep.trans ?_ (by with_reducible assumption) | exact Keep.refl _ | assumption))))⟩
theorem laws_toCard (s : ByteArray) (a b : Wd) (w : World) :
    Calls Tryd.prog 8 #[.agg #[.string s, .int .u64 (U a), .int .u64 (U b)]] w fun e w' => e = .returned (.agg #[.string s, .int .u64 (U a), .int .u64 (U b)]) ∧ Keep w w' := by
  go_enter Tryd.func8, Tryd.ntmps8
  (go_wp2_with fail); (go_at_call 20); (refine (laws_toMask _ _ _).mono ?_); rintro e w1 ⟨rfl, hk1⟩
  obtain ⟨hk1c, hk1f⟩ := hk1.cells; have hk1z0 : w.heap.size < w1.heap.size := (by have := hk1.size; (try simp at this); omega); have hk1z1 : w.heap.size + 1 < w1.heap.size := (by have := hk1.size; (try simp at this); omega); have hk1z2 : w.heap.size + 1 + 1 < w1.heap.size := (by have := hk1.size; (try simp at this); omega)
  go_wp2
  (apply bodyPost_ret; rotate_left; rfl; exact ⟨rfl, (by ((repeat (first | (with_reducible assumption) | ((with_reducible refine Keep.setCell ?_ ?_ _); rotate_left; focus (first | omega | (simp; done) | (simp; omega))) | (with_reducible refine Keep.alloc ?_ _) | (with_reducible refine Keep.drewN ?_ _) | (with_reducible refine Keep.drew ?_) | (with_reducible exact Keep.refl _) | refine Keep.trans ?_ (by with_reducible assumption) | exact Keep.refl _ | assumption))))⟩; simp [results, Tryd.results8, go_sem, U_zero, *])
end Go.Proofs.YtagldpbmadfokaaDoor

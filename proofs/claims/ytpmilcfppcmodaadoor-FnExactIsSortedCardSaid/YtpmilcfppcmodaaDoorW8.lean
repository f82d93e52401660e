/- The laws of cards and fields: what they do with their arguments. -/
import Derived.Test.YtpmilcfppcmodaaDoorN5
set_option linter.unusedVariables false
set_option linter.unusedSimpArgs false
namespace Go.Proofs.YtpmilcfppcmodaaDoor
open Go.RowKit
set_option maxHeartbeats 2000000
def szN (left : Int) (n : Nat) : Int := if left - n < 0 then -1 else left - n
theorem laws_szCard (s : ByteArray) (a b : Wd) (left : Int) (w : World) (hl : 0 ≤ left ∧ left ≤ 1048576) (hs : s.size ≤ 9223372036854775807) :
    Calls Tryd.prog 86 #[.agg #[.string s, .int .u64 (U a), .int .u64 (U b)], .int .i64 left] w fun e w' => e = .returned (.int .i64 (szN left s.size)) ∧ Keep w w' := by
  obtain ⟨l0, l1⟩ := hl
  by_cases h : left - s.size < 0
  · have e1 : szN left s.size = -1 := by unfold szN; rw [if_pos h]
    rw [e1]
    go_enter Tryd.func86, Tryd.ntmps86
    go_wp2
    go_ret; exact ⟨rfl, (by ((repeat (first | (with_reducible assumption) | ((with_reducible refine Keep.setCell ?_ ?_ _); rotate_left; focus (first | omega | (simp; done) | (simp; omega))) | (with_reducible refine Keep.alloc ?_ _) | (with_reducible refine Keep.drewN ?_ _) | (with_reducible refine Keep.drew ?_) | (with_reducible exact Keep.refl _) | refine Keep.trans ?_ (by with_reducible assumption) | exact Keep.refl _ | assumption))))⟩
  · have e1 : szN left s.size = left - s.size := by unfold szN; rw [if_neg h]
    rw [e1]
    go_enter Tryd.func86, Tryd.ntmps86
    go_wp2
    go_ret; exact ⟨rfl, (by ((repeat (first | (with_reducible assumption) | ((with_reducible refine Keep.setCell ?_ ?_ _); rotate_left; focus (first | omega | (simp; done) | (simp; omega))) | (with_reducible refine Keep.alloc ?_ _) | (with_reducible refine Keep.drewN ?_ _) | (with_reducible refine Keep.drew ?_) | (with_reducible exact Keep.refl _) | refine Keep.trans ?_ (by with_reducible assumption) | exact Keep.refl _ | assumption))))⟩
theorem laws_szField (s : ByteArray) (k st sz : Int) (left : Int) (w : World) (hl : 0 ≤ left ∧ left ≤ 1048576) (hs : s.size ≤ 9223372036854775807) :
    Calls Tryd.prog 59 #[.agg #[.string s, .int .i8 k, .int .i16 st, .int .i16 sz], .int .i64 left] w fun e w' => e = .returned (.int .i64 (szN left s.size)) ∧ Keep w w' := by
  obtain ⟨l0, l1⟩ := hl
  by_cases h : left - s.size < 0
  · have e1 : szN left s.size = -1 := by unfold szN; rw [if_pos h]
    rw [e1]
    go_enter Tryd.func59, Tryd.ntmps59
    go_wp2
    go_ret; exact ⟨rfl, (by ((repeat (first | (with_reducible assumption) | ((with_reducible refine Keep.setCell ?_ ?_ _); rotate_left; focus (first | omega | (simp; done) | (simp; omega))) | (with_reducible refine Keep.alloc ?_ _) | (with_reducible refine Keep.drewN ?_ _) | (with_reducible refine Keep.drew ?_) | (with_reducible exact Keep.refl _) | refine Keep.trans ?_ (by with_reducible assumption) | exact Keep.refl _ | assumption))))⟩
  · have e1 : szN left s.size = left - s.size := by unfold szN; rw [if_neg h]
    rw [e1]
    go_enter Tryd.func59, Tryd.ntmps59
    go_wp2
    go_ret; exact ⟨rfl, (by ((repeat (first | (with_reducible assumption) | ((with_reducible refine Keep.setCell ?_ ?_ _); rotate_left; focus (first | omega | (simp; done) | (simp; omega))) | (with_reducible refine Keep.alloc ?_ _) | (with_reducible refine Keep.drewN ?_ _) | (with_reducible refine Keep.drew ?_) | (with_reducible exact Keep.refl _) | refine Keep.trans ?_ (by with_reducible assumption) | exact Keep.refl _ | assumption))))⟩
theorem laws_toField (s : ByteArray) (k st sz : Int) (w : World) :
    Calls Tryd.prog 61 #[.agg #[.string s, .int .i8 k, .int .i16 st, .int .i16 sz]] w fun e w' => e = .returned (.agg #[.string s, .int .i8 k, .int .i16 st, .int .i16 sz]) ∧ Keep w w' := by
  go_enter Tryd.func61, Tryd.ntmps61
  go_wp2
  (apply bodyPost_ret; rotate_left; rfl; exact ⟨rfl, (by ((repeat (first | (with_reducible assumption) | ((with_reducible refine Keep.setCell ?_ ?_ _); rotate_left; focus (first | omega | (simp; done) | (simp; omega))) | (with_reducible refine Keep.alloc ?_ _) | (with_reducible refine Keep.drewN ?_ _) | (with_reducible refine Keep.drew ?_) | (with_reducible exact Keep.refl _) | refine Keep.trans ?_ (by with_reducible assumption) | exact Keep.refl _ | assumption))))⟩; simp [results, Tryd.results61, go_sem, U_zero, *])
theorem laws_toCard (s : ByteArray) (a b : Wd) (w : World) :
    Calls Tryd.prog 87 #[.agg #[.string s, .int .u64 (U a), .int .u64 (U b)]] w fun e w' => e = .returned (.agg #[.string s, .int .u64 (U a), .int .u64 (U b)]) ∧ Keep w w' := by
  go_enter Tryd.func87, Tryd.ntmps87
  (go_wp2_with fail); (go_at_call 102); (refine (laws_toMask _ _ _).mono ?_); rintro e w1 ⟨rfl, hk1⟩
  obtain ⟨hk1c, hk1f⟩ := hk1.cells; have hk1z0 : w.heap.size < w1.heap.size := (by have := hk1.size; (try simp at this); omega); have hk1z1 : w.heap.size + 1 < w1.heap.size := (by have := hk1.size; (try simp at this); omega); have hk1z2 : w.heap.size + 1 + 1 < w1.heap.size := (by have := hk1.size; (try simp at this); omega)
  go_wp2
  (apply bodyPost_ret; rotate_left; rfl; exact ⟨rfl, (by ((repeat (first | (with_reducible assumption) | ((with_reducible refine Keep.setCell ?_ ?_ _); rotate_left; focus (first | omega | (simp; done) | (simp; omega))) | (with_reducible refine Keep.alloc ?_ _) | (with_reducible refine Keep.drewN ?_ _) | (with_reducible refine Keep.drew ?_) | (with_reducible exact Keep.refl _) | refine Keep.trans ?_ (by with_reducible assumption) | exact Keep.refl _ | assumption))))⟩; simp [results, Tryd.results87, go_sem, U_zero, *])
end Go.Proofs.YtpmilcfppcmodaaDoor

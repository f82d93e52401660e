/- The check of a word: the walks and the law. -/
import Derived.Test.YtihebflgceljfaaDoorX3
set_option linter.unusedVariables false
set_option linter.unusedSimpArgs false
namespace Go.Proofs.YtihebflgceljfaaDoor
open Go.RowKit
set_option maxHeartbeats 2000000
def wcM (s : ByteArray) : Nat := cond (nameB s) (chk s.data.toList) 0
def wcE (s : ByteArray) : Int := cond (nameB s) 0 2
theorem impl_WordCheck (s : ByteArray) (w : World) (hs : s.size ≤ 9223372036854775807) :
    Calls Tryd.prog 13 #[.string s] w fun e w' => e = .returned (.tuple #[.int .u32 (wcM s : Nat), .int .i64 (wcE s)]) ∧ Keep w w' := by
  cases h1 : nameB s <;> simp only [wcM, wcE, h1, cond_true, cond_false]
  · go_enter Tryd.func13, Tryd.ntmps13
    (go_wp2_with fail); (go_at_call 57); (refine (impl_isName _ _ hs).mono ?_); rintro e w1 ⟨rfl, hk1⟩
    rw [h1]
    go_wp2
    go_ret2; exact ⟨rfl, (by ((repeat (first | (with_reducible assumption) | ((with_reducible refine Keep.setCell ?_ ?_ _); rotate_left; focus (first | omega | (simp; done) | (simp; omega))) | (with_reducible refine Keep.alloc ?_ _) | (with_reducible refine Keep.drewN ?_ _) | (with_reducible refine Keep.drew ?_) | (with_reducible exact Keep.refl _) | refine Keep.trans ?_ (by with_reducible assumption) | exact Keep.refl _ | assumption))))⟩
  · go_enter Tryd.func13, Tryd.ntmps13
    (go_wp2_with fail); (go_at_call 57); (refine (impl_isName _ _ hs).mono ?_); rintro e w1 ⟨rfl, hk1⟩
    rw [h1]
    go_wp2_with fail
    (go_wp2_with fail); (go_at_call 58); (refine (impl_wordCheck _ _ hs).mono ?_); rintro e w2 ⟨rfl, hk2⟩
    go_wp2
    go_ret2; exact ⟨rfl, (by ((repeat (first | (with_reducible assumption) | ((with_reducible refine Keep.setCell ?_ ?_ _); rotate_left; focus (first | omega | (simp; done) | (simp; omega))) | (with_reducible refine Keep.alloc ?_ _) | (with_reducible refine Keep.drewN ?_ _) | (with_reducible refine Keep.drew ?_) | (with_reducible exact Keep.refl _) | refine Keep.trans ?_ (by with_reducible assumption) | exact Keep.refl _ | assumption))))⟩
theorem spec_WordCheck (s : ByteArray) (w : World) (hs : s.size ≤ 9223372036854775807) :
    Calls Tryd.prog 12 #[.string s] w fun e w' => e = .returned (.tuple #[.int .u32 (wcM s : Nat), .int .i64 (wcE s)]) ∧ Keep w w' := by
  cases h1 : nameB s <;> simp only [wcM, wcE, h1, cond_true, cond_false]
  · go_enter Tryd.func12, Tryd.ntmps12
    (go_wp2_with fail); (go_at_call 55); (refine (spec_l03Word _ _ hs).mono ?_); rintro e w1 ⟨rfl, hk1⟩
    rw [h1]
    go_wp2
    go_ret2; exact ⟨rfl, (by ((repeat (first | (with_reducible assumption) | ((with_reducible refine Keep.setCell ?_ ?_ _); rotate_left; focus (first | omega | (simp; done) | (simp; omega))) | (with_reducible refine Keep.alloc ?_ _) | (with_reducible refine Keep.drewN ?_ _) | (with_reducible refine Keep.drew ?_) | (with_reducible exact Keep.refl _) | refine Keep.trans ?_ (by with_reducible assumption) | exact Keep.refl _ | assumption))))⟩
  · go_enter Tryd.func12, Tryd.ntmps12
    (go_wp2_with fail); (go_at_call 55); (refine (spec_l03Word _ _ hs).mono ?_); rintro e w1 ⟨rfl, hk1⟩
    rw [h1]
    go_wp2_with fail
    (go_wp2_with fail); (go_at_call 56); (refine (spec_l03Check _ _ hs).mono ?_); rintro e w2 ⟨rfl, hk2⟩
    go_wp2
    go_ret2; exact ⟨rfl, (by ((repeat (first | (with_reducible assumption) | ((with_reducible refine Keep.setCell ?_ ?_ _); rotate_left; focus (first | omega | (simp; done) | (simp; omega))) | (with_reducible refine Keep.alloc ?_ _) | (with_reducible refine Keep.drewN ?_ _) | (with_reducible refine Keep.drew ?_) | (with_reducible exact Keep.refl _) | refine Keep.trans ?_ (by with_reducible assumption) | exact Keep.refl _ | assumption))))⟩
theorem laws_FnExactWordCheck (s : ByteArray) (w : World) (hs : s.size ≤ 9223372036854775807) :
    Calls Tryd.prog 3 #[.string s] w fun e w' => e = .returned (.bool true) ∧ Keep w w' := by
  by_cases hn : s.size ≤ 1048576
  · have hI := impl_WordCheck s
    have hJ := spec_WordCheck s
    generalize wcM s = x at *
    generalize wcE s = y at *
    go_enter Tryd.func3, Tryd.ntmps3
    (go_wp2_with fail); (go_at_call 12); (refine (hJ _ hs).mono ?_); rintro e w1 ⟨rfl, hk1⟩
    go_wp2_with fail
    (go_wp2_with fail); (go_at_call 13); (refine (hI _ hs).mono ?_); rintro e w2 ⟨rfl, hk2⟩
    go_wp2
    go_ret; exact ⟨rfl, (by ((repeat (first | (with_reducible assumption) | ((with_reducible refine Keep.setCell ?_ ?_ _); rotate_left; focus (first | omega | (simp; done) | (simp; omega))) | (with_reducible refine Keep.alloc ?_ _) | (with_reducible refine Keep.drewN ?_ _) | (with_reducible refine Keep.drew ?_) | (with_reducible exact Keep.refl _) | refine Keep.trans ?_ (by with_reducible assumption) | exact Keep.refl _ | assumption))))⟩
  · go_enter Tryd.func3, Tryd.ntmps3
    go_wp2
    go_ret; exact ⟨rfl, (by ((repeat (first | (with_reducible assumption) | ((with_reducible refine Keep.setCell ?_ ?_ _); rotate_left; focus (first | omega | (simp; done) | (simp; omega))) | (with_reducible refine Keep.alloc ?_ _) | (with_reducible refine Keep.drewN ?_ _) | (with_reducible refine Keep.drew ?_) | (with_reducible exact Keep.refl _) | refine Keep.trans ?_ (by with_reducible assumption) | exact Keep.refl _ | assumption))))⟩
end Go.Proofs.YtihebflgceljfaaDoor

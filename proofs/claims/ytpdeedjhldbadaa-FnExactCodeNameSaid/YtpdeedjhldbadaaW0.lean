/- Constants, and the names of codes. -/
import Derived.Test.YtpdeedjhldbadaaM1
import Derived.Test.YtpdeedjhldbadaaMono
set_option linter.unusedVariables false
set_option linter.unusedSimpArgs false
namespace Go.Proofs.Ytpdeedjhldbadaa
open Go.RowKit
set_option maxHeartbeats 1000000
theorem laws_FnExactConstants (w : World) :
    Calls Try.prog 3 #[] w fun e w' => e = .returned (.bool true) ∧ Keep w w' := by
  go_enter Try.func3, Try.ntmps3
  go_wp2
  go_ret; exact ⟨rfl, (by ((repeat (first | (with_reducible assumption) | ((with_reducible refine Keep.setCell ?_ ?_ _); rotate_left; focus (first | omega | (simp; done) | (simp; omega))) | (with_reducible refine Keep.alloc ?_ _) | (with_reducible refine Keep.drewN ?_ _) | (with_reducible refine Keep.drew ?_) | (with_reducible exact Keep.refl _) | refine Keep.trans ?_ (by with_reducible assumption) | exact Keep.refl _ | assumption))))⟩
def codeName (c : Int) : ByteArray := if c = 0 then ⟨#[111, 107]⟩ else if c = 1 then ⟨#[105, 110, 118, 97, 108, 105, 100]⟩ else if c = 2 then ⟨#[114, 97, 110, 103, 101]⟩ else if c = 3 then ⟨#[108, 105, 109, 105, 116]⟩ else if c = 4 then ⟨#[115, 116, 97, 116, 101]⟩ else if c = 5 then ⟨#[115, 121, 110, 116, 97, 120]⟩ else if c = 6 then ⟨#[110, 111, 116, 102, 111, 117, 110, 100]⟩ else if c = 7 then ⟨#[98, 117, 100, 103, 101, 116]⟩ else if c = 8 then ⟨#[112, 114, 111, 111, 102]⟩ else ⟨#[]⟩
theorem spec_CodeName (c : Int) (w : World) :
    Calls Try.prog 12 #[.int .i64 c] w fun e w' => e = .returned (.string (codeName c)) ∧ Keep w w' := by
  cases h : inB c 0 8
  · have e : codeName c = ⟨#[]⟩ := by
      unfold inB at h; simp at h
      unfold codeName
      repeat rw [if_neg (by omega)]
    rw [e]
    go_enter Try.func12, Try.ntmps12
    (go_wp2_with fail); (go_at_call 24); (refine (spec_l00In _ _ _ _).mono ?_); rintro e w1 ⟨rfl, hk1⟩
    rw [h]
    go_wp2
    go_ret; exact ⟨rfl, (by ((repeat (first | (with_reducible assumption) | ((with_reducible refine Keep.setCell ?_ ?_ _); rotate_left; focus (first | omega | (simp; done) | (simp; omega))) | (with_reducible refine Keep.alloc ?_ _) | (with_reducible refine Keep.drewN ?_ _) | (with_reducible refine Keep.drew ?_) | (with_reducible exact Keep.refl _) | refine Keep.trans ?_ (by with_reducible assumption) | exact Keep.refl _ | assumption))))⟩
  · have h2 : 0 ≤ c ∧ c ≤ 8 := by unfold inB at h; simpa using h
    obtain rfl | rfl | rfl | rfl | rfl | rfl | rfl | rfl | rfl : c = 0 ∨ c = 1 ∨ c = 2 ∨ c = 3 ∨ c = 4 ∨ c = 5 ∨ c = 6 ∨ c = 7 ∨ c = 8 := by omega
    all_goals
      go_enter Try.func12, Try.ntmps12
      (go_wp2_with fail); (go_at_call 24); (refine (spec_l00In _ _ _ _).mono ?_); rintro e w1 ⟨rfl, hk1⟩
      rw [h]
      obtain ⟨hk1c, hk1f⟩ := hk1.cells; have hk1z0 : w.heap.size < w1.heap.size := (by have := hk1.size; (try simp at this); omega)
      go_wp2
      go_ret; exact ⟨rfl, (by ((repeat (first | (with_reducible assumption) | ((with_reducible refine Keep.setCell ?_ ?_ _); rotate_left; focus (first | omega | (simp; done) | (simp; omega))) | (with_reducible refine Keep.alloc ?_ _) | (with_reducible refine Keep.drewN ?_ _) | (with_reducible refine Keep.drew ?_) | (with_reducible exact Keep.refl _) | refine Keep.trans ?_ (by with_reducible assumption) | exact Keep.refl _ | assumption))))⟩
theorem impl_CodeName (c : Int) (w : World) :
    Calls Try.prog 13 #[.int .i64 c] w fun e w' => e = .returned (.string (codeName c)) ∧ Keep w w' := by
  by_cases h2 : 0 ≤ c ∧ c ≤ 8
  · obtain rfl | rfl | rfl | rfl | rfl | rfl | rfl | rfl | rfl : c = 0 ∨ c = 1 ∨ c = 2 ∨ c = 3 ∨ c = 4 ∨ c = 5 ∨ c = 6 ∨ c = 7 ∨ c = 8 := by omega
    all_goals
      go_enter Try.func13, Try.ntmps13
      go_wp2
      go_ret; exact ⟨rfl, (by ((repeat (first | (with_reducible assumption) | ((with_reducible refine Keep.setCell ?_ ?_ _); rotate_left; focus (first | omega | (simp; done) | (simp; omega))) | (with_reducible refine Keep.alloc ?_ _) | (with_reducible refine Keep.drewN ?_ _) | (with_reducible refine Keep.drew ?_) | (with_reducible exact Keep.refl _) | refine Keep.trans ?_ (by with_reducible assumption) | exact Keep.refl _ | assumption))))⟩
  · have e : codeName c = ⟨#[]⟩ := by
      unfold codeName
      repeat rw [if_neg (by omega)]
    rw [e]
    by_cases h3 : c < 0
    · go_enter Try.func13, Try.ntmps13
      go_wp2
      go_ret; exact ⟨rfl, (by ((repeat (first | (with_reducible assumption) | ((with_reducible refine Keep.setCell ?_ ?_ _); rotate_left; focus (first | omega | (simp; done) | (simp; omega))) | (with_reducible refine Keep.alloc ?_ _) | (with_reducible refine Keep.drewN ?_ _) | (with_reducible refine Keep.drew ?_) | (with_reducible exact Keep.refl _) | refine Keep.trans ?_ (by with_reducible assumption) | exact Keep.refl _ | assumption))))⟩
    · have h4 : 9 ≤ c := by omega
      go_enter Try.func13, Try.ntmps13
      go_wp2
      go_ret; exact ⟨rfl, (by ((repeat (first | (with_reducible assumption) | ((with_reducible refine Keep.setCell ?_ ?_ _); rotate_left; focus (first | omega | (simp; done) | (simp; omega))) | (with_reducible refine Keep.alloc ?_ _) | (with_reducible refine Keep.drewN ?_ _) | (with_reducible refine Keep.drew ?_) | (with_reducible exact Keep.refl _) | refine Keep.trans ?_ (by with_reducible assumption) | exact Keep.refl _ | assumption))))⟩
theorem laws_FnExactCodeName (c : Int) (w : World) (hw : (Lit.int .i64 c).wf = true) :
    Calls Try.prog 5 #[.int .i64 c] w fun e w' => e = .returned (.bool true) ∧ Keep w w' := by
  go_enter Try.func5, Try.ntmps5
  (go_wp2_with fail); (go_at_call 12); (refine (spec_CodeName _ _).mono ?_); rintro e w1 ⟨rfl, hk1⟩
  (go_wp2_with fail); (go_at_call 13); (refine (impl_CodeName _ _).mono ?_); rintro e w2 ⟨rfl, hk2⟩
  go_wp2
  go_ret; exact ⟨rfl, (by ((repeat (first | (with_reducible assumption) | ((with_reducible refine Keep.setCell ?_ ?_ _); rotate_left; focus (first | omega | (simp; done) | (simp; omega))) | (with_reducible refine Keep.alloc ?_ _) | (with_reducible refine Keep.drewN ?_ _) | (with_reducible refine Keep.drew ?_) | (with_reducible exact Keep.refl _) | refine Keep.trans ?_ (by with_reducible assumption) | exact Keep.refl _ | assumption))))⟩
end Go.Proofs.Ytpdeedjhldbadaa

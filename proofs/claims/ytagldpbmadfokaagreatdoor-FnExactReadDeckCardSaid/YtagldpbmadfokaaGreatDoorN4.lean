/- Cards and fields: validity, sizes, greatest values. -/
import Derived.Test.YtagldpbmadfokaaGreatDoorN3
import Derived.Test.YtagldpbmadfokaaGreatDoorM6
import Derived.Test.YtagldpbmadfokaaGreatDoorS2
import Derived.Test.YtagldpbmadfokaaGreatDoorAu
set_option linter.unusedVariables false
set_option linter.unusedSimpArgs false
namespace Go.Proofs.YtagldpbmadfokaaGreatDoor
open Go.RowKit
set_option maxHeartbeats 2000000
def cardB (s : ByteArray) (b : Wd) : Bool := nameB s && okB b
theorem impl_isCard (s : ByteArray) (a b : Wd) (w : World) (hs : s.size ≤ 9223372036854775807) :
    Calls Tryz.prog 28 #[.agg #[.string s, .int .u64 (U a), .int .u64 (U b)]] w fun e w' => e = .returned (.bool (cardB s b)) ∧ Keep w w' := by
  cases h1 : nameB s
  · go_enter Tryz.func28, Tryz.ntmps28
    (go_wp2_with fail); (go_at_call 42); (refine (impl_isName _ _ hs).mono ?_); rintro e w1 ⟨rfl, hk1⟩
    rw [h1]
    obtain ⟨hk1c, hk1f⟩ := hk1.cells; have hk1z0 : w.heap.size < w1.heap.size := (by have := hk1.size; (try simp at this); omega)
    go_wp2
    go_ret; exact ⟨rb (by simp [cardB, h1]), (by ((repeat (first | (with_reducible assumption) | ((with_reducible refine Keep.setCell ?_ ?_ _); rotate_left; focus (first | omega | (simp; done) | (simp; omega))) | (with_reducible refine Keep.alloc ?_ _) | (with_reducible refine Keep.drewN ?_ _) | (with_reducible refine Keep.drew ?_) | (with_reducible exact Keep.refl _) | refine Keep.trans ?_ (by with_reducible assumption) | exact Keep.refl _ | assumption))))⟩
  · go_enter Tryz.func28, Tryz.ntmps28
    (go_wp2_with fail); (go_at_call 42); (refine (impl_isName _ _ hs).mono ?_); rintro e w1 ⟨rfl, hk1⟩
    rw [h1]
    obtain ⟨hk1c, hk1f⟩ := hk1.cells; have hk1z0 : w.heap.size < w1.heap.size := (by have := hk1.size; (try simp at this); omega)
    (go_wp2_with fail); (go_at_call 43); (refine (impl_isMask _ _ _).mono ?_); rintro e w2 ⟨rfl, hk2⟩
    go_wp2
    go_ret; exact ⟨rb (by simp [cardB, h1]), (by ((repeat (first | (with_reducible assumption) | ((with_reducible refine Keep.setCell ?_ ?_ _); rotate_left; focus (first | omega | (simp; done) | (simp; omega))) | (with_reducible refine Keep.alloc ?_ _) | (with_reducible refine Keep.drewN ?_ _) | (with_reducible refine Keep.drew ?_) | (with_reducible exact Keep.refl _) | refine Keep.trans ?_ (by with_reducible assumption) | exact Keep.refl _ | assumption))))⟩
theorem spec_l01Ok (s : ByteArray) (a b : Wd) (g o : Nat) (w : World) (hs : s.size ≤ 9223372036854775807)
    (c0 : w.cell? ⟨g, o, none⟩ = some (.string s)) (c1 : w.cell? ⟨g, o + 1, none⟩ = some (.int .u64 (U a))) (c2 : w.cell? ⟨g, o + 2, none⟩ = some (.int .u64 (U b))) :
    Calls Tryz.prog 21 #[.pointer (some ⟨g, o, none⟩)] w fun e w' => e = .returned (.bool (cardB s b)) ∧ Keep w w' := by
  cases h1 : nameB s
  · go_enter Tryz.func21, Tryz.ntmps21
    (go_wp2_with fail); (go_at_call 34); (refine (spec_l01Name _ _ hs).mono ?_); rintro e w1 ⟨rfl, hk1⟩
    rw [h1]
    go_wp2
    go_ret; exact ⟨rb (by simp [cardB, h1]), (by ((repeat (first | (with_reducible assumption) | ((with_reducible refine Keep.setCell ?_ ?_ _); rotate_left; focus (first | omega | (simp; done) | (simp; omega))) | (with_reducible refine Keep.alloc ?_ _) | (with_reducible refine Keep.drewN ?_ _) | (with_reducible refine Keep.drew ?_) | (with_reducible exact Keep.refl _) | refine Keep.trans ?_ (by with_reducible assumption) | exact Keep.refl _ | assumption))))⟩
  · go_enter Tryz.func21, Tryz.ntmps21
    (go_wp2_with fail); (go_at_call 34); (refine (spec_l01Name _ _ hs).mono ?_); rintro e w1 ⟨rfl, hk1⟩
    rw [h1]
    have d0 := hk1.cell c0
    have d1 := hk1.cell c1
    have d2 := hk1.cell c2
    (go_wp2_with fail); (go_at_call 35); (refine (spec_l01Mask _ _ _).mono ?_); rintro e w2 ⟨rfl, hk2⟩
    go_wp2
    go_ret; exact ⟨rb (by simp [cardB, h1]), (by ((repeat (first | (with_reducible assumption) | ((with_reducible refine Keep.setCell ?_ ?_ _); rotate_left; focus (first | omega | (simp; done) | (simp; omega))) | (with_reducible refine Keep.alloc ?_ _) | (with_reducible refine Keep.drewN ?_ _) | (with_reducible refine Keep.drew ?_) | (with_reducible exact Keep.refl _) | refine Keep.trans ?_ (by with_reducible assumption) | exact Keep.refl _ | assumption))))⟩
/-- What is known of a valid field. -/
theorem fieldB_iff {s : ByteArray} {k st sz : Int} : fieldB s k st sz = true ↔ nameB s = true ∧ 1 ≤ sz ∧ sz ≤ mostW k ∧ 0 ≤ st ∧ st + widthN k sz ≤ 96 := by
  unfold fieldB; simp [inB]; omega
theorem fieldB_use {s : ByteArray} {k st sz : Int} (h : fieldB s k st sz = true) : 1 ≤ sz ∧ 0 ≤ st ∧ st + widthN k sz ≤ 96 ∧ 1 ≤ widthN k sz ∧ ((k = 0 ∧ sz ≤ 24) ∨ (k = 1 ∧ sz ≤ 4) ∨ (k = 2 ∧ sz ≤ 4) ∨ (k = 3 ∧ sz ≤ 12)) := by
  obtain ⟨_, h1, h2, h3, h4⟩ := fieldB_iff.1 h
  unfold mostW at h2
  unfold widthN at *
  by_cases k0 : k = 0
  · subst k0; simp at *; omega
  by_cases k1 : k = 1
  · subst k1; simp at *; omega
  by_cases k2 : k = 2
  · subst k2; simp at *; omega
  by_cases k3 : k = 3
  · subst k3; simp at *; omega
  · simp [k0, k1, k2, k3] at *; omega
def fE (s : ByteArray) (k st sz : Int) : Int := cond (fieldB s k st sz) 0 1
def widthM (s : ByteArray) (k st sz : Int) : Int := cond (fieldB s k st sz) (widthN k sz) 0
/-! ### The part of a field -/
def paLo (k st sz : Int) : Wd := rlo st (widthN k sz).toNat
def paHi (k st sz : Int) : Wd := rhi st (widthN k sz).toNat
def partLo (s : ByteArray) (k st sz : Int) : Wd := cond (fieldB s k st sz) (paLo k st sz) 0#64
def partHi (s : ByteArray) (k st sz : Int) : Wd := cond (fieldB s k st sz) (paHi k st sz) 0#64
end Go.Proofs.YtagldpbmadfokaaGreatDoor

/- The laws of cards and fields: what they do with their arguments. -/
import Derived.Test.YtbgegnbcjklmjaaDoorN5
set_option linter.unusedVariables false
set_option linter.unusedSimpArgs false
namespace Go.Proofs.YtbgegnbcjklmjaaDoor
open Go.RowKit
set_option maxHeartbeats 2000000
def szN (left : Int) (n : Nat) : Int := if left - n < 0 then -1 else left - n
theorem laws_szCard (s : ByteArray) (a b : Wd) (left : Int) (w : World) (hl : 0 ≤ left ∧ left ≤ 1048576) (hs : s.size ≤ 9223372036854775807) :
    Calls Tryd.prog 15 #[.agg #[.string s, .int .u64 (U a), .int .u64 (U b)], .int .i64 left] w fun e w' => e = .returned (.int .i64 (szN left s.size)) ∧ Keep w w' := by
  obtain ⟨l0, l1⟩ := hl
  by_cases h : left - s.size < 0
  · have e1 : szN left s.size = -1 := by unfold szN; rw [if_pos h]
    rw [e1]
    go_enter Tryd.func15, Tryd.ntmps15
    go_wp2
    go_ret; exact ⟨rfl, (by ((repeat (first | (with_reducible assumption) | ((with_reducible refine Keep.setCell ?_ ?_ _); rotate_left; focus (first | omega | (simp; done) | (simp; omega))) | (with_reducible refine Keep.alloc ?_ _) | (with_reducible refine Keep.drewN ?_ _) | (with_reducible refine Keep.drew ?_) | (with_reducible exact Keep.refl _) | refine Keep.trans ?_ (by with_reducible assumption) | exact Keep.refl _ | assumption))))⟩
  · have e1 : szN left s.size = left - s.size := by unfold szN; rw [if_neg h]
    rw [e1]
    go_enter Tryd.func15, Tryd.ntmps15
    go_wp2
    go_ret; exact ⟨rfl, (by ((repeat (first | (with_reducible assumption) | ((with_reducible refine Keep.setCell ?_ ?_ _); rotate_left; focus (first | omega | (simp; done) | (simp; omega))) | (with_reducible refine Keep.alloc ?_ _) | (with_reducible refine Keep.drewN ?_ _) | (with_reducible refine Keep.drew ?_) | (with_reducible exact Keep.refl _) | refine Keep.trans ?_ (by with_reducible assumption) | exact Keep.refl _ | assumption))))⟩
theorem laws_szField (s : ByteArray) (k st sz : Int) (left : Int) (w : World) (hl : 0 ≤ left ∧ left ≤ 1048576) (hs : s.size ≤ 9223372036854775807) :
    Calls Tryd.prog 19 #[.agg #[.string s, .int .i8 k, .int .i16 st, .int .i16 sz], .int .i64 left] w fun e w' => e = .returned (.int .i64 (szN left s.size)) ∧ Keep w w' := by
  obtain ⟨l0, l1⟩ := hl
  by_cases h : left - s.size < 0
  · have e1 : szN left s.size = -1 := by unfold szN; rw [if_pos h]
    rw [e1]
    go_enter Tryd.func19, Tryd.ntmps19
    go_wp2
    go_ret; exact ⟨rfl, (by ((repeat (first | (with_reducible assumption) | ((with_reducible refine Keep.setCell ?_ ?_ _); rotate_left; focus (first | omega | (simp; done) | (simp; omega))) | (with_reducible refine Keep.alloc ?_ _) | (with_reducible refine Keep.drewN ?_ _) | (with_reducible refine Keep.drew ?_) | (with_reducible exact Keep.refl _) | refine Keep.trans ?_ (by with_reducible assumption) | exact Keep.refl _ | assumption))))⟩
  · have e1 : szN left s.size = left - s.size := by unfold szN; rw [if_neg h]
    rw [e1]
    go_enter Tryd.func19, Tryd.ntmps19
    go_wp2
    go_ret; exact ⟨rfl, (by ((repeat (first | (with_reducible assumption) | ((with_reducible refine Keep.setCell ?_ ?_ _); rotate_left; focus (first | omega | (simp; done) | (simp; omega))) | (with_reducible refine Keep.alloc ?_ _) | (with_reducible refine Keep.drewN ?_ _) | (with_reducible refine Keep.drew ?_) | (with_reducible exact Keep.refl _) | refine Keep.trans ?_ (by with_reducible assumption) | exact Keep.refl _ | assumption))))⟩
theorem laws_toField (s : ByteArray) (k st sz : Int) (w : World) :
    Calls Tryd.prog 21 #[.agg #[.string s, .int .i8 k, .int .i16 st, .int .i16 sz]] w fun e w' => e = .returned (.agg #[.string s, .int .i8 k, .int .i16 st, .int .i16 sz]) ∧ Keep w w' := by
  go_enter Tryd.func21, Tryd.ntmps21
  go_wp2
  (apply bodyPost_ret; rotate_left; rfl; exact ⟨rfl, (by ((repeat (first | (with_reducible assumption) | ((with_reducible refine Keep.setCell ?_ ?_ _); rotate_left; focus (first | omega | (simp; done) | (simp; omega))) | (with_reducible refine Keep.alloc ?_ _) | (with_reducible refine Keep.drewN ?_ _) | (with_reducible refine Keep.drew ?_) | (with_reducible exact Keep.refl _) | refine Keep.trans ?_ (by with_reducible assumption) | exact Keep.refl _ | assumption))))⟩; simp [results, Tryd.results21, go_sem, U_zero, *])
theorem laws_toCard (s : ByteArray) (a b : Wd) (w : World) :
    Calls Tryd.prog 17 #[.agg #[.string s, .int .u64 (U a), .int .u64 (U b)]] w fun e w' => e = .returned (.agg #[.string s, .int .u64 (U a), .int .u64 (U b)]) ∧ Keep w w' := by
  go_enter Tryd.func17, Tryd.ntmps17
  (go_wp2_with fail); (go_at_call 39); (refine (laws_toMask _ _ _).mono ?_); rintro e w1 ⟨rfl, hk1⟩
  obtain ⟨hk1c, hk1f⟩ := hk1.cells; have hk1z0 : w.heap.size < w1.heap.size := (by have := hk1.size; (try simp at this); omega); have hk1z1 : w.heap.size + 1 < w1.heap.size := (by have := hk1.size; (try simp at this); omega); have hk1z2 : w.heap.size + 1 + 1 < w1.heap.size := (by have := hk1.size; (try simp at this); omega)
  go_wp2
  (apply bodyPost_ret; rotate_left; rfl; exact ⟨rfl, (by ((repeat (first | (with_reducible assumption) | ((with_reducible refine Keep.setCell ?_ ?_ _); rotate_left; focus (first | omega | (simp; done) | (simp; omega))) | (with_reducible refine Keep.alloc ?_ _) | (with_reducible refine Keep.drewN ?_ _) | (with_reducible refine Keep.drew ?_) | (with_reducible exact Keep.refl _) | refine Keep.trans ?_ (by with_reducible assumption) | exact Keep.refl _ | assumption))))⟩; simp [results, Tryd.results17, go_sem, U_zero, *])
theorem laws_FnExactValidCard (s : ByteArray) (a b : Wd) (w : World) (hw : s.size ≤ 9223372036854775807) :
    Calls Tryd.prog 3 #[.agg #[.string s, .int .u64 (U a), .int .u64 (U b)]] w fun e w' => e = .returned (.bool true) ∧ Keep w w' := by
  have hB := (Bx.new w #[.string s, .int .u64 (U a), .int .u64 (U b)] 25)
  by_cases hn : s.size ≤ 1048576
  · have e1 : szN 1048576 s.size = 1048576 - s.size := by unfold szN; rw [if_neg (by omega)]
    go_enter Tryd.func3, Tryd.ntmps3
    (go_wp2_with fail); (go_at_call 15); (refine (laws_szCard _ _ _ 1048576 _ (by decide) hw).mono ?_); rintro e w1 ⟨rfl, hk1⟩
    rw [e1]
    obtain ⟨hk1c, hk1f⟩ := hk1.cells; have hk1z0 : w.heap.size < w1.heap.size := (by have := hk1.size; (try simp at this); omega)
    (go_wp2_with fail); (go_at_call 17); (refine (laws_toCard _ _ _ _).mono ?_); rintro e w2 ⟨rfl, hk2⟩
    obtain ⟨hk2c, hk2f⟩ := hk2.cells; have hk2z0 : w.heap.size < w2.heap.size := (by have := hk2.size; (try simp at this); omega)
    (go_wp2_with fail); (go_at_call 16); (refine (spec_ValidCard _ _ _ _ hw).mono ?_); rintro e w3 ⟨rfl, hk3⟩
    obtain ⟨hk3c, hk3f⟩ := hk3.cells; have hk3z0 : w.heap.size < w3.heap.size := (by have := hk3.size; (try simp at this); omega)
    (go_wp2_with fail); (go_at_call 17); (refine (laws_toCard _ _ _ _).mono ?_); rintro e w4 ⟨rfl, hk4⟩
    obtain ⟨hk4c, hk4f⟩ := hk4.cells; have hk4z0 : w.heap.size < w4.heap.size := (by have := hk4.size; (try simp at this); omega)
    (go_wp2_with fail); (go_at_call 18); (refine (impl_ValidCard _ _ _ _ hw).mono ?_); rintro e w5 ⟨rfl, hk5⟩
    go_wp2
    go_ret; exact ⟨rfl, (by ((repeat (first | (with_reducible assumption) | ((with_reducible refine Keep.setCell ?_ ?_ _); rotate_left; focus (first | omega | (simp; done) | (simp; omega))) | (with_reducible refine Keep.alloc ?_ _) | (with_reducible refine Keep.drewN ?_ _) | (with_reducible refine Keep.drew ?_) | (with_reducible exact Keep.refl _) | refine Keep.trans ?_ (by with_reducible assumption) | exact Keep.refl _ | assumption))))⟩
  · have e1 : szN 1048576 s.size = -1 := by unfold szN; rw [if_pos (by omega)]
    go_enter Tryd.func3, Tryd.ntmps3
    (go_wp2_with fail); (go_at_call 15); (refine (laws_szCard _ _ _ 1048576 _ (by decide) hw).mono ?_); rintro e w1 ⟨rfl, hk1⟩
    rw [e1]
    go_wp2
    go_ret; exact ⟨rfl, (by ((repeat (first | (with_reducible assumption) | ((with_reducible refine Keep.setCell ?_ ?_ _); rotate_left; focus (first | omega | (simp; done) | (simp; omega))) | (with_reducible refine Keep.alloc ?_ _) | (with_reducible refine Keep.drewN ?_ _) | (with_reducible refine Keep.drew ?_) | (with_reducible exact Keep.refl _) | refine Keep.trans ?_ (by with_reducible assumption) | exact Keep.refl _ | assumption))))⟩
theorem laws_FnExactValidField (s : ByteArray) (k st sz : Int) (w : World) (hw : s.size ≤ 9223372036854775807 ∧ I8 k ∧ I16 st ∧ I16 sz) :
    Calls Tryd.prog 4 #[.agg #[.string s, .int .i8 k, .int .i16 st, .int .i16 sz]] w fun e w' => e = .returned (.bool true) ∧ Keep w w' := by
  by_cases hn : s.size ≤ 1048576
  · have e1 : szN 1048576 s.size = 1048576 - s.size := by unfold szN; rw [if_neg (by omega)]
    go_enter Tryd.func4, Tryd.ntmps4
    (go_wp2_with fail); (go_at_call 19); (refine (laws_szField _ _ _ _ 1048576 _ (by decide) hw.1).mono ?_); rintro e w1 ⟨rfl, hk1⟩
    rw [e1]
    obtain ⟨hk1c, hk1f⟩ := hk1.cells; have hk1z0 : w.heap.size < w1.heap.size := (by have := hk1.size; (try simp at this); omega)
    (go_wp2_with fail); (go_at_call 21); (refine (laws_toField _ _ _ _ _).mono ?_); rintro e w2 ⟨rfl, hk2⟩
    obtain ⟨hk2c, hk2f⟩ := hk2.cells; have hk2z0 : w.heap.size < w2.heap.size := (by have := hk2.size; (try simp at this); omega)
    (go_wp2_with fail); (go_at_call 20); (refine (spec_ValidField _ _ _ _ _ hw).mono ?_); rintro e w3 ⟨rfl, hk3⟩
    obtain ⟨hk3c, hk3f⟩ := hk3.cells; have hk3z0 : w.heap.size < w3.heap.size := (by have := hk3.size; (try simp at this); omega)
    (go_wp2_with fail); (go_at_call 21); (refine (laws_toField _ _ _ _ _).mono ?_); rintro e w4 ⟨rfl, hk4⟩
    obtain ⟨hk4c, hk4f⟩ := hk4.cells; have hk4z0 : w.heap.size < w4.heap.size := (by have := hk4.size; (try simp at this); omega)
    (go_wp2_with fail); (go_at_call 22); (refine (impl_ValidField _ _ _ _ _ hw).mono ?_); rintro e w5 ⟨rfl, hk5⟩
    go_wp2
    go_ret; exact ⟨rfl, (by ((repeat (first | (with_reducible assumption) | ((with_reducible refine Keep.setCell ?_ ?_ _); rotate_left; focus (first | omega | (simp; done) | (simp; omega))) | (with_reducible refine Keep.alloc ?_ _) | (with_reducible refine Keep.drewN ?_ _) | (with_reducible refine Keep.drew ?_) | (with_reducible exact Keep.refl _) | refine Keep.trans ?_ (by with_reducible assumption) | exact Keep.refl _ | assumption))))⟩
  · have e1 : szN 1048576 s.size = -1 := by unfold szN; rw [if_pos (by omega)]
    go_enter Tryd.func4, Tryd.ntmps4
    (go_wp2_with fail); (go_at_call 19); (refine (laws_szField _ _ _ _ 1048576 _ (by decide) hw.1).mono ?_); rintro e w1 ⟨rfl, hk1⟩
    rw [e1]
    go_wp2
    go_ret; exact ⟨rfl, (by ((repeat (first | (with_reducible assumption) | ((with_reducible refine Keep.setCell ?_ ?_ _); rotate_left; focus (first | omega | (simp; done) | (simp; omega))) | (with_reducible refine Keep.alloc ?_ _) | (with_reducible refine Keep.drewN ?_ _) | (with_reducible refine Keep.drew ?_) | (with_reducible exact Keep.refl _) | refine Keep.trans ?_ (by with_reducible assumption) | exact Keep.refl _ | assumption))))⟩
theorem laws_FnExactHolesOf (s : ByteArray) (k st sz : Int) (w : World) (hw : s.size ≤ 9223372036854775807 ∧ I8 k ∧ I16 st ∧ I16 sz) :
    Calls Tryd.prog 5 #[.agg #[.string s, .int .i8 k, .int .i16 st, .int .i16 sz]] w fun e w' => e = .returned (.bool true) ∧ Keep w w' := by
  by_cases hn : s.size ≤ 1048576
  · have e1 : szN 1048576 s.size = 1048576 - s.size := by unfold szN; rw [if_neg (by omega)]
    go_enter Tryd.func5, Tryd.ntmps5
    (go_wp2_with fail); (go_at_call 19); (refine (laws_szField _ _ _ _ 1048576 _ (by decide) hw.1).mono ?_); rintro e w1 ⟨rfl, hk1⟩
    rw [e1]
    obtain ⟨hk1c, hk1f⟩ := hk1.cells; have hk1z0 : w.heap.size < w1.heap.size := (by have := hk1.size; (try simp at this); omega)
    (go_wp2_with fail); (go_at_call 21); (refine (laws_toField _ _ _ _ _).mono ?_); rintro e w2 ⟨rfl, hk2⟩
    obtain ⟨hk2c, hk2f⟩ := hk2.cells; have hk2z0 : w.heap.size < w2.heap.size := (by have := hk2.size; (try simp at this); omega)
    (go_wp2_with fail); (go_at_call 23); (refine (spec_HolesOf _ _ _ _ _ hw).mono ?_); rintro e w3 ⟨rfl, hk3⟩
    obtain ⟨hk3c, hk3f⟩ := hk3.cells; have hk3z0 : w.heap.size < w3.heap.size := (by have := hk3.size; (try simp at this); omega)
    (go_wp2_with fail); (go_at_call 21); (refine (laws_toField _ _ _ _ _).mono ?_); rintro e w4 ⟨rfl, hk4⟩
    obtain ⟨hk4c, hk4f⟩ := hk4.cells; have hk4z0 : w.heap.size < w4.heap.size := (by have := hk4.size; (try simp at this); omega)
    (go_wp2_with fail); (go_at_call 24); (refine (impl_HolesOf _ _ _ _ _ hw).mono ?_); rintro e w5 ⟨rfl, hk5⟩
    go_wp2
    go_ret; exact ⟨rfl, (by ((repeat (first | (with_reducible assumption) | ((with_reducible refine Keep.setCell ?_ ?_ _); rotate_left; focus (first | omega | (simp; done) | (simp; omega))) | (with_reducible refine Keep.alloc ?_ _) | (with_reducible refine Keep.drewN ?_ _) | (with_reducible refine Keep.drew ?_) | (with_reducible exact Keep.refl _) | refine Keep.trans ?_ (by with_reducible assumption) | exact Keep.refl _ | assumption))))⟩
  · have e1 : szN 1048576 s.size = -1 := by unfold szN; rw [if_pos (by omega)]
    go_enter Tryd.func5, Tryd.ntmps5
    (go_wp2_with fail); (go_at_call 19); (refine (laws_szField _ _ _ _ 1048576 _ (by decide) hw.1).mono ?_); rintro e w1 ⟨rfl, hk1⟩
    rw [e1]
    go_wp2
    go_ret; exact ⟨rfl, (by ((repeat (first | (with_reducible assumption) | ((with_reducible refine Keep.setCell ?_ ?_ _); rotate_left; focus (first | omega | (simp; done) | (simp; omega))) | (with_reducible refine Keep.alloc ?_ _) | (with_reducible refine Keep.drewN ?_ _) | (with_reducible refine Keep.drew ?_) | (with_reducible exact Keep.refl _) | refine Keep.trans ?_ (by with_reducible assumption) | exact Keep.refl _ | assumption))))⟩
theorem laws_FnExactMostOf (s : ByteArray) (k st sz : Int) (w : World) (hw : s.size ≤ 9223372036854775807 ∧ I8 k ∧ I16 st ∧ I16 sz) :
    Calls Tryd.prog 6 #[.agg #[.string s, .int .i8 k, .int .i16 st, .int .i16 sz]] w fun e w' => e = .returned (.bool true) ∧ Keep w w' := by
  by_cases hn : s.size ≤ 1048576
  · have e1 : szN 1048576 s.size = 1048576 - s.size := by unfold szN; rw [if_neg (by omega)]
    go_enter Tryd.func6, Tryd.ntmps6
    (go_wp2_with fail); (go_at_call 19); (refine (laws_szField _ _ _ _ 1048576 _ (by decide) hw.1).mono ?_); rintro e w1 ⟨rfl, hk1⟩
    rw [e1]
    obtain ⟨hk1c, hk1f⟩ := hk1.cells; have hk1z0 : w.heap.size < w1.heap.size := (by have := hk1.size; (try simp at this); omega)
    (go_wp2_with fail); (go_at_call 21); (refine (laws_toField _ _ _ _ _).mono ?_); rintro e w2 ⟨rfl, hk2⟩
    obtain ⟨hk2c, hk2f⟩ := hk2.cells; have hk2z0 : w.heap.size < w2.heap.size := (by have := hk2.size; (try simp at this); omega)
    (go_wp2_with fail); (go_at_call 25); (refine (spec_MostOf _ _ _ _ _ hw).mono ?_); rintro e w3 ⟨rfl, hk3⟩
    obtain ⟨hk3c, hk3f⟩ := hk3.cells; have hk3z0 : w.heap.size < w3.heap.size := (by have := hk3.size; (try simp at this); omega)
    (go_wp2_with fail); (go_at_call 21); (refine (laws_toField _ _ _ _ _).mono ?_); rintro e w4 ⟨rfl, hk4⟩
    obtain ⟨hk4c, hk4f⟩ := hk4.cells; have hk4z0 : w.heap.size < w4.heap.size := (by have := hk4.size; (try simp at this); omega)
    (go_wp2_with fail); (go_at_call 26); (refine (impl_MostOf _ _ _ _ _ hw).mono ?_); rintro e w5 ⟨rfl, hk5⟩
    go_wp2
    go_ret; exact ⟨rfl, (by ((repeat (first | (with_reducible assumption) | ((with_reducible refine Keep.setCell ?_ ?_ _); rotate_left; focus (first | omega | (simp; done) | (simp; omega))) | (with_reducible refine Keep.alloc ?_ _) | (with_reducible refine Keep.drewN ?_ _) | (with_reducible refine Keep.drew ?_) | (with_reducible exact Keep.refl _) | refine Keep.trans ?_ (by with_reducible assumption) | exact Keep.refl _ | assumption))))⟩
  · have e1 : szN 1048576 s.size = -1 := by unfold szN; rw [if_pos (by omega)]
    go_enter Tryd.func6, Tryd.ntmps6
    (go_wp2_with fail); (go_at_call 19); (refine (laws_szField _ _ _ _ 1048576 _ (by decide) hw.1).mono ?_); rintro e w1 ⟨rfl, hk1⟩
    rw [e1]
    go_wp2
    go_ret; exact ⟨rfl, (by ((repeat (first | (with_reducible assumption) | ((with_reducible refine Keep.setCell ?_ ?_ _); rotate_left; focus (first | omega | (simp; done) | (simp; omega))) | (with_reducible refine Keep.alloc ?_ _) | (with_reducible refine Keep.drewN ?_ _) | (with_reducible refine Keep.drew ?_) | (with_reducible exact Keep.refl _) | refine Keep.trans ?_ (by with_reducible assumption) | exact Keep.refl _ | assumption))))⟩
end Go.Proofs.YtbgegnbcjklmjaaDoor

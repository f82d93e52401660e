/- Fields: the greatest value. -/
import Derived.Test.YtpmilcfppcmodaaDoorN4
set_option linter.unusedVariables false
set_option linter.unusedSimpArgs false
namespace Go.Proofs.YtpmilcfppcmodaaDoor
open Go.RowKit
set_option maxHeartbeats 2000000
/-- A base to some power. -/
def pw (b : Int) (n : Nat) : Int := b ^ n
theorem pw_zero (b : Int) : pw b 0 = 1 := Int.pow_zero b
theorem pw_succ (b : Int) (n : Nat) : pw b (n + 1) = pw b n * b := by unfold pw; exact Int.pow_succ b n
theorem pw_pos {b : Int} (h : 1 ≤ b) (n : Nat) : 1 ≤ pw b n := by
  induction n with
  | zero => simp [pw_zero]
  | succ n ih => rw [pw_succ]; exact Int.le_trans ih (by simpa using Int.mul_le_mul_of_nonneg_left h (by omega : 0 ≤ pw b n))
theorem pw_mono {b : Int} (h : 1 ≤ b) {m n : Nat} (hmn : m ≤ n) : pw b m ≤ pw b n := by
  induction n with
  | zero => have : m = 0 := by omega
            subst this; exact Int.le_refl _
  | succ n ih =>
    by_cases e : m = n + 1
    · subst e; exact Int.le_refl _
    · have h1 := ih (by omega)
      have h2 := pw_pos h n
      rw [pw_succ]
      exact Int.le_trans h1 (by simpa using Int.mul_le_mul_of_nonneg_left h (by omega : 0 ≤ pw b n))
def mostN (k sz : Int) : Int := if k = 0 then sz - 1 else if k = 3 then pw 2 sz.toNat - 1 else pw 10 sz.toNat - 1
def mostM (s : ByteArray) (k st sz : Int) : Int := cond (fieldB s k st sz) (mostN k sz) 0
/-- The sizes and kinds of valid fields. -/
def okSz (k sz : Int) : Prop := 1 ≤ sz ∧ ((k = 0 ∧ sz ≤ 24) ∨ (k = 1 ∧ sz ≤ 4) ∨ (k = 2 ∧ sz ≤ 4) ∨ (k = 3 ∧ sz ≤ 12))
theorem okSz_of {s : ByteArray} {k st sz : Int} (h : fieldB s k st sz = true) : okSz k sz := ⟨(fieldB_use h).1, (fieldB_use h).2.2.2.2⟩
theorem mostN_bound {k sz : Int} (h : okSz k sz) : 0 ≤ mostN k sz ∧ mostN k sz ≤ 9999 := by
  obtain ⟨h1, h2⟩ := h
  unfold mostN
  rcases h2 with ⟨rfl, h2⟩ | ⟨rfl, h2⟩ | ⟨rfl, h2⟩ | ⟨rfl, h2⟩
  · simp; omega
  · have a := pw_mono (b := 10) (by decide) (show sz.toNat ≤ 4 by omega)
    have b := pw_pos (b := 10) (by decide) sz.toNat
    have c : pw 10 4 = 10000 := by decide
    simp; omega
  · have a := pw_mono (b := 10) (by decide) (show sz.toNat ≤ 4 by omega)
    have b := pw_pos (b := 10) (by decide) sz.toNat
    have c : pw 10 4 = 10000 := by decide
    simp; omega
  · have a := pw_mono (b := 2) (by decide) (show sz.toNat ≤ 12 by omega)
    have b := pw_pos (b := 2) (by decide) sz.toNat
    have c : pw 2 12 = 4096 := by decide
    simp; omega
theorem spec_l01Power (b n : Int) (w : World) (hb : 1 ≤ b) (hb2 : b ≤ 10) (hn : 0 ≤ n) (hm : n ≤ 12) (hp : pw b n.toNat ≤ 1000000000000) :
    Calls Tryd.prog 157 #[.int .i64 b, .int .i64 n] w fun e w' => e = .returned (.int .i64 (pw b n.toNat)) ∧ Keep w w' := by
  go_enter Tryd.func157, Tryd.ntmps157
  go_wp2_with fail
  go_loopg [5, 6] n.toNat (fun k s1 s2 wr => ∃ i : Nat, i + k = n.toNat ∧ s1 = .int .i64 (pw b i) ∧ s2 = .int .i64 i ∧ Keep w wr)
  case atStart => exact ⟨0, by omega, by rw [pw_zero], rfl, (by ((repeat (first | (with_reducible assumption) | ((with_reducible refine Keep.setCell ?_ ?_ _); rotate_left; focus (first | omega | (simp; done) | (simp; omega))) | (with_reducible refine Keep.alloc ?_ _) | (with_reducible refine Keep.drewN ?_ _) | (with_reducible refine Keep.drew ?_) | (with_reducible exact Keep.refl _) | refine Keep.trans ?_ (by with_reducible assumption) | exact Keep.refl _ | assumption))))⟩
  case round =>
    obtain ⟨i, hi, rfl, rfl, hk⟩ := hrel
    by_cases hlt : (i : Int) < n
    · have h1 := pw_succ b i
      have h2 := pw_mono hb (show i + 1 ≤ n.toNat by omega)
      have h3 := pw_pos hb (i + 1)
      have e1 : IntKind.i64.wrap (pw b i * b) = pw b (i + 1) := by rw [← h1]; exact wrapI64 ⟨by omega, by omega⟩
      clear h1 h2 h3
      go_wp2
      go_roundg (n.toNat - (i + 1))
      case measure => omega
      case rel => exact ⟨i + 1, by omega, by first | rfl | go_num, by go_num, (by ((repeat (first | (with_reducible assumption) | ((with_reducible refine Keep.setCell ?_ ?_ _); rotate_left; focus (first | omega | (simp; done) | (simp; omega))) | (with_reducible refine Keep.alloc ?_ _) | (with_reducible refine Keep.drewN ?_ _) | (with_reducible refine Keep.drew ?_) | (with_reducible exact Keep.refl _) | refine Keep.trans ?_ (by with_reducible assumption) | exact Keep.refl _ | assumption))))⟩
    · have e2 : i = n.toNat := by omega
      subst e2
      go_wp2
      go_ret; exact ⟨rfl, (by ((repeat (first | (with_reducible assumption) | ((with_reducible refine Keep.setCell ?_ ?_ _); rotate_left; focus (first | omega | (simp; done) | (simp; omega))) | (with_reducible refine Keep.alloc ?_ _) | (with_reducible refine Keep.drewN ?_ _) | (with_reducible refine Keep.drew ?_) | (with_reducible exact Keep.refl _) | refine Keep.trans ?_ (by with_reducible assumption) | exact Keep.refl _ | assumption))))⟩
theorem spec_l01Most (s : ByteArray) (k st sz : Int) (g o : Nat) (w : World) (hz : okSz k sz)
    (c0 : w.cell? ⟨g, o, none⟩ = some (.string s)) (c1 : w.cell? ⟨g, o + 1, none⟩ = some (.int .i8 k)) (c2 : w.cell? ⟨g, o + 2, none⟩ = some (.int .i16 st)) (c3 : w.cell? ⟨g, o + 3, none⟩ = some (.int .i16 sz)) :
    Calls Tryd.prog 122 #[.pointer (some ⟨g, o, none⟩)] w fun e w' => e = .returned (.int .i64 (mostN k sz)) ∧ Keep w w' := by
  have hb := mostN_bound hz
  obtain ⟨h1, h2⟩ := hz
  have e0 : IntKind.i64.wrap sz = sz := wrapI64 ⟨by omega, by omega⟩
  have em : IntKind.i64.wrap (mostN k sz) = mostN k sz := wrapI64 ⟨by omega, by omega⟩
  have pb : pw 2 sz.toNat ≤ 1000000000000 ∨ ¬ k = 3 := by
    by_cases h : k = 3
    · subst h
      simp [mostN] at hb; left; omega
    · exact .inr h
  have pd : pw 10 sz.toNat ≤ 1000000000000 ∨ ¬ (k = 1 ∨ k = 2) := by
    by_cases h : k = 1 ∨ k = 2
    · rcases h with rfl | rfl <;> simp [mostN] at hb <;> left <;> omega
    · exact .inr h
  rcases h2 with ⟨rfl, h2⟩ | ⟨rfl, h2⟩ | ⟨rfl, h2⟩ | ⟨rfl, h2⟩
  · simp only [mostN] at em ⊢
    simp at em ⊢
    go_enter Tryd.func122, Tryd.ntmps122
    go_wp2
    go_ret; exact ⟨by simp [*], (by ((repeat (first | (with_reducible assumption) | ((with_reducible refine Keep.setCell ?_ ?_ _); rotate_left; focus (first | omega | (simp; done) | (simp; omega))) | (with_reducible refine Keep.alloc ?_ _) | (with_reducible refine Keep.drewN ?_ _) | (with_reducible refine Keep.drew ?_) | (with_reducible exact Keep.refl _) | refine Keep.trans ?_ (by with_reducible assumption) | exact Keep.refl _ | assumption))))⟩
  all_goals
    simp only [mostN] at em ⊢
    simp at em ⊢ pb pd
    go_enter Tryd.func122, Tryd.ntmps122
    (go_wp2_with fail); (go_at_call 157); (refine (spec_l01Power _ _ _ (by decide) (by decide) (by omega) (by omega) (by assumption)).mono ?_); rintro e w1 ⟨rfl, hk1⟩
    go_wp2
    go_ret; exact ⟨by simp [*], (by ((repeat (first | (with_reducible assumption) | ((with_reducible refine Keep.setCell ?_ ?_ _); rotate_left; focus (first | omega | (simp; done) | (simp; omega))) | (with_reducible refine Keep.alloc ?_ _) | (with_reducible refine Keep.drewN ?_ _) | (with_reducible refine Keep.drew ?_) | (with_reducible exact Keep.refl _) | refine Keep.trans ?_ (by with_reducible assumption) | exact Keep.refl _ | assumption))))⟩
theorem wrap_shl (n : Nat) (h : n ≤ 12) : IntKind.i64.wrap (2 ^ n) = pw 2 n := by
  have a := pw_mono (b := 2) (by decide) h
  have b := pw_pos (b := 2) (by decide) n
  have c : pw 2 12 = 4096 := by decide
  have e : (2 : Int) ^ n = pw 2 n := rfl
  rw [e]
  exact wrapI64 ⟨by omega, by omega⟩
end Go.Proofs.YtpmilcfppcmodaaDoor

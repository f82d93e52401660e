/- The holes of a word: the laws. -/
import Derived.Test.YtbbnhbfofdhnbaaDoorX5
import Derived.Test.YtbbnhbfofdhnbaaDoorW3
set_option linter.unusedVariables false
set_option linter.unusedSimpArgs false
namespace Go.Proofs.YtbbnhbfofdhnbaaDoor
open Go.RowKit
set_option maxHeartbeats 2000000
set_option maxRecDepth 20000
theorem mix_facts {s z p : Int} (h : mixB s z p = true) : 0 ≤ s ∧ 4 ≤ z ∧ s + z ≤ 96 ∧ 1 ≤ p ∧ p ≤ 8 ∧ 2 * p ≤ z := by
  have := mixB_iff.1 h
  omega
/-- The code of a word asked for. -/
def whE (s z p : Int) (word : ByteArray) : Int := ckE s z p [word] 12
def whE1 (s z p : Int) (word : ByteArray) : Int := ckE s z p [word] 1
theorem whE_eq (s z p : Int) (word : ByteArray) : whE1 s z p word = whE s z p word := by simp [whE, whE1, ckE, wsE, wsB]
theorem whE_cases (s z p : Int) (word : ByteArray) : (whE s z p word = 0 ∧ mixB s z p = true) ∨ (whE s z p word ≠ 0) := by
  cases h : mixB s z p
  · right; simp [whE, ckE, h]
  · cases h2 : wsB [word] 12
    · right; simp [whE, ckE, wsE, h, h2]
    · left; simp [whE, ckE, wsE, h, h2]
theorem szs_one {word : ByteArray} (h : word.size ≤ 9223372036854775807) : Szs [word] := by intro s hs; simp at hs; subst hs; exact h
theorem rd_word {w W : World} {g : Nat} {word : ByteArray} {T : TypeId} (h : Bx W g #[.string word] T) : Rd W (some ⟨g, 0, none⟩) (strs [word]) := by
  refine .inr ⟨g, 0, rfl, fun j v hj => ?_⟩
  rw [h.cell]
  simpa [strs] using hj
theorem impl_WordHoles (s z p : Int) (word : ByteArray) (T : Nat) (w : World) (hs : word.size ≤ 9223372036854775807) (hw : I16 s ∧ I16 z ∧ I16 p) (hT : whE s z p word = 0 → Lst s z p (chk word.data.toList) T) :
    Calls Tryd.prog 34 #[.agg #[.int .i16 s, .int .i16 z, .int .i16 p], .string word] w fun e w' => e = .returned (.tuple #[.agg #[.int .u64 (U (cond (whE s z p word == 0) (whLo s z (chk word.data.toList) T) 0#64)), .int .u64 (U (cond (whE s z p word == 0) (whHi s z (chk word.data.toList) T) 0#64))], .int .i64 (whE s z p word)]) ∧ Keep w w' := by
  have hc : ∀ W g, Bx W g #[.string word] 9 → Calls Tryd.prog 67 #[.agg #[.int .i16 s, .int .i16 z, .int .i16 p], .slice (some ⟨g, 0, none⟩) 1 1] W fun e w' => e = .returned (.int .i64 (whE s z p word)) ∧ Keep W w' :=
    fun W g h => impl_checkWords s z p (some ⟨g, 0, none⟩) [word] 1 W hw (by simp) (szs_one hs) (rd_word (w := W) h)
  rcases whE_cases s z p word with ⟨h0, hm⟩ | h0
  · have hmf := mix_facts hm
    have hh := fun W => impl_wordHoles s z p word T W hs hmf.1 (by omega) hmf.2.2.1 ⟨by omega, by omega⟩ (hT h0)
    rw [h0] at hc
    rw [h0]
    clear hT h0
    generalize whLo s z (chk word.data.toList) T = lo at *
    generalize whHi s z (chk word.data.toList) T = hi at *
    simp only [beq_self_eq_true, cond_true]
    go_enter Tryd.func34, Tryd.ntmps34
    (go_wp2_with fail); (go_at_call 67); (refine (hc _ _ (Bx.new2 _ _ _ _ _)).mono ?_); rintro e w1 ⟨rfl, hk1⟩
    obtain ⟨hk1c, hk1f⟩ := hk1.cells; have hk1z0 : w.heap.size < w1.heap.size := (by have := hk1.size; (try simp at this); omega); have hk1z1 : w.heap.size + 1 < w1.heap.size := (by have := hk1.size; (try simp at this); omega)
    (go_wp2_with fail); (go_at_call 55); (refine (hh _).mono ?_); rintro e w2 ⟨rfl, hk2⟩
    obtain ⟨hk2c, hk2f⟩ := hk2.cells; have hk2z0 : w.heap.size < w2.heap.size := (by have := hk2.size; (try simp at this); omega); have hk2z1 : w.heap.size + 1 < w2.heap.size := (by have := hk2.size; (try simp at this); omega)
    go_wp2
    (apply bodyPost_ret; rotate_left; rfl; exact ⟨rfl, (by ((repeat (first | (with_reducible assumption) | ((with_reducible refine Keep.setCell ?_ ?_ _); rotate_left; focus (first | omega | (simp; done) | (simp; omega))) | (with_reducible refine Keep.alloc ?_ _) | (with_reducible refine Keep.drewN ?_ _) | (with_reducible refine Keep.drew ?_) | (with_reducible exact Keep.refl _) | refine Keep.trans ?_ (by with_reducible assumption) | exact Keep.refl _ | assumption))))⟩; simp [results, Tryd.results34, go_sem, U_zero, *])
  · have e1 : (whE s z p word == 0) = false := by simpa using h0
    rw [e1]
    generalize whE s z p word = y at *
    simp only [cond_false]
    clear hT e1
    go_enter Tryd.func34, Tryd.ntmps34
    (go_wp2_with fail); (go_at_call 67); (refine (hc _ _ (Bx.new2 _ _ _ _ _)).mono ?_); rintro e w1 ⟨rfl, hk1⟩
    obtain ⟨hk1c, hk1f⟩ := hk1.cells; have hk1z0 : w.heap.size < w1.heap.size := (by have := hk1.size; (try simp at this); omega); have hk1z1 : w.heap.size + 1 < w1.heap.size := (by have := hk1.size; (try simp at this); omega)
    go_wp2
    (apply bodyPost_ret; rotate_left; rfl; exact ⟨rfl, (by ((repeat (first | (with_reducible assumption) | ((with_reducible refine Keep.setCell ?_ ?_ _); rotate_left; focus (first | omega | (simp; done) | (simp; omega))) | (with_reducible refine Keep.alloc ?_ _) | (with_reducible refine Keep.drewN ?_ _) | (with_reducible refine Keep.drew ?_) | (with_reducible exact Keep.refl _) | refine Keep.trans ?_ (by with_reducible assumption) | exact Keep.refl _ | assumption))))⟩; simp [results, Tryd.results34, go_sem, U_zero, *])
theorem spec_WordHoles (s z p : Int) (word : ByteArray) (T : Nat) (w : World) (hs : word.size ≤ 9223372036854775807) (hw : I16 s ∧ I16 z ∧ I16 p) (hT : whE s z p word = 0 → Lst s z p (chk word.data.toList) T) :
    Calls Tryd.prog 35 #[.agg #[.int .i16 s, .int .i16 z, .int .i16 p], .string word] w fun e w' => e = .returned (.tuple #[.agg #[.int .u64 (U (cond (whE s z p word == 0) (whLo s z (chk word.data.toList) T) 0#64)), .int .u64 (U (cond (whE s z p word == 0) (whHi s z (chk word.data.toList) T) 0#64))], .int .i64 (whE s z p word)]) ∧ Keep w w' := by
  have hc : ∀ W M mc g, Bx W g #[.string word] 9 → Bx W w.heap.size #[.int .i16 s, .int .i16 z, .int .i16 p] 42 → Calls Tryd.prog 52 #[.pointer (some ⟨w.heap.size, 0, none⟩), .slice M 0 mc, .slice (some ⟨g, 0, none⟩) 1 1, .int .i64 1] W fun e w' => e = .returned (.int .i64 (whE s z p word)) ∧ Keep W w' :=
    fun W M mc g h hX => by
      obtain ⟨b0, b1, b2, _⟩ := hX.three
      have := spec_l03Asked0 s z p w.heap.size 0 M mc (some ⟨g, 0, none⟩) [word] 1 1 W hw (by simp) (szs_one hs) (rd_word (w := W) h) b0 b1 b2
      rw [show ckE s z p [word] 1 = whE s z p word from whE_eq s z p word] at this
      exact this
  rcases whE_cases s z p word with ⟨h0, hm⟩ | h0
  · have hmf := mix_facts hm
    have hh := fun W h1 h2 h3 => spec_l03Holes s z p word T w.heap.size 0 W hs hmf.1 (by omega) hmf.2.2.1 ⟨by omega, by omega⟩ (hT h0) h1 h2 h3
    rw [h0] at hc
    rw [h0]
    clear hT h0
    generalize whLo s z (chk word.data.toList) T = lo at *
    generalize whHi s z (chk word.data.toList) T = hi at *
    simp only [beq_self_eq_true, cond_true]
    go_enter Tryd.func35, Tryd.ntmps35
    (go_wp2_with fail); (go_at_call 52); (refine (hc _ _ _ _ (Bx.new3 _ _ _ _ _ _) ((((Bx.new _ _ _).alloc _).alloc _).alloc _)).mono ?_); rintro e w1 ⟨rfl, hk1⟩
    have hX : Bx w1 w.heap.size #[.int .i16 s, .int .i16 z, .int .i16 p] 42 := ((((Bx.new _ _ _).alloc _).alloc _).alloc _).keep hk1
    have hR : Bx w1 (w.heap.size + 1) #[.int .u64 0, .int .u64 0] 50 := (((Bx.new1 _ _ _ _).alloc _).alloc _).keep hk1
    have k1 : Keep w w1 := (by ((repeat (first | (with_reducible assumption) | ((with_reducible refine Keep.setCell ?_ ?_ _); rotate_left; focus (first | omega | (simp; done) | (simp; omega))) | (with_reducible refine Keep.alloc ?_ _) | (with_reducible refine Keep.drewN ?_ _) | (with_reducible refine Keep.drew ?_) | (with_reducible exact Keep.refl _) | refine Keep.trans ?_ (by with_reducible assumption) | exact Keep.refl _ | assumption))))
    clear hk1
    obtain ⟨b0, b1, b2, _⟩ := hX.three
    have hRs := hR.two
    (go_wp2_with fail); (go_at_call 53); (refine (hh _ b0 b1 b2).mono ?_); rintro e w2 ⟨rfl, hk2⟩
    have hR2 := hR.keep hk2
    have k2 : Keep w w2 := (by ((repeat (first | (with_reducible assumption) | ((with_reducible refine Keep.setCell ?_ ?_ _); rotate_left; focus (first | omega | (simp; done) | (simp; omega))) | (with_reducible refine Keep.alloc ?_ _) | (with_reducible refine Keep.drewN ?_ _) | (with_reducible refine Keep.drew ?_) | (with_reducible exact Keep.refl _) | refine Keep.trans ?_ (by with_reducible assumption) | exact Keep.refl _ | assumption))))
    clear hRs hk2 hR k1
    have hRs := hR2.two
    go_wp2
    (apply bodyPost_ret; rotate_left; rfl; exact ⟨rfl, (by ((repeat (first | (with_reducible assumption) | ((with_reducible refine Keep.setCell ?_ ?_ _); rotate_left; focus (first | omega | (simp; done) | (simp; omega))) | (with_reducible refine Keep.alloc ?_ _) | (with_reducible refine Keep.drewN ?_ _) | (with_reducible refine Keep.drew ?_) | (with_reducible exact Keep.refl _) | refine Keep.trans ?_ (by with_reducible assumption) | exact Keep.refl _ | assumption))))⟩; simp [results, Tryd.results35, go_sem, U_zero, *])
  · have e1 : (whE s z p word == 0) = false := by simpa using h0
    rw [e1]
    generalize whE s z p word = y at *
    simp only [cond_false]
    clear hT e1
    go_enter Tryd.func35, Tryd.ntmps35
    (go_wp2_with fail); (go_at_call 52); (refine (hc _ _ _ _ (Bx.new3 _ _ _ _ _ _) ((((Bx.new _ _ _).alloc _).alloc _).alloc _)).mono ?_); rintro e w1 ⟨rfl, hk1⟩
    have hR : Bx w1 (w.heap.size + 1) #[.int .u64 0, .int .u64 0] 50 := (((Bx.new1 _ _ _ _).alloc _).alloc _).keep hk1
    have k1 : Keep w w1 := (by ((repeat (first | (with_reducible assumption) | ((with_reducible refine Keep.setCell ?_ ?_ _); rotate_left; focus (first | omega | (simp; done) | (simp; omega))) | (with_reducible refine Keep.alloc ?_ _) | (with_reducible refine Keep.drewN ?_ _) | (with_reducible refine Keep.drew ?_) | (with_reducible exact Keep.refl _) | refine Keep.trans ?_ (by with_reducible assumption) | exact Keep.refl _ | assumption))))
    clear hk1
    have hRs := hR.two
    go_wp2
    (apply bodyPost_ret; rotate_left; rfl; exact ⟨rfl, (by ((repeat (first | (with_reducible assumption) | ((with_reducible refine Keep.setCell ?_ ?_ _); rotate_left; focus (first | omega | (simp; done) | (simp; omega))) | (with_reducible refine Keep.alloc ?_ _) | (with_reducible refine Keep.drewN ?_ _) | (with_reducible refine Keep.drew ?_) | (with_reducible exact Keep.refl _) | refine Keep.trans ?_ (by with_reducible assumption) | exact Keep.refl _ | assumption))))⟩; simp [results, Tryd.results35, go_sem, U_zero, *])
end Go.Proofs.YtbbnhbfofdhnbaaDoor

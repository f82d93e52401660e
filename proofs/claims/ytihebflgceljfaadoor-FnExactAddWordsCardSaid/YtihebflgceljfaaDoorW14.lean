/- The holes of a word: the laws. -/
import Derived.Test.YtihebflgceljfaaDoorX5
import Derived.Test.YtihebflgceljfaaDoorW3
set_option linter.unusedVariables false
set_option linter.unusedSimpArgs false
namespace Go.Proofs.YtihebflgceljfaaDoor
open Go.RowKit
set_option maxHeartbeats 2000000
set_option maxRecDepth 20000
theorem mix_facts {s z p : Int} (h : mixB s z p = true) : 0 ≤ s ∧ 4 ≤ z ∧ s + z ≤ 96 ∧ 1 ≤ p ∧ p ≤ 8 ∧ 2 * p ≤ z := by
  have := mixB_iff.1 h
  omega
/-- The code of a word asked for. -/
def whE (s z p : Int) (word : ByteArray) : Int := ckE s z p [word] 12
def whE1 (s z p : Int) (word : ByteArray) : Int := ckE s z p [word] 1
theorem whE_eq (s z p : Int) (word : ByteArray) : whE1 s z p word = whE s z p word := by simp [whE, whE1, ckE, wsE, wsB]
theorem whE_cases (s z p : Int) (word : ByteArray) : (whE s z p word = 0 ∧ mixB s z p = true) ∨ (whE s z p word ≠ 0) := by
  cases h : mixB s z p
  · right; simp [whE, ckE, h]
  · cases h2 : wsB [word] 12
    · right; simp [whE, ckE, wsE, h, h2]
    · left; simp [whE, ckE, wsE, h, h2]
theorem szs_one {word : ByteArray} (h : word.size ≤ 9223372036854775807) : Szs [word] := by intro s hs; simp at hs; subst hs; exact h
theorem rd_word {w W : World} {g : Nat} {word : ByteArray} {T : TypeId} (h : Bx W g #[.string word] T) : Rd W (some ⟨g, 0, none⟩) (strs [word]) := by
  refine .inr ⟨g, 0, rfl, fun j v hj => ?_⟩
  rw [h.cell]
  simpa [strs] using hj
theorem impl_WordHoles (s z p : Int) (word : ByteArray) (T : Nat) (w : World) (hs : word.size ≤ 9223372036854775807) (hw : I16 s ∧ I16 z ∧ I16 p) (hT : whE s z p word = 0 → Lst s z p (chk word.data.toList) T) :
    Calls Tryd.prog 16 #[.agg #[.int .i16 s, .int .i16 z, .int .i16 p], .string word] w fun e w' => e = .returned (.tuple #[.agg #[.int .u64 (U (cond (whE s z p word == 0) (whLo s z (chk word.data.toList) T) 0#64)), .int .u64 (U (cond (whE s z p word == 0) (whHi s z (chk word.data.toList) T) 0#64))], .int .i64 (whE s z p word)]) ∧ Keep w w' := by
  have hc : ∀ W g, Bx W g #[.string word] 9 → Calls Tryd.prog 61 #[.agg #[.int .i16 s, .int .i16 z, .int .i16 p], .slice (some ⟨g, 0, none⟩) 1 1] W fun e w' => e = .returned (.int .i64 (whE s z p word)) ∧ Keep W w' :=
    fun W g h => impl_checkWords s z p (some ⟨g, 0, none⟩) [word] 1 W hw (by simp) (szs_one hs) (rd_word (w := W) h)
  rcases whE_cases s z p word with ⟨h0, hm⟩ | h0
  · have hmf := mix_facts hm
    have hh := fun W => impl_wordHoles s z p word T W hs hmf.1 (by omega) hmf.2.2.1 ⟨by omega, by omega⟩ (hT h0)
    rw [h0] at hc
    rw [h0]
    clear hT h0
    generalize whLo s z (chk word.data.toList) T = lo at *
    generalize whHi s z (chk word.data.toList) T = hi at *
    simp only [beq_self_eq_true, cond_true]
    go_enter Tryd.func16, Tryd.ntmps16
    (go_wp2_with fail); (go_at_call 61); (refine (hc _ _ (Bx.new2 _ _ _ _ _)).mono ?_); rintro e w1 ⟨rfl, hk1⟩
    obtain ⟨hk1c, hk1f⟩ := hk1.cells; have hk1z0 : w.heap.size < w1.heap.size := (by have := hk1.size; (try simp at this); omega); have hk1z1 : w.heap.size + 1 < w1.heap.size := (by have := hk1.size; (try simp at this); omega)
    (go_wp2_with fail); (go_at_call 62); (refine (hh _).mono ?_); rintro e w2 ⟨rfl, hk2⟩
    obtain ⟨hk2c, hk2f⟩ := hk2.cells; have hk2z0 : w.heap.size < w2.heap.size := (by have := hk2.size; (try simp at this); omega); have hk2z1 : w.heap.size + 1 < w2.heap.size := (by have := hk2.size; (try simp at this); omega)
    go_wp2
    (apply bodyPost_ret; rotate_left; rfl; exact ⟨rfl, (by ((repeat (first | (with_reducible assumption) | ((with_reducible refine Keep.setCell ?_ ?_ _); rotate_left; focus (first | omega | (simp; done) | (simp; omega))) | (with_reducible refine Keep.alloc ?_ _) | (with_reducible refine Keep.drewN ?_ _) | (with_reducible refine Keep.drew ?_) | (with_reducible exact Keep.refl _) | refine Keep.trans ?_ (by with_reducible assumption) | exact Keep.refl _ | assumption))))⟩; simp [results, Tryd.results16, go_sem, U_zero, *])
  · have e1 : (whE s z p word == 0) = false := by simpa using h0
    rw [e1]
    generalize whE s z p word = y at *
    simp only [cond_false]
    clear hT e1
    go_enter Tryd.func16, Tryd.ntmps16
    (go_wp2_with fail); (go_at_call 61); (refine (hc _ _ (Bx.new2 _ _ _ _ _)).mono ?_); rintro e w1 ⟨rfl, hk1⟩
    obtain ⟨hk1c, hk1f⟩ := hk1.cells; have hk1z0 : w.heap.size < w1.heap.size := (by have := hk1.size; (try simp at this); omega); have hk1z1 : w.heap.size + 1 < w1.heap.size := (by have := hk1.size; (try simp at this); omega)
    go_wp2
    (apply bodyPost_ret; rotate_left; rfl; exact ⟨rfl, (by ((repeat (first | (with_reducible assumption) | ((with_reducible refine Keep.setCell ?_ ?_ _); rotate_left; focus (first | omega | (simp; done) | (simp; omega))) | (with_reducible refine Keep.alloc ?_ _) | (with_reducible refine Keep.drewN ?_ _) | (with_reducible refine Keep.drew ?_) | (with_reducible exact Keep.refl _) | refine Keep.trans ?_ (by with_reducible assumption) | exact Keep.refl _ | assumption))))⟩; simp [results, Tryd.results16, go_sem, U_zero, *])
theorem spec_WordHoles (s z p : Int) (word : ByteArray) (T : Nat) (w : World) (hs : word.size ≤ 9223372036854775807) (hw : I16 s ∧ I16 z ∧ I16 p) (hT : whE s z p word = 0 → Lst s z p (chk word.data.toList) T) :
    Calls Tryd.prog 14 #[.agg #[.int .i16 s, .int .i16 z, .int .i16 p], .string word] w fun e w' => e = .returned (.tuple #[.agg #[.int .u64 (U (cond (whE s z p word == 0) (whLo s z (chk word.data.toList) T) 0#64)), .int .u64 (U (cond (whE s z p word == 0) (whHi s z (chk word.data.toList) T) 0#64))], .int .i64 (whE s z p word)]) ∧ Keep w w' := by
  have hc : ∀ W M mc g, Bx W g #[.string word] 9 → Bx W w.heap.size #[.int .i16 s, .int .i16 z, .int .i16 p] 34 → Calls Tryd.prog 59 #[.pointer (some ⟨w.heap.size, 0, none⟩), .slice M 0 mc, .slice (some ⟨g, 0, none⟩) 1 1, .int .i64 1] W fun e w' => e = .returned (.int .i64 (whE s z p word)) ∧ Keep W w' :=
    fun W M mc g h hX => by
      obtain ⟨b0, b1, b2, _⟩ := hX.three
      have := spec_l03Asked0 s z p w.heap.size 0 M mc (some ⟨g, 0, none⟩) [word] 1 1 W hw (by simp) (szs_one hs) (rd_word (w := W) h) b0 b1 b2
      rw [show ckE s z p [word] 1 = whE s z p word from whE_eq s z p word] at this
      exact this
  rcases whE_cases s z p word with ⟨h0, hm⟩ | h0
  · have hmf := mix_facts hm
    have hh := fun W h1 h2 h3 => spec_l03Holes s z p word T w.heap.size 0 W hs hmf.1 (by omega) hmf.2.2.1 ⟨by omega, by omega⟩ (hT h0) h1 h2 h3
    rw [h0] at hc
    rw [h0]
    clear hT h0
    generalize whLo s z (chk word.data.toList) T = lo at *
    generalize whHi s z (chk word.data.toList) T = hi at *
    simp only [beq_self_eq_true, cond_true]
    go_enter Tryd.func14, Tryd.ntmps14
    (go_wp2_with fail); (go_at_call 59); (refine (hc _ _ _ _ (Bx.new3 _ _ _ _ _ _) ((((Bx.new _ _ _).alloc _).alloc _).alloc _)).mono ?_); rintro e w1 ⟨rfl, hk1⟩
    have hX : Bx w1 w.heap.size #[.int .i16 s, .int .i16 z, .int .i16 p] 34 := ((((Bx.new _ _ _).alloc _).alloc _).alloc _).keep hk1
    have hR : Bx w1 (w.heap.size + 1) #[.int .u64 0, .int .u64 0] 31 := (((Bx.new1 _ _ _ _).alloc _).alloc _).keep hk1
    have k1 : Keep w w1 := (by ((repeat (first | (with_reducible assumption) | ((with_reducible refine Keep.setCell ?_ ?_ _); rotate_left; focus (first | omega | (simp; done) | (simp; omega))) | (with_reducible refine Keep.alloc ?_ _) | (with_reducible refine Keep.drewN ?_ _) | (with_reducible refine Keep.drew ?_) | (with_reducible exact Keep.refl _) | refine Keep.trans ?_ (by with_reducible assumption) | exact Keep.refl _ | assumption))))
    clear hk1
    obtain ⟨b0, b1, b2, _⟩ := hX.three
    have hRs := hR.two
    (go_wp2_with fail); (go_at_call 60); (refine (hh _ b0 b1 b2).mono ?_); rintro e w2 ⟨rfl, hk2⟩
    have hR2 := hR.keep hk2
    have k2 : Keep w w2 := (by ((repeat (first | (with_reducible assumption) | ((with_reducible refine Keep.setCell ?_ ?_ _); rotate_left; focus (first | omega | (simp; done) | (simp; omega))) | (with_reducible refine Keep.alloc ?_ _) | (with_reducible refine Keep.drewN ?_ _) | (with_reducible refine Keep.drew ?_) | (with_reducible exact Keep.refl _) | refine Keep.trans ?_ (by with_reducible assumption) | exact Keep.refl _ | assumption))))
    clear hRs hk2 hR k1
    have hRs := hR2.two
    go_wp2
    (apply bodyPost_ret; rotate_left; rfl; exact ⟨rfl, (by ((repeat (first | (with_reducible assumption) | ((with_reducible refine Keep.setCell ?_ ?_ _); rotate_left; focus (first | omega | (simp; done) | (simp; omega))) | (with_reducible refine Keep.alloc ?_ _) | (with_reducible refine Keep.drewN ?_ _) | (with_reducible refine Keep.drew ?_) | (with_reducible exact Keep.refl _) | refine Keep.trans ?_ (by with_reducible assumption) | exact Keep.refl _ | assumption))))⟩; simp [results, Tryd.results14, go_sem, U_zero, *])
  · have e1 : (whE s z p word == 0) = false := by simpa using h0
    rw [e1]
    generalize whE s z p word = y at *
    simp only [cond_false]
    clear hT e1
    go_enter Tryd.func14, Tryd.ntmps14
    (go_wp2_with fail); (go_at_call 59); (refine (hc _ _ _ _ (Bx.new3 _ _ _ _ _ _) ((((Bx.new _ _ _).alloc _).alloc _).alloc _)).mono ?_); rintro e w1 ⟨rfl, hk1⟩
    have hR : Bx w1 (w.heap.size + 1) #[.int .u64 0, .int .u64 0] 31 := (((Bx.new1 _ _ _ _).alloc _).alloc _).keep hk1
    have k1 : Keep w w1 := (by ((repeat (first | (with_reducible assumption) | ((with_reducible refine Keep.setCell ?_ ?_ _); rotate_left; focus (first | omega | (simp; done) | (simp; omega))) | (with_reducible refine Keep.alloc ?_ _) | (with_reducible refine Keep.drewN ?_ _) | (with_reducible refine Keep.drew ?_) | (with_reducible exact Keep.refl _) | refine Keep.trans ?_ (by with_reducible assumption) | exact Keep.refl _ | assumption))))
    clear hk1
    have hRs := hR.two
    go_wp2
    (apply bodyPost_ret; rotate_left; rfl; exact ⟨rfl, (by ((repeat (first | (with_reducible assumption) | ((with_reducible refine Keep.setCell ?_ ?_ _); rotate_left; focus (first | omega | (simp; done) | (simp; omega))) | (with_reducible refine Keep.alloc ?_ _) | (with_reducible refine Keep.drewN ?_ _) | (with_reducible refine Keep.drew ?_) | (with_reducible exact Keep.refl _) | refine Keep.trans ?_ (by with_reducible assumption) | exact Keep.refl _ | assumption))))⟩; simp [results, Tryd.results14, go_sem, U_zero, *])
theorem laws_FnExactWordHoles (s z p : Int) (word : ByteArray) (w : World) (hw : I16 s ∧ I16 z ∧ I16 p) (hs : word.size ≤ 9223372036854775807) :
    Calls Tryd.prog 4 #[.agg #[.int .i16 s, .int .i16 z, .int .i16 p], .string word] w fun e w' => e = .returned (.bool true) ∧ Keep w w' := by
  by_cases hn : word.size ≤ 1048576
  · obtain ⟨T, hT⟩ : ∃ T, whE s z p word = 0 → Lst s z p (chk word.data.toList) T := by
      rcases whE_cases s z p word with ⟨h0, hm⟩ | h0
      · have hmf := mix_facts hm
        obtain ⟨T, h⟩ := exT hmf.1 (by omega) hmf.2.2.1 (show p ≤ z by omega) _ (chk_lt word.data.toList)
        exact ⟨T, fun _ => h⟩
      · exact ⟨0, fun h => absurd h h0⟩
    have hI := fun W => impl_WordHoles s z p word T W hs hw hT
    have hJ := fun W => spec_WordHoles s z p word T W hs hw hT
    generalize cond (whE s z p word == 0) (whLo s z (chk word.data.toList) T) 0#64 = x at *
    generalize cond (whE s z p word == 0) (whHi s z (chk word.data.toList) T) 0#64 = y at *
    clear hT
    generalize whE s z p word = u at *
    go_enter Tryd.func4, Tryd.ntmps4
    (go_wp2_with fail); (go_at_call 15); (refine (laws_toMix _ _ _ _).mono ?_); rintro e w1 ⟨rfl, hk1⟩
    obtain ⟨hk1c, hk1f⟩ := hk1.cells; have hk1z0 : w.heap.size < w1.heap.size := (by have := hk1.size; (try simp at this); omega)
    (go_wp2_with fail); (go_at_call 14); (refine (hJ _).mono ?_); rintro e w2 ⟨rfl, hk2⟩
    have hA : Bx w2 w.heap.size #[.int .i16 s, .int .i16 z, .int .i16 p] 28 := ((Bx.new _ _ _).keep hk1).keep hk2
    have k2 : Keep w w2 := (by ((repeat (first | (with_reducible assumption) | ((with_reducible refine Keep.setCell ?_ ?_ _); rotate_left; focus (first | omega | (simp; done) | (simp; omega))) | (with_reducible refine Keep.alloc ?_ _) | (with_reducible refine Keep.drewN ?_ _) | (with_reducible refine Keep.drew ?_) | (with_reducible exact Keep.refl _) | refine Keep.trans ?_ (by with_reducible assumption) | exact Keep.refl _ | assumption))))
    clear hk1 hk2 hk1c hk1f hk1z0
    have hAs := hA.three
    (go_wp2_with fail); (go_at_call 15); (refine (laws_toMix _ _ _ _).mono ?_); rintro e w4 ⟨rfl, hk4⟩
    have hB4 : Bx w4 w2.heap.size #[.int .u64 (U x), .int .u64 (U y)] 31 := (Bx.new _ _ _).keep hk4
    have k4 : Keep w w4 := (by ((repeat (first | (with_reducible assumption) | ((with_reducible refine Keep.setCell ?_ ?_ _); rotate_left; focus (first | omega | (simp; done) | (simp; omega))) | (with_reducible refine Keep.alloc ?_ _) | (with_reducible refine Keep.drewN ?_ _) | (with_reducible refine Keep.drew ?_) | (with_reducible exact Keep.refl _) | refine Keep.trans ?_ (by with_reducible assumption) | exact Keep.refl _ | assumption))))
    clear hAs hA hk4 k2
    (go_wp2_with fail); (go_at_call 16); (refine (hI _).mono ?_); rintro e w5 ⟨rfl, hk5⟩
    have hB5 := hB4.keep hk5
    have k5 : Keep w w5 := (by ((repeat (first | (with_reducible assumption) | ((with_reducible refine Keep.setCell ?_ ?_ _); rotate_left; focus (first | omega | (simp; done) | (simp; omega))) | (with_reducible refine Keep.alloc ?_ _) | (with_reducible refine Keep.drewN ?_ _) | (with_reducible refine Keep.drew ?_) | (with_reducible exact Keep.refl _) | refine Keep.trans ?_ (by with_reducible assumption) | exact Keep.refl _ | assumption))))
    clear hB4 hk5 k4
    have hBs := hB5.two
    (go_wp2_with fail); (go_at_call 17); (refine (laws_eqMask_self _ _ _).mono ?_); rintro e w6 ⟨rfl, hk6⟩
    go_wp2
    go_ret; exact ⟨rfl, (by ((repeat (first | (with_reducible assumption) | ((with_reducible refine Keep.setCell ?_ ?_ _); rotate_left; focus (first | omega | (simp; done) | (simp; omega))) | (with_reducible refine Keep.alloc ?_ _) | (with_reducible refine Keep.drewN ?_ _) | (with_reducible refine Keep.drew ?_) | (with_reducible exact Keep.refl _) | refine Keep.trans ?_ (by with_reducible assumption) | exact Keep.refl _ | assumption))))⟩
  · go_enter Tryd.func4, Tryd.ntmps4
    go_wp2
    go_ret; exact ⟨rfl, (by ((repeat (first | (with_reducible assumption) | ((with_reducible refine Keep.setCell ?_ ?_ _); rotate_left; focus (first | omega | (simp; done) | (simp; omega))) | (with_reducible refine Keep.alloc ?_ _) | (with_reducible refine Keep.drewN ?_ _) | (with_reducible refine Keep.drew ?_) | (with_reducible exact Keep.refl _) | refine Keep.trans ?_ (by with_reducible assumption) | exact Keep.refl _ | assumption))))⟩
end Go.Proofs.YtihebflgceljfaaDoor

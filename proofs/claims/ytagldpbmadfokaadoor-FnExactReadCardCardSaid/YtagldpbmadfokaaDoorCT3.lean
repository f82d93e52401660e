/- The text of a card: the two functions and the law. -/
import Derived.Test.YtagldpbmadfokaaDoorCT2
import Derived.Test.YtagldpbmadfokaaDoorW8
set_option linter.unusedVariables false
set_option linter.unusedSimpArgs false
namespace Go.Proofs.YtagldpbmadfokaaDoor
open Go.RowKit Go.Shelf
set_option maxHeartbeats 2000000
set_option maxRecDepth 20000
def ctX (s : ByteArray) (a b : Wd) : ByteArray := cond (cardB s b) (ctT s a b) ByteArray.empty
theorem name_16 {s : ByteArray} {b : Wd} (h : cardB s b = true) : s.size ≤ 16 := by
  unfold cardB at h
  simp only [Bool.and_eq_true] at h
  have := h.1
  unfold nameB at this
  simp only [Bool.and_eq_true, decide_eq_true_eq] at this
  exact this.1.2
theorem impl_CardText (s : ByteArray) (a b : Wd) (w : World) (hs : s.size ≤ 9223372036854775807) :
    Calls Tryd.prog 9 #[.agg #[.string s, .int .u64 (U a), .int .u64 (U b)]] w fun e w' => e = .returned (.string (ctX s a b)) ∧ Keep w w' := by
  have hB := (Bx.new w #[.string s, .int .u64 (U a), .int .u64 (U b)] 30)
  have hI := Aside.mk (fun W => impl_isCard s a b W hs)
  cases h1 : cardB s b
  · rw [h1] at hI
    simp only [ctX, h1, cond_false]
    rw [show ByteArray.empty = ⟨#[]⟩ from rfl]
    clear hB
    go_enter Tryd.func9, Tryd.ntmps9
    (go_wp2_with fail); (go_at_call 21); (refine (hI.out _).mono ?_); rintro e w1 ⟨rfl, hk1⟩
    go_wp2
    go_ret; exact ⟨rfl, (by ((repeat (first | (with_reducible assumption) | ((with_reducible refine Keep.setCell ?_ ?_ _); rotate_left; focus (first | omega | (simp; done) | (simp; omega))) | (with_reducible refine Keep.alloc ?_ _) | (with_reducible refine Keep.drewN ?_ _) | (with_reducible refine Keep.drew ?_) | (with_reducible exact Keep.refl _) | refine Keep.trans ?_ (by with_reducible assumption) | exact Keep.refl _ | assumption))))⟩
  · rw [h1] at hI
    simp only [ctX, h1, cond_true]
    have hT := Aside.mk (fun W => impl_cardText s a b W (by have := name_16 h1; omega))
    generalize ctT s a b = r at *
    go_enter Tryd.func9, Tryd.ntmps9
    (go_wp2_with fail); (go_at_call 21); (refine (hI.out _).mono ?_); rintro e w1 ⟨rfl, hk1⟩
    obtain ⟨hk1c, hk1f⟩ := hk1.cells; have hk1z0 : w.heap.size < w1.heap.size := (by have := hk1.size; (try simp at this); omega)
    (go_wp2_with fail); (go_at_call 22); (refine (hT.out _).mono ?_); rintro e w2 ⟨rfl, hk2⟩
    go_wp2
    go_ret; exact ⟨rfl, (by ((repeat (first | (with_reducible assumption) | ((with_reducible refine Keep.setCell ?_ ?_ _); rotate_left; focus (first | omega | (simp; done) | (simp; omega))) | (with_reducible refine Keep.alloc ?_ _) | (with_reducible refine Keep.drewN ?_ _) | (with_reducible refine Keep.drew ?_) | (with_reducible exact Keep.refl _) | refine Keep.trans ?_ (by with_reducible assumption) | exact Keep.refl _ | assumption))))⟩
theorem spec_CardText (s : ByteArray) (a b : Wd) (w : World) (hs : s.size ≤ 9223372036854775807) :
    Calls Tryd.prog 7 #[.agg #[.string s, .int .u64 (U a), .int .u64 (U b)]] w fun e w' => e = .returned (.string (ctX s a b)) ∧ Keep w w' := by
  have hB := (Bx.new w #[.string s, .int .u64 (U a), .int .u64 (U b)] 30)
  obtain ⟨b0, b1, b2, _, _, _, bz⟩ := hB.three
  have hI := Aside.mk (fun W g o c0 c1 c2 => spec_l01Ok s a b g o W hs c0 c1 c2)
  cases h1 : cardB s b
  · rw [h1] at hI
    simp only [ctX, h1, cond_false]
    rw [show ByteArray.empty = ⟨#[]⟩ from rfl]
    go_enter Tryd.func7, Tryd.ntmps7
    (go_wp2_with fail); (go_at_call 18); (refine (hI.out _ _ _ b0 b1 b2).mono ?_); rintro e w1 ⟨rfl, hk1⟩
    go_wp2
    go_ret; exact ⟨rfl, (by ((repeat (first | (with_reducible assumption) | ((with_reducible refine Keep.setCell ?_ ?_ _); rotate_left; focus (first | omega | (simp; done) | (simp; omega))) | (with_reducible refine Keep.alloc ?_ _) | (with_reducible refine Keep.drewN ?_ _) | (with_reducible refine Keep.drew ?_) | (with_reducible exact Keep.refl _) | refine Keep.trans ?_ (by with_reducible assumption) | exact Keep.refl _ | assumption))))⟩
  · rw [h1] at hI
    simp only [ctX, h1, cond_true]
    have hT := Aside.mk (fun W g o c0 c1 c2 => spec_l01Text s a b g o W (by have := name_16 h1; omega) c0 c1 c2)
    generalize ctT s a b = r at *
    go_enter Tryd.func7, Tryd.ntmps7
    (go_wp2_with fail); (go_at_call 18); (refine (hI.out _ _ _ b0 b1 b2).mono ?_); rintro e w1 ⟨rfl, hk1⟩
    have d0 := hk1.cell b0
    have d1 := hk1.cell b1
    have d2 := hk1.cell b2
    (go_wp2_with fail); (go_at_call 19); (refine (hT.out _ _ _ d0 d1 d2).mono ?_); rintro e w2 ⟨rfl, hk2⟩
    go_wp2
    go_ret; exact ⟨rfl, (by ((repeat (first | (with_reducible assumption) | ((with_reducible refine Keep.setCell ?_ ?_ _); rotate_left; focus (first | omega | (simp; done) | (simp; omega))) | (with_reducible refine Keep.alloc ?_ _) | (with_reducible refine Keep.drewN ?_ _) | (with_reducible refine Keep.drew ?_) | (with_reducible exact Keep.refl _) | refine Keep.trans ?_ (by with_reducible assumption) | exact Keep.refl _ | assumption))))⟩
theorem laws_FnExactCardText (s : ByteArray) (a b : Wd) (w : World) (hw : s.size ≤ 9223372036854775807) :
    Calls Tryd.prog 3 #[.agg #[.string s, .int .u64 (U a), .int .u64 (U b)]] w fun e w' => e = .returned (.bool true) ∧ Keep w w' := by
  have hB := (Bx.new w #[.string s, .int .u64 (U a), .int .u64 (U b)] 25)
  have hI := Aside.mk (fun W => impl_CardText s a b W hw)
  have hJ := Aside.mk (fun W => spec_CardText s a b W hw)
  generalize ctX s a b = r at *
  by_cases hn : s.size ≤ 1048576
  · have e1 : szN 1048576 s.size = 1048576 - s.size := by unfold szN; rw [if_neg (by omega)]
    go_enter Tryd.func3, Tryd.ntmps3
    (go_wp2_with fail); (go_at_call 6); (refine (laws_szCard _ _ _ 1048576 _ (by decide) hw).mono ?_); rintro e w1 ⟨rfl, hk1⟩
    rw [e1]
    obtain ⟨hk1c, hk1f⟩ := hk1.cells; have hk1z0 : w.heap.size < w1.heap.size := (by have := hk1.size; (try simp at this); omega)
    (go_wp2_with fail); (go_at_call 8); (refine (laws_toCard _ _ _ _).mono ?_); rintro e w2 ⟨rfl, hk2⟩
    obtain ⟨hk2c, hk2f⟩ := hk2.cells; have hk2z0 : w.heap.size < w2.heap.size := (by have := hk2.size; (try simp at this); omega)
    (go_wp2_with fail); (go_at_call 7); (refine (hJ.out _).mono ?_); rintro e w3 ⟨rfl, hk3⟩
    obtain ⟨hk3c, hk3f⟩ := hk3.cells; have hk3z0 : w.heap.size < w3.heap.size := (by have := hk3.size; (try simp at this); omega)
    (go_wp2_with fail); (go_at_call 8); (refine (laws_toCard _ _ _ _).mono ?_); rintro e w4 ⟨rfl, hk4⟩
    obtain ⟨hk4c, hk4f⟩ := hk4.cells; have hk4z0 : w.heap.size < w4.heap.size := (by have := hk4.size; (try simp at this); omega)
    (go_wp2_with fail); (go_at_call 9); (refine (hI.out _).mono ?_); rintro e w5 ⟨rfl, hk5⟩
    go_wp2
    go_ret; exact ⟨rfl, (by ((repeat (first | (with_reducible assumption) | ((with_reducible refine Keep.setCell ?_ ?_ _); rotate_left; focus (first | omega | (simp; done) | (simp; omega))) | (with_reducible refine Keep.alloc ?_ _) | (with_reducible refine Keep.drewN ?_ _) | (with_reducible refine Keep.drew ?_) | (with_reducible exact Keep.refl _) | refine Keep.trans ?_ (by with_reducible assumption) | exact Keep.refl _ | assumption))))⟩
  · have e1 : szN 1048576 s.size = -1 := by unfold szN; rw [if_pos (by omega)]
    go_enter Tryd.func3, Tryd.ntmps3
    (go_wp2_with fail); (go_at_call 6); (refine (laws_szCard _ _ _ 1048576 _ (by decide) hw).mono ?_); rintro e w1 ⟨rfl, hk1⟩
    rw [e1]
    go_wp2
    go_ret; exact ⟨rfl, (by ((repeat (first | (with_reducible assumption) | ((with_reducible refine Keep.setCell ?_ ?_ _); rotate_left; focus (first | omega | (simp; done) | (simp; omega))) | (with_reducible refine Keep.alloc ?_ _) | (with_reducible refine Keep.drewN ?_ _) | (with_reducible refine Keep.drew ?_) | (with_reducible exact Keep.refl _) | refine Keep.trans ?_ (by with_reducible assumption) | exact Keep.refl _ | assumption))))⟩
end Go.Proofs.YtagldpbmadfokaaDoor

/- Small walks: bytes, numbers in lists. -/
import Derived.Test.YtpmilcfppcmodaaDoorGZ
import Derived.Test.YtpmilcfppcmodaaDoorS2
set_option linter.unusedVariables false
set_option linter.unusedSimpArgs false
namespace Go.Proofs.YtpmilcfppcmodaaDoor
open Go.RowKit
set_option maxHeartbeats 1000000
set_option maxRecDepth 20000
theorem any_takeI {α : Type} {l : List α} {q : α → Bool} {i : Nat} (h : i < l.length) : (l.take (i + 1)).any q = ((l.take i).any q || q l[i]) := by
  rw [List.take_succ_eq_append_getElem h, List.any_append]; simp
theorem any_ofI {α : Type} {l : List α} {q : α → Bool} {i : Nat} (h : i < l.length) (hb : q l[i] = true) : l.any q = true := by
  rw [List.any_eq_true]; exact ⟨l[i], List.getElem_mem h, hb⟩
theorem takeI_eq {l m : List Int} {i : Nat} (h1 : i < l.length) (h2 : i < m.length) (h : l.take i = m.take i) : (l.take (i + 1) = m.take (i + 1) ↔ l[i] = m[i]) := by
  rw [List.take_succ_eq_append_getElem h1, List.take_succ_eq_append_getElem h2, h, List.append_cancel_left_eq]; simp
theorem neI_at {l m : List Int} {i : Nat} (h1 : i < l.length) (h2 : i < m.length) (h : l[i] ≠ m[i]) : decide (l = m) = false := by
  apply decide_eq_false
  rintro rfl
  exact h rfl
theorem laws_a2Long (A B : Option Addr) (n m c d : Nat) (w : World) :
    Calls Tryd.prog 15 #[.slice A n c, .slice B m d] w fun e w' => e = .returned (.bool (decide (3000 < n) || decide (3000 < m))) ∧ Keep w w' := by
  by_cases h1 : 3000 < n
  · go_enter Tryd.func15, Tryd.ntmps15
    go_wp2
    go_ret; exact ⟨rb (by simp [h1]), (by ((repeat (first | (with_reducible assumption) | ((with_reducible refine Keep.setCell ?_ ?_ _); rotate_left; focus (first | omega | (simp; done) | (simp; omega))) | (with_reducible refine Keep.alloc ?_ _) | (with_reducible refine Keep.drewN ?_ _) | (with_reducible refine Keep.drew ?_) | (with_reducible exact Keep.refl _) | refine Keep.trans ?_ (by with_reducible assumption) | exact Keep.refl _ | assumption))))⟩
  · by_cases h2 : 3000 < m
    · go_enter Tryd.func15, Tryd.ntmps15
      go_wp2
      go_ret; exact ⟨rb (by simp [h1, h2]; omega), (by ((repeat (first | (with_reducible assumption) | ((with_reducible refine Keep.setCell ?_ ?_ _); rotate_left; focus (first | omega | (simp; done) | (simp; omega))) | (with_reducible refine Keep.alloc ?_ _) | (with_reducible refine Keep.drewN ?_ _) | (with_reducible refine Keep.drew ?_) | (with_reducible exact Keep.refl _) | refine Keep.trans ?_ (by with_reducible assumption) | exact Keep.refl _ | assumption))))⟩
    · go_enter Tryd.func15, Tryd.ntmps15
      go_wp2
      go_ret; exact ⟨rb (by simp [h1, h2]; omega), (by ((repeat (first | (with_reducible assumption) | ((with_reducible refine Keep.setCell ?_ ?_ _); rotate_left; focus (first | omega | (simp; done) | (simp; omega))) | (with_reducible refine Keep.alloc ?_ _) | (with_reducible refine Keep.drewN ?_ _) | (with_reducible refine Keep.drew ?_) | (with_reducible exact Keep.refl _) | refine Keep.trans ?_ (by with_reducible assumption) | exact Keep.refl _ | assumption))))⟩
theorem spec_l00Same (A B : Option Addr) (l m : List Int) (c d : Nat) (w : World) (hl : l.length ≤ 9223372036854775807) (hm : m.length ≤ 9223372036854775807) (hR : Rd w A (ints l)) (hS : Rd w B (ints m)) :
    Calls Tryd.prog 83 #[.slice A l.length c, .slice B m.length d] w fun e w' => e = .returned (.bool (decide (l = m))) ∧ Keep w w' := by
  by_cases hne : l.length = m.length
  · have HN := Aside.mk hne
    have hne' : (l.length : Int) = m.length := by omega
    clear hne
    go_enter Tryd.func83, Tryd.ntmps83
    go_wp2_with fail
    go_loopg [5] l.length (fun k s5 wr => ∃ i : Nat, i + k = l.length ∧ s5 = .int .i64 i ∧ l.take i = m.take i ∧ Keep w wr)
    case atStart => exact ⟨0, by omega, rfl, rfl, (by ((repeat (first | (with_reducible assumption) | ((with_reducible refine Keep.setCell ?_ ?_ _); rotate_left; focus (first | omega | (simp; done) | (simp; omega))) | (with_reducible refine Keep.alloc ?_ _) | (with_reducible refine Keep.drewN ?_ _) | (with_reducible refine Keep.drew ?_) | (with_reducible exact Keep.refl _) | refine Keep.trans ?_ (by with_reducible assumption) | exact Keep.refl _ | assumption))))⟩
    case round =>
      obtain ⟨i, hi, rfl, htk, hk0⟩ := hrel
      have HT := Aside.mk htk
      clear htk
      by_cases hlt : i < l.length
      · have hlt2 : i < m.length := by have := HN.out; omega
        obtain ⟨bb, o, rfl, hc⟩ := (hR.keep hk0).at (k := i) (by rw [ints_len]; omega)
        obtain ⟨b2, o2, rfl, hc2⟩ := (hS.keep hk0).at (k := i) (by rw [ints_len]; omega)
        have p1 := hc _ _ (ints_at l i hlt)
        have q1 := hc2 _ _ (ints_at m i hlt2)
        have HQ := Aside.mk (fun h => neI_at hlt hlt2 h)
        have HE := Aside.mk (takeI_eq hlt hlt2 HT.out)
        clear hc hc2
        generalize l[i] = x at *
        generalize m[i] = y at *
        go_wp2_with fail
        refine wp_region_keep (by kernel_rfl) (by kernel_rfl) ?_
        repeat
          first
            | (apply QuietL.run
               focus go_simp
               focus
                 intro w2 hk
                 have p1' := hk.cell p1
                 have q1' := hk.cell q1
                 apply QAt.mk
                 go_simp
                 first
                   | done
                   | exact rfl
               simp only [Act.put, List.setIfInBounds_toArray, List.set_cons_succ, List.set_cons_zero])
            | (apply QuietL.skip
               focus go_simp
               simp only [Act.put, List.setIfInBounds_toArray, List.set_cons_succ, List.set_cons_zero])
        apply QuietL.nil
        intro w2 hk
        have p1' := hk.cell p1
        have q1' := hk.cell q1
        have k2 : Keep w w2 := Keep.trans hk0 hk
        by_cases hxy : x = y
        · have HE2 := Aside.mk (HE.out.2 hxy)
          subst hxy
          clear p1 q1 p1' q1' hk hk0
          go_wp2
          go_roundg (l.length - (i + 1))
          case measure => omega
          case rel => exact ⟨i + 1, by omega, by go_num, HE2.out, (by ((repeat (first | (with_reducible assumption) | ((with_reducible refine Keep.setCell ?_ ?_ _); rotate_left; focus (first | omega | (simp; done) | (simp; omega))) | (with_reducible refine Keep.alloc ?_ _) | (with_reducible refine Keep.drewN ?_ _) | (with_reducible refine Keep.drew ?_) | (with_reducible exact Keep.refl _) | refine Keep.trans ?_ (by with_reducible assumption) | exact Keep.refl _ | assumption))))⟩
        · have HF := Aside.mk (HQ.out hxy)
          clear p1 q1 p1' q1' hk hk0
          go_wp2
          go_ret; exact ⟨rb HF.out.symm, (by ((repeat (first | (with_reducible assumption) | ((with_reducible refine Keep.setCell ?_ ?_ _); rotate_left; focus (first | omega | (simp; done) | (simp; omega))) | (with_reducible refine Keep.alloc ?_ _) | (with_reducible refine Keep.drewN ?_ _) | (with_reducible refine Keep.drew ?_) | (with_reducible exact Keep.refl _) | refine Keep.trans ?_ (by with_reducible assumption) | exact Keep.refl _ | assumption))))⟩
      · have e2 : i = l.length := by omega
        subst e2
        have hal : l = m := by have := HT.out; rwa [List.take_length, HN.out, List.take_length] at this
        have HA := Aside.mk (decide_eq_true hal)
        clear hal
        go_wp2
        go_ret; exact ⟨rb HA.out.symm, (by ((repeat (first | (with_reducible assumption) | ((with_reducible refine Keep.setCell ?_ ?_ _); rotate_left; focus (first | omega | (simp; done) | (simp; omega))) | (with_reducible refine Keep.alloc ?_ _) | (with_reducible refine Keep.drewN ?_ _) | (with_reducible refine Keep.drew ?_) | (with_reducible exact Keep.refl _) | refine Keep.trans ?_ (by with_reducible assumption) | exact Keep.refl _ | assumption))))⟩
  · have e : decide (l = m) = false := decide_eq_false (fun h => hne (by rw [h]))
    rw [e]
    go_enter Tryd.func83, Tryd.ntmps83
    go_wp2
    go_ret; exact ⟨rfl, (by ((repeat (first | (with_reducible assumption) | ((with_reducible refine Keep.setCell ?_ ?_ _); rotate_left; focus (first | omega | (simp; done) | (simp; omega))) | (with_reducible refine Keep.alloc ?_ _) | (with_reducible refine Keep.drewN ?_ _) | (with_reducible refine Keep.drew ?_) | (with_reducible exact Keep.refl _) | refine Keep.trans ?_ (by with_reducible assumption) | exact Keep.refl _ | assumption))))⟩
theorem spec_A2Same (A B : Option Addr) (l m : List Int) (c d : Nat) (w : World) (hl : l.length ≤ 9223372036854775807) (hm : m.length ≤ 9223372036854775807) (hR : Rd w A (ints l)) (hS : Rd w B (ints m)) :
    Calls Tryd.prog 24 #[.slice A l.length c, .slice B m.length d] w fun e w' => e = .returned (.bool (decide (l = m))) ∧ Keep w w' := by
  have h := spec_l00Same A B l m c d w hl hm hR hS
  generalize decide (l = m) = r at *
  go_enter Tryd.func24, Tryd.ntmps24
  (go_wp2_with fail); (go_at_call 83); (refine (h).mono ?_); rintro e w1 ⟨rfl, hk1⟩
  go_wp2
  go_ret; exact ⟨rfl, (by ((repeat (first | (with_reducible assumption) | ((with_reducible refine Keep.setCell ?_ ?_ _); rotate_left; focus (first | omega | (simp; done) | (simp; omega))) | (with_reducible refine Keep.alloc ?_ _) | (with_reducible refine Keep.drewN ?_ _) | (with_reducible refine Keep.drew ?_) | (with_reducible exact Keep.refl _) | refine Keep.trans ?_ (by with_reducible assumption) | exact Keep.refl _ | assumption))))⟩
end Go.Proofs.YtpmilcfppcmodaaDoor

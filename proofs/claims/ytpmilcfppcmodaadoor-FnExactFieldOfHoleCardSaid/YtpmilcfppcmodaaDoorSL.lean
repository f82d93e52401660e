/- The sizes of fields in a row; the laws of schemes. -/
import Derived.Test.YtpmilcfppcmodaaDoorFO
import Derived.Test.YtpmilcfppcmodaaDoorOW
set_option linter.unusedVariables false
set_option linter.unusedSimpArgs false
namespace Go.Proofs.YtpmilcfppcmodaaDoor
open Go.RowKit
set_option maxHeartbeats 1000000
set_option maxRecDepth 20000
theorem field_sz (s : ByteArray) (k st sz : Int) (left : Int) (w : World) (hl : 0 ≤ left ∧ left ≤ 1048576) (hs : s.size ≤ 9223372036854775807) :
    Calls Tryd.prog 59 #[.agg #[.string s, .int .i8 k, .int .i16 st, .int .i16 sz], .int .i64 left] w fun e w' => e = .returned (.int .i64 (if left < s.size then -1 else left - s.size)) ∧ Keep w w' := by
  obtain ⟨l0, l1⟩ := hl
  by_cases h : left < s.size
  · rw [if_pos h]
    have h' : left - s.size < 0 := by omega
    go_enter Tryd.func59, Tryd.ntmps59
    go_wp2
    go_ret; exact ⟨rfl, (by ((repeat (first | (with_reducible assumption) | ((with_reducible refine Keep.setCell ?_ ?_ _); rotate_left; focus (first | omega | (simp; done) | (simp; omega))) | (with_reducible refine Keep.alloc ?_ _) | (with_reducible refine Keep.drewN ?_ _) | (with_reducible refine Keep.drew ?_) | (with_reducible exact Keep.refl _) | refine Keep.trans ?_ (by with_reducible assumption) | exact Keep.refl _ | assumption))))⟩
  · rw [if_neg h]
    have h' : ¬ left - s.size < 0 := by omega
    go_enter Tryd.func59, Tryd.ntmps59
    go_wp2
    go_ret; exact ⟨rfl, (by ((repeat (first | (with_reducible assumption) | ((with_reducible refine Keep.setCell ?_ ?_ _); rotate_left; focus (first | omega | (simp; done) | (simp; omega))) | (with_reducible refine Keep.alloc ?_ _) | (with_reducible refine Keep.drewN ?_ _) | (with_reducible refine Keep.drew ?_) | (with_reducible exact Keep.refl _) | refine Keep.trans ?_ (by with_reducible assumption) | exact Keep.refl _ | assumption))))⟩
def fSum : List Fd → Nat
  | [] => 0
  | x :: l => x.s.size + fSum l
theorem fSum_app (l m : List Fd) : fSum (l ++ m) = fSum l + fSum m := by
  induction l with
  | nil => simp [fSum]
  | cons x l ih => simp [fSum, ih]; omega
theorem fSum_take {l : List Fd} {i : Nat} (h : i < l.length) : fSum (l.take (i + 1)) = fSum (l.take i) + l[i].s.size := by
  rw [List.take_succ_eq_append_getElem h, fSum_app]; simp [fSum]
theorem fSum_le (l : List Fd) (i : Nat) : fSum (l.take i) ≤ fSum l := by
  have := fSum_app (l.take i) (l.drop i)
  rw [List.take_append_drop] at this
  omega
/-- What is left behind a list of words. -/
def szE (left : Int) (l : List Fd) : Int := if left < (l.length + fSum l : Nat) then -1 else left - (l.length + fSum l : Nat)
theorem szE_gt {left : Int} {l : List Fd} (h : left < (l.length + fSum l : Nat)) : szE left l = -1 := by unfold szE; rw [if_pos h]
theorem szE_le {left : Int} {l : List Fd} (h : ¬ left < (l.length + fSum l : Nat)) : szE left l = left - (l.length + fSum l : Nat) := by unfold szE; rw [if_neg h]
theorem laws_szFieldS (A : Option Addr) (l : List Fd) (c : Nat) (left : Int) (w : World) (h0 : 0 ≤ left ∧ left ≤ 1048576) (hm : l.length ≤ 9223372036854775807) (hz : FdW l) (hR : Rd w A (fds l)) :
    Calls Tryd.prog 33 #[.slice A l.length c, .int .i64 left] w fun e w' => e = .returned (.int .i64 (szE left l)) ∧ Keep w w' := by
  by_cases hn : (l.length : Int) ≤ left
  · go_enter Tryd.func33, Tryd.ntmps33
    have e0 : IntKind.i64.wrap (left - l.length) = left - l.length := wrapI64 ⟨by omega, by omega⟩
    go_wp2_with fail
    go_loopg [1, 5] l.length (fun k s1 s5 wr => ∃ i : Nat, i + k = l.length ∧ s5 = .int .i64 i ∧ s1 = .int .i64 (left - l.length - fSum (l.take i)) ∧ (fSum (l.take i) : Int) ≤ left - l.length ∧ Keep w wr)
    case atStart => exact ⟨0, by omega, rfl, by simp [fSum], by simp [fSum]; omega, (by ((repeat (first | (with_reducible assumption) | ((with_reducible refine Keep.setCell ?_ ?_ _); rotate_left; focus (first | omega | (simp; done) | (simp; omega))) | (with_reducible refine Keep.alloc ?_ _) | (with_reducible refine Keep.drewN ?_ _) | (with_reducible refine Keep.drew ?_) | (with_reducible exact Keep.refl _) | refine Keep.trans ?_ (by with_reducible assumption) | exact Keep.refl _ | assumption))))⟩
    case round =>
      obtain ⟨i, hi, rfl, rfl, hle, hk⟩ := hrel
      by_cases hlt : i < l.length
      · obtain ⟨bb, o, rfl, hc⟩ := (hR.keep hk).at (k := i) (by rw [fds_len]; omega)
        have hcell := hc _ _ (fds_at l i hlt).1
        have hcell2 := hc _ _ (fds_at l i hlt).2.1
        have hcell3 := hc _ _ (fds_at l i hlt).2.2.1
        have hcell4 := hc _ _ (fds_at l i hlt).2.2.2
        rw [← Nat.add_assoc] at hcell2 hcell3 hcell4
        have hzs := (hz l[i] (List.getElem_mem hlt)).1
        have hT := fSum_take hlt
        have hT2 := fSum_le l (i + 1)
        obtain ⟨y, hy⟩ : ∃ y, fSum (l.take (i + 1)) = y := ⟨_, rfl⟩
        rw [hy] at hT hT2
        have HY := Aside.mk hy
        clear hc hy
        generalize l[i].s = x at *
        generalize l[i].k = xk at *
        generalize l[i].st = xt at *
        generalize l[i].sz = xz at *
        generalize fSum (l.take i) = v at *
        have hcl := fun W => field_sz x xk xt xz (left - l.length - v) W ⟨by omega, by omega⟩ hzs
        by_cases hneg : left - l.length - v < x.size
        · have e2 : szE left l = -1 := szE_gt (by omega)
          have HE := Aside.mk e2
          rw [if_pos hneg] at hcl
          clear e2 hT hT2
          (go_wp2_with fail); (go_at_call 59); (refine (hcl _).mono ?_); rintro e w2 ⟨rfl, hk2⟩
          go_wp2
          go_ret; exact ⟨by rw [HE.out]; rfl, (by ((repeat (first | (with_reducible assumption) | ((with_reducible refine Keep.setCell ?_ ?_ _); rotate_left; focus (first | omega | (simp; done) | (simp; omega))) | (with_reducible refine Keep.alloc ?_ _) | (with_reducible refine Keep.drewN ?_ _) | (with_reducible refine Keep.drew ?_) | (with_reducible exact Keep.refl _) | refine Keep.trans ?_ (by with_reducible assumption) | exact Keep.refl _ | assumption))))⟩
        · rw [if_neg hneg] at hcl
          clear hT2
          have hnn : ¬ (left - l.length - v - x.size < 0) := by omega
          (go_wp2_with fail); (go_at_call 59); (refine (hcl _).mono ?_); rintro e w2 ⟨rfl, hk2⟩
          go_wp2
          go_roundg (l.length - (i + 1))
          case measure => omega
          case rel => exact ⟨i + 1, by omega, by go_num, by rw [HY.out, hT]; go_num, by rw [HY.out]; omega, (by ((repeat (first | (with_reducible assumption) | ((with_reducible refine Keep.setCell ?_ ?_ _); rotate_left; focus (first | omega | (simp; done) | (simp; omega))) | (with_reducible refine Keep.alloc ?_ _) | (with_reducible refine Keep.drewN ?_ _) | (with_reducible refine Keep.drew ?_) | (with_reducible exact Keep.refl _) | refine Keep.trans ?_ (by with_reducible assumption) | exact Keep.refl _ | assumption))))⟩
      · have e2 : i = l.length := by omega
        subst e2
        rw [List.take_length] at *
        have e2 : szE left l = left - l.length - fSum l := by rw [szE_le (by omega)]; omega
        have HE := Aside.mk e2
        clear e2
        go_wp2
        go_ret; exact ⟨by rw [HE.out]; rfl, (by ((repeat (first | (with_reducible assumption) | ((with_reducible refine Keep.setCell ?_ ?_ _); rotate_left; focus (first | omega | (simp; done) | (simp; omega))) | (with_reducible refine Keep.alloc ?_ _) | (with_reducible refine Keep.drewN ?_ _) | (with_reducible refine Keep.drew ?_) | (with_reducible exact Keep.refl _) | refine Keep.trans ?_ (by with_reducible assumption) | exact Keep.refl _ | assumption))))⟩
  · have e2 : szE left l = -1 := szE_gt (by omega)
    rw [e2]
    have e0 : IntKind.i64.wrap (left - l.length) = left - l.length := wrapI64 ⟨by omega, by omega⟩
    go_enter Tryd.func33, Tryd.ntmps33
    go_wp2
    go_ret; exact ⟨rfl, (by ((repeat (first | (with_reducible assumption) | ((with_reducible refine Keep.setCell ?_ ?_ _); rotate_left; focus (first | omega | (simp; done) | (simp; omega))) | (with_reducible refine Keep.alloc ?_ _) | (with_reducible refine Keep.drewN ?_ _) | (with_reducible refine Keep.drew ?_) | (with_reducible exact Keep.refl _) | refine Keep.trans ?_ (by with_reducible assumption) | exact Keep.refl _ | assumption))))⟩
theorem impl_ValidScheme (A : Option Addr) (l : List Fd) (c : Nat) (w : World) (hm : l.length ≤ 9223372036854775807) (hcp : l.length ≤ c) (hz : FdW l) (hR : Rd w A (fds l)) :
    Calls Tryd.prog 36 #[.slice A l.length c] w fun e w' => e = .returned (.bool (schB l)) ∧ Keep w w' := by
  have h := impl_isScheme A l c w hm hcp hz hR
  generalize schB l = r at *
  go_enter Tryd.func36, Tryd.ntmps36
  (go_wp2_with fail); (go_at_call 91); (refine (h).mono ?_); rintro e w1 ⟨rfl, hk1⟩
  go_wp2
  go_ret; exact ⟨rfl, (by ((repeat (first | (with_reducible assumption) | ((with_reducible refine Keep.setCell ?_ ?_ _); rotate_left; focus (first | omega | (simp; done) | (simp; omega))) | (with_reducible refine Keep.alloc ?_ _) | (with_reducible refine Keep.drewN ?_ _) | (with_reducible refine Keep.drew ?_) | (with_reducible exact Keep.refl _) | refine Keep.trans ?_ (by with_reducible assumption) | exact Keep.refl _ | assumption))))⟩
theorem spec_ValidScheme (A : Option Addr) (l : List Fd) (c : Nat) (w : World) (hm : l.length ≤ 9223372036854775807) (hcp : l.length ≤ c) (hz : FdW l) (hR : Rd w A (fds l)) :
    Calls Tryd.prog 34 #[.slice A l.length c] w fun e w' => e = .returned (.bool (schB l)) ∧ Keep w w' := by
  have h := spec_l01Scheme A l c w hm hz hR
  generalize schB l = r at *
  go_enter Tryd.func34, Tryd.ntmps34
  (go_wp2_with fail); (go_at_call 90); (refine (h).mono ?_); rintro e w1 ⟨rfl, hk1⟩
  go_wp2
  go_ret; exact ⟨rfl, (by ((repeat (first | (with_reducible assumption) | ((with_reducible refine Keep.setCell ?_ ?_ _); rotate_left; focus (first | omega | (simp; done) | (simp; omega))) | (with_reducible refine Keep.alloc ?_ _) | (with_reducible refine Keep.drewN ?_ _) | (with_reducible refine Keep.drew ?_) | (with_reducible exact Keep.refl _) | refine Keep.trans ?_ (by with_reducible assumption) | exact Keep.refl _ | assumption))))⟩
theorem laws_FnExactValidScheme (A : Option Addr) (l : List Fd) (c : Nat) (w : World) (hl : l.length ≤ 9223372036854775807 ∧ FdW l ∧ Rd w A (fds l)) :
    Calls Tryd.prog 6 #[.slice A l.length c] w fun e w' => e = .returned (.bool true) ∧ Keep w w' := by
  obtain ⟨hl1, hlz, hR⟩ := hl
  by_cases hn : (1048576 : Int) < (l.length + fSum l : Nat)
  · have e1 := szE_gt hn
    go_enter Tryd.func6, Tryd.ntmps6
    (go_wp2_with fail); (go_at_call 33); (refine (laws_szFieldS _ _ _ 1048576 _ (by decide) hl1 hlz hR).mono ?_); rintro e w1 ⟨rfl, hk1⟩
    rw [e1]
    go_wp2
    go_ret; exact ⟨rfl, (by ((repeat (first | (with_reducible assumption) | ((with_reducible refine Keep.setCell ?_ ?_ _); rotate_left; focus (first | omega | (simp; done) | (simp; omega))) | (with_reducible refine Keep.alloc ?_ _) | (with_reducible refine Keep.drewN ?_ _) | (with_reducible refine Keep.drew ?_) | (with_reducible exact Keep.refl _) | refine Keep.trans ?_ (by with_reducible assumption) | exact Keep.refl _ | assumption))))⟩
  · obtain ⟨left, hleft⟩ : ∃ x, szE 1048576 l = x := ⟨_, rfl⟩
    have e1 : left = 1048576 - (l.length + fSum l : Nat) := by rw [← hleft]; exact szE_le hn
    have hl0 : ¬ left < 0 := by omega
    have hln : l.length ≤ 1048576 := by omega
    have hI := fun A c W hc h => impl_ValidScheme A l c W hl1 hc hlz h
    have hJ := fun A c W hc h => spec_ValidScheme A l c W hl1 hc hlz h
    generalize schB l = r at *
    clear hn e1
    go_enter Tryd.func6, Tryd.ntmps6
    (go_wp2_with fail); (go_at_call 33); (refine (laws_szFieldS _ _ _ 1048576 _ (by decide) hl1 hlz hR).mono ?_); rintro e w1 ⟨rfl, hW⟩
    rw [hleft]
    clear hleft
    (go_wp2_with fail); (go_at_call 35); (refine (laws_toFieldS _ _ _ _ hln (hR.keep hW)).mono ?_); rintro e w2 ⟨g2, rfl, ho2, hk⟩
    have kk : Keep w1 w2 := (by ((repeat (first | (with_reducible assumption) | ((with_reducible refine Keep.setCell ?_ ?_ _); rotate_left; focus (first | omega | (simp; done) | (simp; omega))) | (with_reducible refine Keep.alloc ?_ _) | (with_reducible refine Keep.drewN ?_ _) | (with_reducible refine Keep.drew ?_) | (with_reducible exact Keep.refl _) | refine Keep.trans ?_ (by with_reducible assumption) | exact Keep.refl _ | assumption))))
    replace hW := hW.trans kk
    clear hk kk
    (go_wp2_with fail); (go_at_call 34); (refine (hJ _ _ _ (Nat.le_refl _) (own_rdf ho2)).mono ?_); rintro e w3 ⟨rfl, hk⟩
    have kk : Keep w2 w3 := (by ((repeat (first | (with_reducible assumption) | ((with_reducible refine Keep.setCell ?_ ?_ _); rotate_left; focus (first | omega | (simp; done) | (simp; omega))) | (with_reducible refine Keep.alloc ?_ _) | (with_reducible refine Keep.drewN ?_ _) | (with_reducible refine Keep.drew ?_) | (with_reducible exact Keep.refl _) | refine Keep.trans ?_ (by with_reducible assumption) | exact Keep.refl _ | assumption))))
    replace hW := hW.trans kk
    clear hk kk
    clear ho2
    (go_wp2_with fail); (go_at_call 35); (refine (laws_toFieldS _ _ _ _ hln (hR.keep hW)).mono ?_); rintro e w4 ⟨g4, rfl, ho4, hk⟩
    have kk : Keep w3 w4 := (by ((repeat (first | (with_reducible assumption) | ((with_reducible refine Keep.setCell ?_ ?_ _); rotate_left; focus (first | omega | (simp; done) | (simp; omega))) | (with_reducible refine Keep.alloc ?_ _) | (with_reducible refine Keep.drewN ?_ _) | (with_reducible refine Keep.drew ?_) | (with_reducible exact Keep.refl _) | refine Keep.trans ?_ (by with_reducible assumption) | exact Keep.refl _ | assumption))))
    replace hW := hW.trans kk
    clear hk kk
    have h4 := Own.new ho4
    clear ho4
    (go_wp2_with fail); (go_at_call 36); (refine (hI _ _ _ (Nat.le_refl _) h4.rd).mono ?_); rintro e w5 ⟨rfl, hk⟩
    have kk : Keep w4 w5 := (by ((repeat (first | (with_reducible assumption) | ((with_reducible refine Keep.setCell ?_ ?_ _); rotate_left; focus (first | omega | (simp; done) | (simp; omega))) | (with_reducible refine Keep.alloc ?_ _) | (with_reducible refine Keep.drewN ?_ _) | (with_reducible refine Keep.drew ?_) | (with_reducible exact Keep.refl _) | refine Keep.trans ?_ (by with_reducible assumption) | exact Keep.refl _ | assumption))))
    replace h4 := h4.keep kk
    replace hW := hW.trans kk
    clear hk kk
    (go_wp2_with fail); (go_at_call 35); (refine (laws_toFieldS _ _ _ _ hln (hR.keep hW)).mono ?_); rintro e w6 ⟨g6, rfl, ho6, hk⟩
    have kk : Keep w5 w6 := (by ((repeat (first | (with_reducible assumption) | ((with_reducible refine Keep.setCell ?_ ?_ _); rotate_left; focus (first | omega | (simp; done) | (simp; omega))) | (with_reducible refine Keep.alloc ?_ _) | (with_reducible refine Keep.drewN ?_ _) | (with_reducible refine Keep.drew ?_) | (with_reducible exact Keep.refl _) | refine Keep.trans ?_ (by with_reducible assumption) | exact Keep.refl _ | assumption))))
    replace h4 := h4.keep kk
    replace hW := hW.trans kk
    clear hk kk
    (go_wp2_with fail); (go_at_call 37); (refine (laws_eqFieldS _ _ _ _ _ _ hln h4.rd (own_rdf ho6)).mono ?_); rintro e w7 ⟨rfl, hk⟩
    have kk : Keep w6 w7 := (by ((repeat (first | (with_reducible assumption) | ((with_reducible refine Keep.setCell ?_ ?_ _); rotate_left; focus (first | omega | (simp; done) | (simp; omega))) | (with_reducible refine Keep.alloc ?_ _) | (with_reducible refine Keep.drewN ?_ _) | (with_reducible refine Keep.drew ?_) | (with_reducible exact Keep.refl _) | refine Keep.trans ?_ (by with_reducible assumption) | exact Keep.refl _ | assumption))))
    replace hW := hW.trans kk
    clear hk kk
    clear ho6 h4
    go_wp2
    go_ret; exact ⟨rfl, (by ((repeat (first | (with_reducible assumption) | ((with_reducible refine Keep.setCell ?_ ?_ _); rotate_left; focus (first | omega | (simp; done) | (simp; omega))) | (with_reducible refine Keep.alloc ?_ _) | (with_reducible refine Keep.drewN ?_ _) | (with_reducible refine Keep.drew ?_) | (with_reducible exact Keep.refl _) | refine Keep.trans ?_ (by with_reducible assumption) | exact Keep.refl _ | assumption))))⟩
theorem laws_FnExactFieldOfHole (A : Option Addr) (l : List Fd) (c : Nat) (h : Int) (w : World) (hl : l.length ≤ 9223372036854775807 ∧ FdW l ∧ Rd w A (fds l)) (hh : (Lit.int .i64 h).wf = true) :
    Calls Tryd.prog 9 #[.slice A l.length c, .int .i64 h] w fun e w' => e = .returned (.bool true) ∧ Keep w w' := by
  obtain ⟨hl1, hlz, hR⟩ := hl
  by_cases hn : (1048576 : Int) < (l.length + fSum l : Nat)
  · have e1 := szE_gt hn
    go_enter Tryd.func9, Tryd.ntmps9
    (go_wp2_with fail); (go_at_call 33); (refine (laws_szFieldS _ _ _ 1048576 _ (by decide) hl1 hlz hR).mono ?_); rintro e w1 ⟨rfl, hk1⟩
    rw [e1]
    go_wp2
    go_ret; exact ⟨rfl, (by ((repeat (first | (with_reducible assumption) | ((with_reducible refine Keep.setCell ?_ ?_ _); rotate_left; focus (first | omega | (simp; done) | (simp; omega))) | (with_reducible refine Keep.alloc ?_ _) | (with_reducible refine Keep.drewN ?_ _) | (with_reducible refine Keep.drew ?_) | (with_reducible exact Keep.refl _) | refine Keep.trans ?_ (by with_reducible assumption) | exact Keep.refl _ | assumption))))⟩
  · obtain ⟨left, hleft⟩ : ∃ x, szE 1048576 l = x := ⟨_, rfl⟩
    have e1 : left = 1048576 - (l.length + fSum l : Nat) := by rw [← hleft]; exact szE_le hn
    have hl0 : ¬ left < 0 := by omega
    have hln : l.length ≤ 1048576 := by omega
    have hI := fun A c W hc hr => impl_FieldOfHole A l c h W hl1 hc hlz hr
    have hJ := fun A c W hr => spec_FieldOfHole A l c h W hl1 hlz hr
    generalize foN l h = r at *
    generalize foE l h = r2 at *
    clear hn e1
    go_enter Tryd.func9, Tryd.ntmps9
    (go_wp2_with fail); (go_at_call 33); (refine (laws_szFieldS _ _ _ 1048576 _ (by decide) hl1 hlz hR).mono ?_); rintro e w1 ⟨rfl, hW⟩
    rw [hleft]
    clear hleft
    (go_wp2_with fail); (go_at_call 35); (refine (laws_toFieldS _ _ _ _ hln (hR.keep hW)).mono ?_); rintro e w2 ⟨g2, rfl, ho2, hk⟩
    have kk : Keep w1 w2 := (by ((repeat (first | (with_reducible assumption) | ((with_reducible refine Keep.setCell ?_ ?_ _); rotate_left; focus (first | omega | (simp; done) | (simp; omega))) | (with_reducible refine Keep.alloc ?_ _) | (with_reducible refine Keep.drewN ?_ _) | (with_reducible refine Keep.drew ?_) | (with_reducible exact Keep.refl _) | refine Keep.trans ?_ (by with_reducible assumption) | exact Keep.refl _ | assumption))))
    replace hW := hW.trans kk
    clear hk kk
    (go_wp2_with fail); (go_at_call 44); (refine (hJ _ _ _ (own_rdf ho2)).mono ?_); rintro e w3 ⟨rfl, hk⟩
    have kk : Keep w2 w3 := (by ((repeat (first | (with_reducible assumption) | ((with_reducible refine Keep.setCell ?_ ?_ _); rotate_left; focus (first | omega | (simp; done) | (simp; omega))) | (with_reducible refine Keep.alloc ?_ _) | (with_reducible refine Keep.drewN ?_ _) | (with_reducible refine Keep.drew ?_) | (with_reducible exact Keep.refl _) | refine Keep.trans ?_ (by with_reducible assumption) | exact Keep.refl _ | assumption))))
    replace hW := hW.trans kk
    clear hk kk
    clear ho2
    (go_wp2_with fail); (go_at_call 35); (refine (laws_toFieldS _ _ _ _ hln (hR.keep hW)).mono ?_); rintro e w4 ⟨g4, rfl, ho4, hk⟩
    have kk : Keep w3 w4 := (by ((repeat (first | (with_reducible assumption) | ((with_reducible refine Keep.setCell ?_ ?_ _); rotate_left; focus (first | omega | (simp; done) | (simp; omega))) | (with_reducible refine Keep.alloc ?_ _) | (with_reducible refine Keep.drewN ?_ _) | (with_reducible refine Keep.drew ?_) | (with_reducible exact Keep.refl _) | refine Keep.trans ?_ (by with_reducible assumption) | exact Keep.refl _ | assumption))))
    replace hW := hW.trans kk
    clear hk kk
    have h4 := Own.new ho4
    clear ho4
    (go_wp2_with fail); (go_at_call 45); (refine (hI _ _ _ (Nat.le_refl _) h4.rd).mono ?_); rintro e w5 ⟨rfl, hk⟩
    have kk : Keep w4 w5 := (by ((repeat (first | (with_reducible assumption) | ((with_reducible refine Keep.setCell ?_ ?_ _); rotate_left; focus (first | omega | (simp; done) | (simp; omega))) | (with_reducible refine Keep.alloc ?_ _) | (with_reducible refine Keep.drewN ?_ _) | (with_reducible refine Keep.drew ?_) | (with_reducible exact Keep.refl _) | refine Keep.trans ?_ (by with_reducible assumption) | exact Keep.refl _ | assumption))))
    replace h4 := h4.keep kk
    replace hW := hW.trans kk
    clear hk kk
    (go_wp2_with fail); (go_at_call 35); (refine (laws_toFieldS _ _ _ _ hln (hR.keep hW)).mono ?_); rintro e w6 ⟨g6, rfl, ho6, hk⟩
    have kk : Keep w5 w6 := (by ((repeat (first | (with_reducible assumption) | ((with_reducible refine Keep.setCell ?_ ?_ _); rotate_left; focus (first | omega | (simp; done) | (simp; omega))) | (with_reducible refine Keep.alloc ?_ _) | (with_reducible refine Keep.drewN ?_ _) | (with_reducible refine Keep.drew ?_) | (with_reducible exact Keep.refl _) | refine Keep.trans ?_ (by with_reducible assumption) | exact Keep.refl _ | assumption))))
    replace h4 := h4.keep kk
    replace hW := hW.trans kk
    clear hk kk
    (go_wp2_with fail); (go_at_call 37); (refine (laws_eqFieldS _ _ _ _ _ _ hln h4.rd (own_rdf ho6)).mono ?_); rintro e w7 ⟨rfl, hk⟩
    have kk : Keep w6 w7 := (by ((repeat (first | (with_reducible assumption) | ((with_reducible refine Keep.setCell ?_ ?_ _); rotate_left; focus (first | omega | (simp; done) | (simp; omega))) | (with_reducible refine Keep.alloc ?_ _) | (with_reducible refine Keep.drewN ?_ _) | (with_reducible refine Keep.drew ?_) | (with_reducible exact Keep.refl _) | refine Keep.trans ?_ (by with_reducible assumption) | exact Keep.refl _ | assumption))))
    replace hW := hW.trans kk
    clear hk kk
    clear ho6 h4
    go_wp2
    go_ret; exact ⟨rfl, (by ((repeat (first | (with_reducible assumption) | ((with_reducible refine Keep.setCell ?_ ?_ _); rotate_left; focus (first | omega | (simp; done) | (simp; omega))) | (with_reducible refine Keep.alloc ?_ _) | (with_reducible refine Keep.drewN ?_ _) | (with_reducible refine Keep.drew ?_) | (with_reducible exact Keep.refl _) | refine Keep.trans ?_ (by with_reducible assumption) | exact Keep.refl _ | assumption))))⟩
end Go.Proofs.YtpmilcfppcmodaaDoor

/- The sizes of cards in a row. -/
import Derived.Test.YtpmilcfppcmodaaDoorDS
set_option linter.unusedVariables false
set_option linter.unusedSimpArgs false
namespace Go.Proofs.YtpmilcfppcmodaaDoor
open Go.RowKit
set_option maxHeartbeats 1000000
set_option maxRecDepth 20000
/-- All these names are short enough for the machine. -/
def CSz (l : List Cd) : Prop := ∀ x ∈ l, x.s.size ≤ 9223372036854775807
theorem card_sz (s : ByteArray) (a b : Wd) (left : Int) (w : World) (hl : 0 ≤ left ∧ left ≤ 1048576) (hs : s.size ≤ 9223372036854775807) :
    Calls Tryd.prog 86 #[.agg #[.string s, .int .u64 (U a), .int .u64 (U b)], .int .i64 left] w fun e w' => e = .returned (.int .i64 (if left < s.size then -1 else left - s.size)) ∧ Keep w w' := by
  obtain ⟨l0, l1⟩ := hl
  by_cases h : left < s.size
  · rw [if_pos h]
    have h' : left - s.size < 0 := by omega
    go_enter Tryd.func86, Tryd.ntmps86
    go_wp2
    go_ret; exact ⟨rfl, (by ((repeat (first | (with_reducible assumption) | ((with_reducible refine Keep.setCell ?_ ?_ _); rotate_left; focus (first | omega | (simp; done) | (simp; omega))) | (with_reducible refine Keep.alloc ?_ _) | (with_reducible refine Keep.drewN ?_ _) | (with_reducible refine Keep.drew ?_) | (with_reducible exact Keep.refl _) | refine Keep.trans ?_ (by with_reducible assumption) | exact Keep.refl _ | assumption))))⟩
  · rw [if_neg h]
    have h' : ¬ left - s.size < 0 := by omega
    go_enter Tryd.func86, Tryd.ntmps86
    go_wp2
    go_ret; exact ⟨rfl, (by ((repeat (first | (with_reducible assumption) | ((with_reducible refine Keep.setCell ?_ ?_ _); rotate_left; focus (first | omega | (simp; done) | (simp; omega))) | (with_reducible refine Keep.alloc ?_ _) | (with_reducible refine Keep.drewN ?_ _) | (with_reducible refine Keep.drew ?_) | (with_reducible exact Keep.refl _) | refine Keep.trans ?_ (by with_reducible assumption) | exact Keep.refl _ | assumption))))⟩
def cSum : List Cd → Nat
  | [] => 0
  | x :: l => x.s.size + cSum l
theorem cSum_app (l m : List Cd) : cSum (l ++ m) = cSum l + cSum m := by
  induction l with
  | nil => simp [cSum]
  | cons x l ih => simp [cSum, ih]; omega
theorem cSum_take {l : List Cd} {i : Nat} (h : i < l.length) : cSum (l.take (i + 1)) = cSum (l.take i) + l[i].s.size := by
  rw [List.take_succ_eq_append_getElem h, cSum_app]; simp [cSum]
theorem cSum_le (l : List Cd) (i : Nat) : cSum (l.take i) ≤ cSum l := by
  have := cSum_app (l.take i) (l.drop i)
  rw [List.take_append_drop] at this
  omega
/-- What is left behind a list of words. -/
def szD (left : Int) (l : List Cd) : Int := if left < (l.length + cSum l : Nat) then -1 else left - (l.length + cSum l : Nat)
theorem szD_gt {left : Int} {l : List Cd} (h : left < (l.length + cSum l : Nat)) : szD left l = -1 := by unfold szD; rw [if_pos h]
theorem szD_le {left : Int} {l : List Cd} (h : ¬ left < (l.length + cSum l : Nat)) : szD left l = left - (l.length + cSum l : Nat) := by unfold szD; rw [if_neg h]
theorem laws_szCardS (A : Option Addr) (l : List Cd) (c : Nat) (left : Int) (w : World) (h0 : 0 ≤ left ∧ left ≤ 1048576) (hm : l.length ≤ 9223372036854775807) (hz : CSz l) (hR : Rd w A (cds l)) :
    Calls Tryd.prog 26 #[.slice A l.length c, .int .i64 left] w fun e w' => e = .returned (.int .i64 (szD left l)) ∧ Keep w w' := by
  by_cases hn : (l.length : Int) ≤ left
  · go_enter Tryd.func26, Tryd.ntmps26
    have e0 : IntKind.i64.wrap (left - l.length) = left - l.length := wrapI64 ⟨by omega, by omega⟩
    go_wp2_with fail
    go_loopg [1, 5] l.length (fun k s1 s5 wr => ∃ i : Nat, i + k = l.length ∧ s5 = .int .i64 i ∧ s1 = .int .i64 (left - l.length - cSum (l.take i)) ∧ (cSum (l.take i) : Int) ≤ left - l.length ∧ Keep w wr)
    case atStart => exact ⟨0, by omega, rfl, by simp [cSum], by simp [cSum]; omega, (by ((repeat (first | (with_reducible assumption) | ((with_reducible refine Keep.setCell ?_ ?_ _); rotate_left; focus (first | omega | (simp; done) | (simp; omega))) | (with_reducible refine Keep.alloc ?_ _) | (with_reducible refine Keep.drewN ?_ _) | (with_reducible refine Keep.drew ?_) | (with_reducible exact Keep.refl _) | refine Keep.trans ?_ (by with_reducible assumption) | exact Keep.refl _ | assumption))))⟩
    case round =>
      obtain ⟨i, hi, rfl, rfl, hle, hk⟩ := hrel
      by_cases hlt : i < l.length
      · obtain ⟨bb, o, rfl, hc⟩ := (hR.keep hk).at (k := i) (by rw [cds_len]; omega)
        have hcell := hc _ _ (cds_at l i hlt).1
        have hcell2 := hc _ _ (cds_at l i hlt).2.1
        have hcell3 := hc _ _ (cds_at l i hlt).2.2
        rw [← Nat.add_assoc] at hcell2 hcell3
        have hzs := hz l[i] (List.getElem_mem hlt)
        have hT := cSum_take hlt
        have hT2 := cSum_le l (i + 1)
        obtain ⟨y, hy⟩ : ∃ y, cSum (l.take (i + 1)) = y := ⟨_, rfl⟩
        rw [hy] at hT hT2
        have HY := Aside.mk hy
        clear hc hy
        generalize l[i].s = x at *
        generalize l[i].a = xa at *
        generalize l[i].b = xb at *
        generalize cSum (l.take i) = v at *
        have hcl := fun W => card_sz x xa xb (left - l.length - v) W ⟨by omega, by omega⟩ hzs
        by_cases hneg : left - l.length - v < x.size
        · have e2 : szD left l = -1 := szD_gt (by omega)
          have HE := Aside.mk e2
          rw [if_pos hneg] at hcl
          clear e2 hT hT2
          (go_wp2_with fail); (go_at_call 86); (refine (hcl _).mono ?_); rintro e w2 ⟨rfl, hk2⟩
          go_wp2
          go_ret; exact ⟨by rw [HE.out]; rfl, (by ((repeat (first | (with_reducible assumption) | ((with_reducible refine Keep.setCell ?_ ?_ _); rotate_left; focus (first | omega | (simp; done) | (simp; omega))) | (with_reducible refine Keep.alloc ?_ _) | (with_reducible refine Keep.drewN ?_ _) | (with_reducible refine Keep.drew ?_) | (with_reducible exact Keep.refl _) | refine Keep.trans ?_ (by with_reducible assumption) | exact Keep.refl _ | assumption))))⟩
        · rw [if_neg hneg] at hcl
          clear hT2
          have hnn : ¬ (left - l.length - v - x.size < 0) := by omega
          (go_wp2_with fail); (go_at_call 86); (refine (hcl _).mono ?_); rintro e w2 ⟨rfl, hk2⟩
          go_wp2
          go_roundg (l.length - (i + 1))
          case measure => omega
          case rel => exact ⟨i + 1, by omega, by go_num, by rw [HY.out, hT]; go_num, by rw [HY.out]; omega, (by ((repeat (first | (with_reducible assumption) | ((with_reducible refine Keep.setCell ?_ ?_ _); rotate_left; focus (first | omega | (simp; done) | (simp; omega))) | (with_reducible refine Keep.alloc ?_ _) | (with_reducible refine Keep.drewN ?_ _) | (with_reducible refine Keep.drew ?_) | (with_reducible exact Keep.refl _) | refine Keep.trans ?_ (by with_reducible assumption) | exact Keep.refl _ | assumption))))⟩
      · have e2 : i = l.length := by omega
        subst e2
        rw [List.take_length] at *
        have e2 : szD left l = left - l.length - cSum l := by rw [szD_le (by omega)]; omega
        have HE := Aside.mk e2
        clear e2
        go_wp2
        go_ret; exact ⟨by rw [HE.out]; rfl, (by ((repeat (first | (with_reducible assumption) | ((with_reducible refine Keep.setCell ?_ ?_ _); rotate_left; focus (first | omega | (simp; done) | (simp; omega))) | (with_reducible refine Keep.alloc ?_ _) | (with_reducible refine Keep.drewN ?_ _) | (with_reducible refine Keep.drew ?_) | (with_reducible exact Keep.refl _) | refine Keep.trans ?_ (by with_reducible assumption) | exact Keep.refl _ | assumption))))⟩
  · have e2 : szD left l = -1 := szD_gt (by omega)
    rw [e2]
    have e0 : IntKind.i64.wrap (left - l.length) = left - l.length := wrapI64 ⟨by omega, by omega⟩
    go_enter Tryd.func26, Tryd.ntmps26
    go_wp2
    go_ret; exact ⟨rfl, (by ((repeat (first | (with_reducible assumption) | ((with_reducible refine Keep.setCell ?_ ?_ _); rotate_left; focus (first | omega | (simp; done) | (simp; omega))) | (with_reducible refine Keep.alloc ?_ _) | (with_reducible refine Keep.drewN ?_ _) | (with_reducible refine Keep.drew ?_) | (with_reducible exact Keep.refl _) | refine Keep.trans ?_ (by with_reducible assumption) | exact Keep.refl _ | assumption))))⟩
end Go.Proofs.YtpmilcfppcmodaaDoor

/- What the laws do with lists of words: sizes, copies, comparisons. -/
import Derived.Test.YtbbnhbfofdhnbaaDoorX5
import Derived.Test.YtbbnhbfofdhnbaaDoorS3
set_option linter.unusedVariables false
set_option linter.unusedSimpArgs false
namespace Go.Proofs.YtbbnhbfofdhnbaaDoor
open Go.RowKit
set_option maxHeartbeats 1000000
set_option maxRecDepth 20000
theorem string_info : (Tryd.prog.info? 9).map (fun i => (i.zero, i.size, i.bytes)) = some (some (.string ByteArray.empty), 1, 16) := by kernel_rfl
def filledS (l : List ByteArray) (i : Nat) : List Value := strs (l.take i) ++ List.replicate (l.length - i) (.string ByteArray.empty)
theorem filledS_zero (l : List ByteArray) : filledS l 0 = List.replicate l.length (.string ByteArray.empty) := by simp [filledS, strs]
theorem filledS_end (l : List ByteArray) : filledS l l.length = strs l := by simp [filledS]
theorem filledS_len (l : List ByteArray) (i : Nat) (h : i ≤ l.length) : (filledS l i).length = l.length := by simp [filledS, strs]; omega
theorem filledS_at (l : List ByteArray) (i : Nat) (h : i < l.length) : (filledS l i)[i]? = some (.string ByteArray.empty) := by
  have e : (strs (l.take i)).length = i := by simp [strs]; omega
  rw [filledS, List.getElem?_append_right (by omega), e, Nat.sub_self, List.getElem?_replicate, if_pos (by omega)]
theorem filledS_set (l : List ByteArray) (i : Nat) (h : i < l.length) : (filledS l i).set i (.string l[i]) = filledS l (i + 1) := by
  have e : (strs (l.take i)).length = i := by simp [strs]; omega
  rw [filledS, List.set_append_right _ _ (by omega), e, Nat.sub_self, show l.length - i = (l.length - (i + 1)) + 1 by omega, List.replicate_succ, List.set_cons_zero, filledS]
  unfold strs
  rw [List.take_succ_eq_append_getElem h, List.map_append, List.append_assoc]; rfl
theorem laws_toStringS (A : Option Addr) (l : List ByteArray) (c : Nat) (w : World) (hn : l.length ≤ 1048576) (hR : Rd w A (strs l)) :
    Calls Tryd.prog 11 #[.slice A l.length c] w fun e w' => ∃ g, e = .returned (.slice (some ⟨g, 0, none⟩) l.length l.length) ∧ w'.ownsRow w.heap.size 9 1 (.slice (some ⟨g, 0, none⟩) l.length l.length) l.length (strs l) ∧ Keep w w' := by
  obtain ⟨i0, hi0, hz0, hz1, hz2⟩ := info_parts string_info
  go_enter Tryd.func11, Tryd.ntmps11
  go_wp2_with (at_make; refine wpList_make_full _ rfl _ _ 23 rfl w.heap.size 9 i0 (.string ByteArray.empty) 1 Tryd.underlying23 hi0 hz0 hz1 .i64 .i64 l.length l.length l.length rfl rfl rfl rfl ?b2 ?b3 ?b4 ?_)
  case b2 => rw [hz2]; omega
  case b3 => unfold maxLen; omega
  case b4 => exact Nat.le_refl _
  intro w1 hown hg
  have hmade : (madeCells #[Value.string ByteArray.empty] l.length).toList = filledS l 0 := by rw [filledS_zero]; exact toList_madeCells_one _ _
  rw [hmade] at hown
  have HO := Aside.mk hown
  have hk1 : Keep w w1 := (Keep.refl w).grown hg (by intro k hk; cases hk)
  clear hown hg hmade
  go_wp2_with fail
  go_loopg [4] l.length (fun k s wr => ∃ i : Nat, i + k = l.length ∧ s = .int .i64 i ∧ wr.ownsRow w.heap.size 9 1 (.slice (some ⟨w.heap.size, 0, none⟩) l.length l.length) l.length (filledS l i) ∧ Keep w wr)
  case atStart => exact ⟨0, by omega, rfl, HO.out, (by ((repeat (first | (with_reducible assumption) | ((with_reducible refine Keep.setCell ?_ ?_ _); rotate_left; focus (first | omega | (simp; done) | (simp; omega))) | (with_reducible refine Keep.alloc ?_ _) | (with_reducible refine Keep.drewN ?_ _) | (with_reducible refine Keep.drew ?_) | (with_reducible exact Keep.refl _) | refine Keep.trans ?_ (by with_reducible assumption) | exact Keep.refl _ | assumption))))⟩
  case round =>
    obtain ⟨i, hi, rfl, hown, hk⟩ := hrel
    by_cases hlt : i < l.length
    · obtain ⟨bb, o, rfl, hc⟩ := (hR.keep hk).at (k := i) (by rw [strs_len]; exact hlt)
      have hcell := hc i _ (strs_at l i hlt)
      have hcA := (hown.cellAt i (by omega)).trans (filledS_at l i hlt)
      have hfA := hown.frozenAt i
      have HO := Aside.mk hown
      have HS := Aside.mk (filledS_set l i hlt)
      clear hc hown
      generalize hx : l[i] = x at *
      clear hx
      go_wp2
      have hst := (HO.out.stored i (.string x)).1
      rw [HS.out] at hst
      have HO2 := Aside.mk hst
      clear hst
      go_roundg (l.length - (i + 1))
      case measure => omega
      case rel => exact ⟨i + 1, by omega, by go_num, HO2.out, (by ((repeat (first | (with_reducible assumption) | ((with_reducible refine Keep.setCell ?_ ?_ _); rotate_left; focus (first | omega | (simp; done) | (simp; omega))) | (with_reducible refine Keep.alloc ?_ _) | (with_reducible refine Keep.drewN ?_ _) | (with_reducible refine Keep.drew ?_) | (with_reducible exact Keep.refl _) | refine Keep.trans ?_ (by with_reducible assumption) | exact Keep.refl _ | assumption))))⟩
    · have e2 : i = l.length := by omega
      subst e2
      rw [filledS_end] at hown
      have HO := Aside.mk hown
      clear hown
      go_wp2
      go_ret; exact ⟨_, rfl, HO.out, (by ((repeat (first | (with_reducible assumption) | ((with_reducible refine Keep.setCell ?_ ?_ _); rotate_left; focus (first | omega | (simp; done) | (simp; omega))) | (with_reducible refine Keep.alloc ?_ _) | (with_reducible refine Keep.drewN ?_ _) | (with_reducible refine Keep.drew ?_) | (with_reducible exact Keep.refl _) | refine Keep.trans ?_ (by with_reducible assumption) | exact Keep.refl _ | assumption))))⟩
theorem laws_eqStringS (A B : Option Addr) (l : List ByteArray) (c d : Nat) (w : World) (hn : l.length ≤ 1048576) (hR : Rd w A (strs l)) (hS : Rd w B (strs l)) :
    Calls Tryd.prog 15 #[.slice A l.length c, .slice B l.length d] w fun e w' => e = .returned (.bool true) ∧ Keep w w' := by
  go_enter Tryd.func15, Tryd.ntmps15
  go_wp2_with fail
  go_loopg [5] l.length (fun k s wr => ∃ i : Nat, i + k = l.length ∧ s = .int .i64 i ∧ Keep w wr)
  case atStart => exact ⟨0, by omega, rfl, (by ((repeat (first | (with_reducible assumption) | ((with_reducible refine Keep.setCell ?_ ?_ _); rotate_left; focus (first | omega | (simp; done) | (simp; omega))) | (with_reducible refine Keep.alloc ?_ _) | (with_reducible refine Keep.drewN ?_ _) | (with_reducible refine Keep.drew ?_) | (with_reducible exact Keep.refl _) | refine Keep.trans ?_ (by with_reducible assumption) | exact Keep.refl _ | assumption))))⟩
  case round =>
    obtain ⟨i, hi, rfl, hk⟩ := hrel
    by_cases hlt : i < l.length
    · obtain ⟨bb, o, rfl, hc⟩ := (hR.keep hk).at (k := i) (by rw [strs_len]; exact hlt)
      obtain ⟨b2, o2, rfl, hc2⟩ := (hS.keep hk).at (k := i) (by rw [strs_len]; exact hlt)
      have hcell := hc i _ (strs_at l i hlt)
      have hcell2 := hc2 i _ (strs_at l i hlt)
      clear hc hc2
      generalize hx : l[i] = x at *
      clear hx
      go_wp2
      go_quiet (fail)
      go_wp2
      go_roundg (l.length - (i + 1))
      case measure => omega
      case rel => exact ⟨i + 1, by omega, by go_num, (by ((repeat (first | (with_reducible assumption) | ((with_reducible refine Keep.setCell ?_ ?_ _); rotate_left; focus (first | omega | (simp; done) | (simp; omega))) | (with_reducible refine Keep.alloc ?_ _) | (with_reducible refine Keep.drewN ?_ _) | (with_reducible refine Keep.drew ?_) | (with_reducible exact Keep.refl _) | refine Keep.trans ?_ (by with_reducible assumption) | exact Keep.refl _ | assumption))))⟩
    · have e2 : i = l.length := by omega
      subst e2
      go_wp2
      go_ret; exact ⟨rfl, (by ((repeat (first | (with_reducible assumption) | ((with_reducible refine Keep.setCell ?_ ?_ _); rotate_left; focus (first | omega | (simp; done) | (simp; omega))) | (with_reducible refine Keep.alloc ?_ _) | (with_reducible refine Keep.drewN ?_ _) | (with_reducible refine Keep.drew ?_) | (with_reducible exact Keep.refl _) | refine Keep.trans ?_ (by with_reducible assumption) | exact Keep.refl _ | assumption))))⟩
def szSum : List ByteArray → Nat
  | [] => 0
  | x :: l => x.size + szSum l
theorem szSum_app (l m : List ByteArray) : szSum (l ++ m) = szSum l + szSum m := by
  induction l with
  | nil => simp [szSum]
  | cons x l ih => simp [szSum, ih]; omega
theorem szSum_take {l : List ByteArray} {i : Nat} (h : i < l.length) : szSum (l.take (i + 1)) = szSum (l.take i) + l[i].size := by
  rw [List.take_succ_eq_append_getElem h, szSum_app]; simp [szSum]
theorem szSum_le (l : List ByteArray) (i : Nat) : szSum (l.take i) ≤ szSum l := by
  have := szSum_app (l.take i) (l.drop i)
  rw [List.take_append_drop] at this
  omega
/-- What is left behind a list of words. -/
def szL (left : Int) (l : List ByteArray) : Int := if left < (l.length + szSum l : Nat) then -1 else left - (l.length + szSum l : Nat)
theorem szL_gt {left : Int} {l : List ByteArray} (h : left < (l.length + szSum l : Nat)) : szL left l = -1 := by unfold szL; rw [if_pos h]
theorem szL_le {left : Int} {l : List ByteArray} (h : ¬ left < (l.length + szSum l : Nat)) : szL left l = left - (l.length + szSum l : Nat) := by unfold szL; rw [if_neg h]
theorem laws_szStringS (A : Option Addr) (l : List ByteArray) (c : Nat) (left : Int) (w : World) (h0 : 0 ≤ left ∧ left ≤ 1048576) (hm : l.length ≤ 9223372036854775807) (hz : Szs l) (hR : Rd w A (strs l)) :
    Calls Tryd.prog 8 #[.slice A l.length c, .int .i64 left] w fun e w' => e = .returned (.int .i64 (szL left l)) ∧ Keep w w' := by
  by_cases hn : (l.length : Int) ≤ left
  · go_enter Tryd.func8, Tryd.ntmps8
    have e0 : IntKind.i64.wrap (left - l.length) = left - l.length := wrapI64 ⟨by omega, by omega⟩
    go_wp2_with fail
    go_loopg [1, 5] l.length (fun k s1 s5 wr => ∃ i : Nat, i + k = l.length ∧ s5 = .int .i64 i ∧ s1 = .int .i64 (left - l.length - szSum (l.take i)) ∧ (szSum (l.take i) : Int) ≤ left - l.length ∧ Keep w wr)
    case atStart => exact ⟨0, by omega, rfl, by simp [szSum], by simp [szSum]; omega, (by ((repeat (first | (with_reducible assumption) | ((with_reducible refine Keep.setCell ?_ ?_ _); rotate_left; focus (first | omega | (simp; done) | (simp; omega))) | (with_reducible refine Keep.alloc ?_ _) | (with_reducible refine Keep.drewN ?_ _) | (with_reducible refine Keep.drew ?_) | (with_reducible exact Keep.refl _) | refine Keep.trans ?_ (by with_reducible assumption) | exact Keep.refl _ | assumption))))⟩
    case round =>
      obtain ⟨i, hi, rfl, rfl, hle, hk⟩ := hrel
      by_cases hlt : i < l.length
      · obtain ⟨bb, o, rfl, hc⟩ := (hR.keep hk).at (k := i) (by rw [strs_len]; exact hlt)
        have hcell := hc i _ (strs_at l i hlt)
        have hzs := hz l[i] (List.getElem_mem hlt)
        have hT := szSum_take hlt
        have hT2 := szSum_le l (i + 1)
        obtain ⟨y, hy⟩ : ∃ y, szSum (l.take (i + 1)) = y := ⟨_, rfl⟩
        rw [hy] at hT hT2
        have HY := Aside.mk hy
        clear hc hy
        generalize l[i] = x at *
        generalize szSum (l.take i) = v at *
        have e1 : IntKind.i64.wrap (left - l.length - v - x.size) = left - l.length - v - x.size := wrapI64 ⟨by omega, by omega⟩
        by_cases hneg : left - l.length - v - x.size < 0
        · have e2 : szL left l = -1 := szL_gt (by omega)
          have HE := Aside.mk e2
          clear e2 hT hT2
          go_wp2
          go_ret; exact ⟨by rw [HE.out]; rfl, (by ((repeat (first | (with_reducible assumption) | ((with_reducible refine Keep.setCell ?_ ?_ _); rotate_left; focus (first | omega | (simp; done) | (simp; omega))) | (with_reducible refine Keep.alloc ?_ _) | (with_reducible refine Keep.drewN ?_ _) | (with_reducible refine Keep.drew ?_) | (with_reducible exact Keep.refl _) | refine Keep.trans ?_ (by with_reducible assumption) | exact Keep.refl _ | assumption))))⟩
        · clear hT2
          go_wp2
          go_roundg (l.length - (i + 1))
          case measure => omega
          case rel => exact ⟨i + 1, by omega, by go_num, by rw [HY.out, hT]; go_num, by rw [HY.out]; omega, (by ((repeat (first | (with_reducible assumption) | ((with_reducible refine Keep.setCell ?_ ?_ _); rotate_left; focus (first | omega | (simp; done) | (simp; omega))) | (with_reducible refine Keep.alloc ?_ _) | (with_reducible refine Keep.drewN ?_ _) | (with_reducible refine Keep.drew ?_) | (with_reducible exact Keep.refl _) | refine Keep.trans ?_ (by with_reducible assumption) | exact Keep.refl _ | assumption))))⟩
      · have e2 : i = l.length := by omega
        subst e2
        rw [List.take_length] at *
        have e2 : szL left l = left - l.length - szSum l := by rw [szL_le (by omega)]; omega
        have HE := Aside.mk e2
        clear e2
        go_wp2
        go_ret; exact ⟨by rw [HE.out]; rfl, (by ((repeat (first | (with_reducible assumption) | ((with_reducible refine Keep.setCell ?_ ?_ _); rotate_left; focus (first | omega | (simp; done) | (simp; omega))) | (with_reducible refine Keep.alloc ?_ _) | (with_reducible refine Keep.drewN ?_ _) | (with_reducible refine Keep.drew ?_) | (with_reducible exact Keep.refl _) | refine Keep.trans ?_ (by with_reducible assumption) | exact Keep.refl _ | assumption))))⟩
  · have e2 : szL left l = -1 := szL_gt (by omega)
    rw [e2]
    have e0 : IntKind.i64.wrap (left - l.length) = left - l.length := wrapI64 ⟨by omega, by omega⟩
    go_enter Tryd.func8, Tryd.ntmps8
    go_wp2
    go_ret; exact ⟨rfl, (by ((repeat (first | (with_reducible assumption) | ((with_reducible refine Keep.setCell ?_ ?_ _); rotate_left; focus (first | omega | (simp; done) | (simp; omega))) | (with_reducible refine Keep.alloc ?_ _) | (with_reducible refine Keep.drewN ?_ _) | (with_reducible refine Keep.drew ?_) | (with_reducible exact Keep.refl _) | refine Keep.trans ?_ (by with_reducible assumption) | exact Keep.refl _ | assumption))))⟩
end Go.Proofs.YtbbnhbfofdhnbaaDoor

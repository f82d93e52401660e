/- What the laws do with lists of numbers: copies, comparisons, marks. -/
import Derived.Test.YtpmilcfppcmodaaDoorS2
set_option linter.unusedVariables false
set_option linter.unusedSimpArgs false
namespace Go.Proofs.YtpmilcfppcmodaaDoor
open Go.RowKit
set_option maxHeartbeats 1000000
set_option maxRecDepth 20000
theorem grown_trans {a b c : World} {row : Option Nat} (h : a.grownBy b row) (k : b.grownBy c row) : a.grownBy c row :=
  ⟨k.os.trans h.os, k.tape.trans h.tape, k.output.trans h.output, Nat.le_trans h.size k.size, fun i hi hne => (k.block i (Nat.lt_of_lt_of_le hi h.size) hne).trans (h.block i hi hne)⟩
theorem grown_refl (w : World) (row : Option Nat) : w.grownBy w row := ⟨rfl, rfl, rfl, Nat.le_refl _, fun _ _ _ => rfl⟩
theorem grown_keep {a b : World} (k : Keep a b) (row : Option Nat) : a.grownBy b row := ⟨k.out.os, k.out.tape, k.out.output, k.out.size, fun i hi _ => k.out.block i hi⟩
/-- A slice that owns a row, and is not empty, begins at the head of a block. -/
theorem own_head {w : World} {base : Nat} {e : TypeId} {A : Option Addr} {n c : Nat} {xs : List Value} (h : w.ownsRow base e 1 (.slice A n c) n xs) (hn : 0 < n) : ∃ g, A = some ⟨g, 0, none⟩ ∧ base ≤ g := by
  rcases h.2 with ⟨h1, h2⟩ | ⟨g, cap, cur, h1, h2, _⟩
  · omega
  · simp only [Value.slice.injEq] at h1
    exact ⟨g, h1.1, h2⟩
def filled (l : List Int) (i : Nat) : List Value := ints (l.take i) ++ List.replicate (l.length - i) (.int .i64 0)
theorem filled_zero (l : List Int) : filled l 0 = List.replicate l.length (.int .i64 0) := by simp [filled, ints]
theorem filled_end (l : List Int) : filled l l.length = ints l := by simp [filled]
theorem filled_len (l : List Int) (i : Nat) (h : i ≤ l.length) : (filled l i).length = l.length := by simp [filled, ints]; omega
theorem filled_at (l : List Int) (i : Nat) (h : i < l.length) : (filled l i)[i]? = some (.int .i64 0) := by
  have e : (ints (l.take i)).length = i := by simp [ints]; omega
  rw [filled, List.getElem?_append_right (by omega), e, Nat.sub_self, List.getElem?_replicate, if_pos (by omega)]
theorem filled_set (l : List Int) (i : Nat) (h : i < l.length) : (filled l i).set i (.int .i64 l[i]) = filled l (i + 1) := by
  have e : (ints (l.take i)).length = i := by simp [ints]; omega
  rw [filled, List.set_append_right _ _ (by omega), e, Nat.sub_self, show l.length - i = (l.length - (i + 1)) + 1 by omega, List.replicate_succ, List.set_cons_zero, filled]
  unfold ints
  rw [List.take_succ_eq_append_getElem h, List.map_append, List.append_assoc]; rfl
theorem laws_toInt64S (A : Option Addr) (l : List Int) (c : Nat) (w : World) (hn : l.length ≤ 1048576) (hR : Rd w A (ints l)) :
    Calls Tryd.prog 51 #[.slice A l.length c] w fun e w' => ∃ g, e = .returned (.slice (some ⟨g, 0, none⟩) l.length l.length) ∧ w'.ownsRow w.heap.size 2 1 (.slice (some ⟨g, 0, none⟩) l.length l.length) l.length (ints l) ∧ Keep w w' := by
  obtain ⟨i0, hi0, hz0, hz1, hz2⟩ := info_parts int64_info
  go_enter Tryd.func51, Tryd.ntmps51
  go_wp2_with (at_make; refine wpList_make_full _ rfl _ _ 28 rfl w.heap.size 2 i0 (.int .i64 0) 1 Tryd.underlying28 hi0 hz0 hz1 .i64 .i64 l.length l.length l.length rfl rfl rfl rfl ?b2 ?b3 ?b4 ?_)
  case b2 => rw [hz2]; omega
  case b3 => unfold maxLen; omega
  case b4 => exact Nat.le_refl _
  intro w1 hown hg
  have hmade : (madeCells #[Value.int .i64 0] l.length).toList = filled l 0 := by rw [filled_zero]; exact toList_madeCells_one _ _
  rw [hmade] at hown
  have HO := Aside.mk hown
  have hk1 : Keep w w1 := (Keep.refl w).grown hg (by intro k hk; cases hk)
  clear hown hg hmade
  go_wp2_with fail
  go_loopg [4] l.length (fun k s wr => ∃ i : Nat, i + k = l.length ∧ s = .int .i64 i ∧ wr.ownsRow w.heap.size 2 1 (.slice (some ⟨w.heap.size, 0, none⟩) l.length l.length) l.length (filled l i) ∧ Keep w wr)
  case atStart => exact ⟨0, by omega, rfl, HO.out, (by ((repeat (first | (with_reducible assumption) | ((with_reducible refine Keep.setCell ?_ ?_ _); rotate_left; focus (first | omega | (simp; done) | (simp; omega))) | (with_reducible refine Keep.alloc ?_ _) | (with_reducible refine Keep.drewN ?_ _) | (with_reducible refine Keep.drew ?_) | (with_reducible exact Keep.refl _) | refine Keep.trans ?_ (by with_reducible assumption) | exact Keep.refl _ | assumption))))⟩
  case round =>
    obtain ⟨i, hi, rfl, hown, hk⟩ := hrel
    by_cases hlt : i < l.length
    · obtain ⟨bb, o, rfl, hc⟩ := (hR.keep hk).at (k := i) (by rw [ints_len]; exact hlt)
      have hcell := hc i _ (ints_at l i hlt)
      have hcA := (hown.cellAt i (by omega)).trans (filled_at l i hlt)
      have hfA := hown.frozenAt i
      have HO := Aside.mk hown
      have HS := Aside.mk (filled_set l i hlt)
      clear hc hown
      generalize hx : l[i] = x at *
      clear hx
      go_wp2
      have hst := (HO.out.stored i (.int .i64 x)).1
      rw [HS.out] at hst
      have HO2 := Aside.mk hst
      clear hst
      go_roundg (l.length - (i + 1))
      case measure => omega
      case rel => exact ⟨i + 1, by omega, by go_num, HO2.out, (by ((repeat (first | (with_reducible assumption) | ((with_reducible refine Keep.setCell ?_ ?_ _); rotate_left; focus (first | omega | (simp; done) | (simp; omega))) | (with_reducible refine Keep.alloc ?_ _) | (with_reducible refine Keep.drewN ?_ _) | (with_reducible refine Keep.drew ?_) | (with_reducible exact Keep.refl _) | refine Keep.trans ?_ (by with_reducible assumption) | exact Keep.refl _ | assumption))))⟩
    · have e2 : i = l.length := by omega
      subst e2
      rw [filled_end] at hown
      have HO := Aside.mk hown
      clear hown
      go_wp2
      go_ret; exact ⟨_, rfl, HO.out, (by ((repeat (first | (with_reducible assumption) | ((with_reducible refine Keep.setCell ?_ ?_ _); rotate_left; focus (first | omega | (simp; done) | (simp; omega))) | (with_reducible refine Keep.alloc ?_ _) | (with_reducible refine Keep.drewN ?_ _) | (with_reducible refine Keep.drew ?_) | (with_reducible exact Keep.refl _) | refine Keep.trans ?_ (by with_reducible assumption) | exact Keep.refl _ | assumption))))⟩
theorem laws_eqInt64S (A B : Option Addr) (l : List Int) (c d : Nat) (w : World) (hn : l.length ≤ 1048576) (hR : Rd w A (ints l)) (hS : Rd w B (ints l)) :
    Calls Tryd.prog 47 #[.slice A l.length c, .slice B l.length d] w fun e w' => e = .returned (.bool true) ∧ Keep w w' := by
  go_enter Tryd.func47, Tryd.ntmps47
  go_wp2_with fail
  go_loopg [5] l.length (fun k s wr => ∃ i : Nat, i + k = l.length ∧ s = .int .i64 i ∧ Keep w wr)
  case atStart => exact ⟨0, by omega, rfl, (by ((repeat (first | (with_reducible assumption) | ((with_reducible refine Keep.setCell ?_ ?_ _); rotate_left; focus (first | omega | (simp; done) | (simp; omega))) | (with_reducible refine Keep.alloc ?_ _) | (with_reducible refine Keep.drewN ?_ _) | (with_reducible refine Keep.drew ?_) | (with_reducible exact Keep.refl _) | refine Keep.trans ?_ (by with_reducible assumption) | exact Keep.refl _ | assumption))))⟩
  case round =>
    obtain ⟨i, hi, rfl, hk⟩ := hrel
    by_cases hlt : i < l.length
    · obtain ⟨bb, o, rfl, hc⟩ := (hR.keep hk).at (k := i) (by rw [ints_len]; exact hlt)
      obtain ⟨b2, o2, rfl, hc2⟩ := (hS.keep hk).at (k := i) (by rw [ints_len]; exact hlt)
      have hcell := hc i _ (ints_at l i hlt)
      have hcell2 := hc2 i _ (ints_at l i hlt)
      clear hc hc2
      generalize hx : l[i] = x at *
      clear hx
      go_wp2
      go_quiet (fail)
      go_wp2
      go_roundg (l.length - (i + 1))
      case measure => omega
      case rel => exact ⟨i + 1, by omega, by go_num, (by ((repeat (first | (with_reducible assumption) | ((with_reducible refine Keep.setCell ?_ ?_ _); rotate_left; focus (first | omega | (simp; done) | (simp; omega))) | (with_reducible refine Keep.alloc ?_ _) | (with_reducible refine Keep.drewN ?_ _) | (with_reducible refine Keep.drew ?_) | (with_reducible exact Keep.refl _) | refine Keep.trans ?_ (by with_reducible assumption) | exact Keep.refl _ | assumption))))⟩
    · have e2 : i = l.length := by omega
      subst e2
      go_wp2
      go_ret; exact ⟨rfl, (by ((repeat (first | (with_reducible assumption) | ((with_reducible refine Keep.setCell ?_ ?_ _); rotate_left; focus (first | omega | (simp; done) | (simp; omega))) | (with_reducible refine Keep.alloc ?_ _) | (with_reducible refine Keep.drewN ?_ _) | (with_reducible refine Keep.drew ?_) | (with_reducible exact Keep.refl _) | refine Keep.trans ?_ (by with_reducible assumption) | exact Keep.refl _ | assumption))))⟩
/-- So many numbers in a row. -/
def marksV (k : Int) (n : Nat) : List Value := (List.range n).map fun (i : Nat) => Value.int .i64 (k + i)
theorem marksV_len (k : Int) (n : Nat) : (marksV k n).length = n := by simp [marksV]
theorem marksV_at (k : Int) (n i : Nat) (h : i < n) : (marksV k n)[i]? = some (.int .i64 (k + i)) := by simp [marksV, h]
theorem marksV_succ (k : Int) (n : Nat) : marksV k (n + 1) = marksV k n ++ [.int .i64 (k + n)] := by simp [marksV, List.range_succ]
theorem marks_set (k : Int) (i : Nat) (xs : List Value) (h : i < xs.length) : (marksV k i ++ xs.drop i).set i (.int .i64 (k + i)) = marksV k (i + 1) ++ xs.drop (i + 1) := by
  rw [List.set_append_right _ _ (by rw [marksV_len]; omega), marksV_len, Nat.sub_self, List.drop_eq_getElem_cons h, List.set_cons_zero, marksV_succ]
  simp
theorem laws_markInt64S (A : Option Addr) (n c base : Nat) (xs : List Value) (k : Int) (w : World) (hn : n ≤ 1048576) (hk0 : 0 ≤ k) (hk1 : k ≤ 1048576) (hown : w.ownsRow base 2 1 (.slice A n c) n xs) :
    Calls Tryd.prog 48 #[.slice A n c, .int .i64 k] w fun e w' => e = .returned (.int .i64 (k + n)) ∧ w'.ownsRow base 2 1 (.slice A n c) n (marksV k n) ∧ w.grownBy w' (Value.ownBlock (.slice A n c)) := by
  have hlen : xs.length = n := by have := hown.1; omega
  go_enter Tryd.func48, Tryd.ntmps48
  go_wp2_with fail
  go_loopg [1, 5] n (fun m s1 s2 wr => ∃ i : Nat, i + m = n ∧ s1 = .int .i64 (k + i) ∧ s2 = .int .i64 i ∧ wr.ownsRow base 2 1 (.slice A n c) n (marksV k i ++ xs.drop i) ∧ w.grownBy wr (Value.ownBlock (.slice A n c)))
  case atStart => exact ⟨0, by omega, by simp, rfl, by simpa [marksV] using hown, grown_refl _ _⟩
  case round =>
    obtain ⟨i, hi, rfl, rfl, hown, hg⟩ := hrel
    by_cases hlt : i < n
    · obtain ⟨g, rfl, hgb⟩ := own_head hown (by omega)
      have hcA : wr.cell? ⟨g, i, none⟩ = some xs[i] := by
        rw [hown.cellAt i (by omega), List.getElem?_append_right (by rw [marksV_len]; omega), marksV_len, Nat.sub_self]
        simp [List.getElem?_drop, hlen, hlt]
      have hfA := hown.frozenAt i
      have HO := Aside.mk hown
      have HS := Aside.mk (marks_set k i xs (by omega))
      have HG := Aside.mk hg
      clear hown hg
      generalize hx : xs[i] = x at *
      clear hx
      go_wp2
      have hst := HO.out.stored i (.int .i64 (k + i))
      rw [HS.out] at hst
      have HO2 := Aside.mk hst
      clear hst
      go_roundg (n - (i + 1))
      case measure => omega
      case rel => exact ⟨i + 1, by omega, by go_num, by go_num, HO2.out.1, grown_trans HG.out HO2.out.2⟩
    · have e2 : i = n := by omega
      subst e2
      have HO := Aside.mk hown
      have HG := Aside.mk hg
      clear hown hg
      go_wp2
      go_ret; exact ⟨rfl, by have := HO.out; rw [List.drop_of_length_le (by omega), List.append_nil] at this; exact this, HG.out⟩
theorem laws_heldInt64S (A : Option Addr) (n c : Nat) (k : Int) (w : World) (hn : n ≤ 1048576) (hk0 : 0 ≤ k) (hk1 : k ≤ 1048576) (hR : Rd w A (marksV k n)) :
    Calls Tryd.prog 49 #[.slice A n c, .int .i64 k] w fun e w' => e = .returned (.int .i64 (k + n)) ∧ Keep w w' := by
  go_enter Tryd.func49, Tryd.ntmps49
  go_wp2_with fail
  go_loopg [1, 5] n (fun m s1 s2 wr => ∃ i : Nat, i + m = n ∧ s1 = .int .i64 (k + i) ∧ s2 = .int .i64 i ∧ Keep w wr)
  case atStart => exact ⟨0, by omega, by simp, rfl, (by ((repeat (first | (with_reducible assumption) | ((with_reducible refine Keep.setCell ?_ ?_ _); rotate_left; focus (first | omega | (simp; done) | (simp; omega))) | (with_reducible refine Keep.alloc ?_ _) | (with_reducible refine Keep.drewN ?_ _) | (with_reducible refine Keep.drew ?_) | (with_reducible exact Keep.refl _) | refine Keep.trans ?_ (by with_reducible assumption) | exact Keep.refl _ | assumption))))⟩
  case round =>
    obtain ⟨i, hi, rfl, rfl, hk⟩ := hrel
    by_cases hlt : i < n
    · obtain ⟨bb, o, rfl, hc⟩ := (hR.keep hk).at (k := i) (by rw [marksV_len]; exact hlt)
      have hcell := hc i _ (marksV_at k n i hlt)
      clear hc
      go_wp2
      go_roundg (n - (i + 1))
      case measure => omega
      case rel => exact ⟨i + 1, by omega, by go_num, by go_num, (by ((repeat (first | (with_reducible assumption) | ((with_reducible refine Keep.setCell ?_ ?_ _); rotate_left; focus (first | omega | (simp; done) | (simp; omega))) | (with_reducible refine Keep.alloc ?_ _) | (with_reducible refine Keep.drewN ?_ _) | (with_reducible refine Keep.drew ?_) | (with_reducible exact Keep.refl _) | refine Keep.trans ?_ (by with_reducible assumption) | exact Keep.refl _ | assumption))))⟩
    · have e2 : i = n := by omega
      subst e2
      go_wp2
      go_ret; exact ⟨rfl, (by ((repeat (first | (with_reducible assumption) | ((with_reducible refine Keep.setCell ?_ ?_ _); rotate_left; focus (first | omega | (simp; done) | (simp; omega))) | (with_reducible refine Keep.alloc ?_ _) | (with_reducible refine Keep.drewN ?_ _) | (with_reducible refine Keep.drew ?_) | (with_reducible exact Keep.refl _) | refine Keep.trans ?_ (by with_reducible assumption) | exact Keep.refl _ | assumption))))⟩
end Go.Proofs.YtpmilcfppcmodaaDoor

/- The lines of a text; the program's walk. -/
import Derived.Test.YtagldpbmadfokaaGreatDoorND
import Derived.Test.YtagldpbmadfokaaGreatDoorDK2
import Derived.Test.YtagldpbmadfokaaGreatDoorDS
import Derived.Shelf.Small.Wraps
set_option linter.unusedVariables false
set_option linter.unusedSimpArgs false
namespace Go.Proofs.YtagldpbmadfokaaGreatDoor
open Go.RowKit Go.Shelf
set_option maxHeartbeats 2000000
set_option maxRecDepth 20000
theorem spl_snoc_c (c : UInt8) : ∀ p : List UInt8, spl c (p ++ [c]) = spl c p ++ [[]]
  | [] => by simp [spl]
  | x :: p => by
    have ih := spl_snoc_c c p
    rw [List.cons_append, spl, spl]
    by_cases e : x = c
    · rw [if_pos e, if_pos e, ih]; rfl
    · rw [if_neg e, if_neg e, ih]
      cases hq : spl c p with
      | nil => exact absurd hq (spl_ne c p)
      | cons w ws => rfl
theorem spl_snoc_x {c x : UInt8} (h : x ≠ c) : ∀ p : List UInt8, ∃ L w, spl c (p ++ [x]) = L ++ [w ++ [x]]
  | [] => ⟨[], [], by simp [spl, h]⟩
  | y :: p => by
    obtain ⟨L, w, e⟩ := spl_snoc_x h p
    rw [List.cons_append, spl, e]
    by_cases hy : y = c
    · rw [if_pos hy]; exact ⟨[] :: L, w, rfl⟩
    · rw [if_neg hy]
      cases L with
      | nil => exact ⟨[], y :: w, rfl⟩
      | cons v L => exact ⟨(y :: v) :: L, w, rfl⟩
/-- The lines of a text; and whether each ends. -/
def lnL (s : ByteArray) : List ByteArray := (wds 10 s).dropLast
def lnW (s : ByteArray) : ByteArray := ((wds 10 s).getLast?).getD ⟨#[]⟩
def lnZ (s : ByteArray) : Bool := (lnW s).toList.isEmpty
theorem empty_list {s : ByteArray} : s.toList.isEmpty = decide (s = ⟨#[]⟩) := (decide_eq_emptyBytes s).symm
theorem wds_ln (s : ByteArray) : wds 10 s = lnL s ++ [lnW s] := by
  have h := (wds_len 10 s).1
  have hne : wds 10 s ≠ [] := fun e => by rw [e] at h; simp at h
  unfold lnL lnW
  rw [List.getLast?_eq_some_getLast hne]
  exact (List.dropLast_concat_getLast hne).symm
theorem ln_of {s w : ByteArray} {L : List ByteArray} (h : wds 10 s = L ++ [w]) : lnL s = L ∧ lnW s = w := by
  unfold lnL lnW
  rw [h]; simp
theorem suffix_snoc {l : List UInt8} {x : UInt8} : Lib.hasSuffix (l ++ [x]) [10] = decide (x = 10) := by
  unfold Lib.hasSuffix
  rw [List.isSuffixOf]
  simp [List.isPrefixOf]
  by_cases h : x = 10
  · simp [h]
  · have h2 : ¬ (10 : UInt8) = x := fun e => h e.symm
    simp [h, h2]
theorem snoc_of {l : List UInt8} (h : l ≠ []) : ∃ p x, l = p ++ [x] := ⟨l.dropLast, l.getLast h, (List.dropLast_concat_getLast h).symm⟩
/-- The text without the end of its last line. -/
def lnB (s : ByteArray) : ByteArray := ⟨(Lib.trimSuffix s.data.toList [10]).toArray⟩
def lnO (s : ByteArray) : Bool := Lib.hasSuffix s.data.toList [10]
theorem ln_empty : lnL ⟨#[]⟩ = [] ∧ lnZ ⟨#[]⟩ = true := by
  have h := ln_of (s := ⟨#[]⟩) (w := ⟨#[]⟩) (L := []) rfl
  exact ⟨h.1, by unfold lnZ; rw [h.2, empty_list]; simp⟩
theorem ln_cut {s : ByteArray} (h0 : s ≠ ⟨#[]⟩) : lnZ s = lnO s ∧ (lnO s = true → lnL s = wds 10 (lnB s)) := by
  have hl : s.data.toList ≠ [] := fun e => h0 (by rw [← bytes_list s, e])
  obtain ⟨p, x, e⟩ := snoc_of hl
  unfold lnO
  rw [e, suffix_snoc]
  by_cases hx : x = 10
  · subst hx
    have hw : wds 10 s = wds 10 ⟨p.toArray⟩ ++ [⟨#[]⟩] := by
      unfold wds
      rw [e, spl_snoc_c, List.map_append]; simp
    obtain ⟨h1, h2⟩ := ln_of hw
    refine ⟨by unfold lnZ; rw [h2, empty_list]; simp, fun _ => ?_⟩
    rw [h1]
    have : lnB s = ⟨p.toArray⟩ := by
      unfold lnB Lib.trimSuffix
      rw [e, suffix_snoc]
      simp
    rw [this]
  · obtain ⟨L, w, hw⟩ := spl_snoc_x hx p
    have hw2 : wds 10 s = L.map (fun l => ⟨l.toArray⟩) ++ [⟨(w ++ [x]).toArray⟩] := by
      unfold wds
      rw [e, hw, List.map_append]; rfl
    obtain ⟨h1, h2⟩ := ln_of hw2
    have hb : decide (x = 10) = false := decide_eq_false hx
    rw [hb]
    refine ⟨?_, fun h => by cases h⟩
    unfold lnZ
    rw [h2, empty_list]
    refine decide_eq_false (fun h => ?_)
    have := congrArg (fun b : ByteArray => b.data.toList.length) h
    simp at this
theorem lnB_size (s : ByteArray) : (lnB s).size ≤ s.size := by
  rw [Lib.size_eq, Lib.size_eq]
  exact Lib.trimSuffix_le _ _
def cutLays_ren : Go.Shelf.Ren := ⟨fun | 104 => 23 | 211 => 38 | 207 => 47 | n => n, fun | 9 => 9 | 4 => 4 | 24 => 50 | 3 => 3 | n => n, fun | n => n⟩
theorem cutLays : Go.Proofs.Lays.n104 Tryz.prog cutLays_ren := {
  mixed := by kernel_rfl
  f104 := Tryz.func23.trans (congrArg some (by kernel_rfl))
  f207 := Tryz.func47.trans (congrArg some (by kernel_rfl))
  f211 := Tryz.func38.trans (congrArg some (by kernel_rfl))
  t3 := Tryz.underlying3
  a3 := Tryz.isAgg3
  z3 := Tryz.sizeOf3
  v3 := Tryz.zeroValue3
  t4 := Tryz.underlying4
  a4 := Tryz.isAgg4
  z4 := Tryz.sizeOf4
  v4 := Tryz.zeroValue4
  t9 := Tryz.underlying9
  a9 := Tryz.isAgg9
  z9 := Tryz.sizeOf9
  v9 := Tryz.zeroValue9
  t24 := Tryz.underlying50
  a24 := Tryz.isAgg50
  z24 := Tryz.sizeOf50
  v24 := Tryz.zeroValue50 }
theorem impl_linesOf (s : ByteArray) (w : World) (hs : s.size ≤ 1048576) (hg : Gs w) :
    Calls Tryz.prog 12 #[.string s] w fun e w' => ∃ A n c, e = .returned (.tuple #[.slice A n c, .bool (lnZ s)]) ∧ (lnZ s = true → n = (lnL s).length ∧ Rd w' A (strs (lnL s))) ∧ Keep w w' := by
  by_cases h0 : s = ⟨#[]⟩
  · subst h0
    have h1 := ln_empty.1
    have HE := Aside.mk (fun W => (⟨rfl, .inl rfl⟩ : (0 = ([] : List ByteArray).length ∧ Rd W none (strs []))))
    rw [ln_empty.2, h1]
    go_enter Tryz.func12, Tryz.ntmps12
    go_wp2
    (apply bodyPost_ret; rotate_left; rfl; exact ⟨none, 0, 0, rfl, fun _ => HE.out _, (by ((repeat (first | (with_reducible assumption) | ((with_reducible refine Keep.setCell ?_ ?_ _); rotate_left; focus (first | omega | (simp; done) | (simp; omega))) | (with_reducible refine Keep.alloc ?_ _) | (with_reducible refine Keep.drewN ?_ _) | (with_reducible refine Keep.drew ?_) | (with_reducible exact Keep.refl _) | refine Keep.trans ?_ (by with_reducible assumption) | exact Keep.refl _ | assumption))))⟩; simp [results, Tryz.results12, go_sem, *])
  · obtain ⟨h1, h2⟩ := ln_cut h0
    have hem : s.toList.isEmpty = false := by rw [empty_list]; exact decide_eq_false h0
    have hb := lnB_size s
    have hC := Aside.mk (fun W => Any.strings_CutSuffix cutLays s ⟨#[10]⟩ W (by omega))
    rw [show (⟨(Lib.trimSuffix s.data.toList (⟨#[10]⟩ : ByteArray).data.toList).toArray⟩ : ByteArray) = lnB s from rfl, show Lib.hasSuffix s.data.toList (⟨#[10]⟩ : ByteArray).data.toList = lnO s from rfl] at hC
    have hS := Aside.mk (fun W h => strings_Split (lnB s) 10 W (by omega) h)
    rw [h1]
    have H2 := Aside.mk h2
    clear h1 h2
    generalize lnB s = b at *
    generalize lnL s = L at *
    generalize lnO s = o at *
    obtain ⟨M, hM⟩ : ∃ M, wds 10 b = M := ⟨_, rfl⟩
    rw [hM] at hS H2
    clear hM
    go_enter Tryz.func12, Tryz.ntmps12
    (go_wp2_with fail); (go_at_call 23); (refine (hC.out _).mono ?_); rintro e w1 ⟨rfl, hw1⟩
    have hk1 : Keep w w1 := by rw [hw1]; exact Keep.refl _
    clear hw1
    (go_wp2_with fail); (go_at_call 24); (refine (hS.out _ (hg.keep (by ((repeat (first | (with_reducible assumption) | ((with_reducible refine Keep.setCell ?_ ?_ _); rotate_left; focus (first | omega | (simp; done) | (simp; omega))) | (with_reducible refine Keep.alloc ?_ _) | (with_reducible refine Keep.drewN ?_ _) | (with_reducible refine Keep.drew ?_) | (with_reducible exact Keep.refl _) | refine Keep.trans ?_ (by with_reducible assumption) | exact Keep.refl _ | assumption)))))).mono ?_); rintro e w2 ⟨g, rfl, hR, hk⟩
    have HR := Aside.mk hR
    clear hR hC hS
    have k2 : Keep w w2 := (by ((repeat (first | (with_reducible assumption) | ((with_reducible refine Keep.setCell ?_ ?_ _); rotate_left; focus (first | omega | (simp; done) | (simp; omega))) | (with_reducible refine Keep.alloc ?_ _) | (with_reducible refine Keep.drewN ?_ _) | (with_reducible refine Keep.drew ?_) | (with_reducible exact Keep.refl _) | refine Keep.trans ?_ (by with_reducible assumption) | exact Keep.refl _ | assumption))))
    go_wp2
    (apply bodyPost_ret; rotate_left; rfl; exact ⟨some ⟨g, 0, none⟩, M.length, M.length, rfl, fun h => (by rw [H2.out h]; exact ⟨rfl, HR.out⟩), k2⟩; simp [results, Tryz.results12, go_sem, *])
end Go.Proofs.YtagldpbmadfokaaGreatDoor

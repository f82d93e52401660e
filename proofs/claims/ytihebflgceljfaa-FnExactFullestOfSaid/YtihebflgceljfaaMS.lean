/- What the laws do with lists of masks: sizes, copies, comparisons. -/
import Derived.Test.YtihebflgceljfaaMK
import Derived.Test.YtihebflgceljfaaS3
import Derived.Test.YtihebflgceljfaaW3
set_option linter.unusedVariables false
set_option linter.unusedSimpArgs false
namespace Go.Proofs.Ytihebflgceljfaa
open Go.RowKit
set_option maxHeartbeats 1000000
set_option maxRecDepth 20000
theorem maskE_info : (Try.prog.info? 45).map (fun i => (i.zero, i.size, i.bytes)) = some (some (.agg #[.int .u64 0, .int .u64 0]), 2, 16) := by kernel_rfl
theorem made2 (n : Nat) : (madeCells #[Value.int .u64 0, Value.int .u64 0] n).toList = List.replicate n (.int .u64 0) := by
  apply List.ext_getElem
  · simp [madeCells]
  · intro i h1 h2
    simp only [madeCells, Array.toList_map, List.getElem_map, List.getElem_replicate]
    rcases Nat.mod_two_eq_zero_or_one i with h | h <;> simp [h]
theorem own_rdm {w : World} {base sz : Nat} {e : TypeId} {A : Option Addr} {n c : Nat} {xs : List Value} (h : w.ownsRow base e sz (.slice A n c) n xs) : Rd w A xs := by
  obtain ⟨A', c', hv, hR, _⟩ := own_row h
  simp only [Value.slice.injEq] at hv
  rw [hv.1]; exact hR
def filledM (l : List (Wd × Wd)) (i : Nat) : List Value := msks (l.take i) ++ List.replicate ((l.length - i) * 2) (.int .u64 0)
theorem filledM_zero (l : List (Wd × Wd)) : filledM l 0 = List.replicate (l.length * 2) (.int .u64 0) := by simp [filledM, msks]
theorem filledM_end (l : List (Wd × Wd)) : filledM l l.length = msks l := by simp [filledM]
theorem filledM_pre (l : List (Wd × Wd)) (i : Nat) (h : i ≤ l.length) : (msks (l.take i)).length = i * 2 := by rw [msks_len, List.length_take]; omega
theorem filledM_at (l : List (Wd × Wd)) (i : Nat) (h : i < l.length) : (filledM l i)[i * 2]? = some (.int .u64 0) ∧ (filledM l i)[i * 2 + 1]? = some (.int .u64 0) := by
  have e := filledM_pre l i (by omega)
  constructor
  · rw [filledM, List.getElem?_append_right (by omega), e, Nat.sub_self, List.getElem?_replicate, if_pos (by omega)]
  · rw [filledM, List.getElem?_append_right (by omega), e, show i * 2 + 1 - i * 2 = 1 by omega, List.getElem?_replicate, if_pos (by omega)]
theorem msks_app (l m : List (Wd × Wd)) : msks (l ++ m) = msks l ++ msks m := by unfold msks; rw [List.flatMap_append]
theorem filledM_set (l : List (Wd × Wd)) (i : Nat) (h : i < l.length) : ((filledM l i).set (i * 2) (.int .u64 (U l[i].1))).set (i * 2 + 1) (.int .u64 (U l[i].2)) = filledM l (i + 1) := by
  have e := filledM_pre l i (by omega)
  rw [filledM, List.set_append_right _ _ (by omega), e, Nat.sub_self, show (l.length - i) * 2 = (l.length - (i + 1)) * 2 + 1 + 1 by omega, List.replicate_succ, List.set_cons_zero,
    List.set_append_right _ _ (by omega), e, show i * 2 + 1 - i * 2 = 1 by omega, List.set_cons_succ, List.replicate_succ, List.set_cons_zero, filledM,
    List.take_succ_eq_append_getElem h, msks_app, List.append_assoc]
  simp [msks, mskV]
theorem laws_szMaskS (A : Option Addr) (n c : Nat) (left : Int) (w : World) (h0 : 0 ≤ left ∧ left ≤ 1048576) (hm : n ≤ 9223372036854775807) :
    Calls Try.prog 6 #[.slice A n c, .int .i64 left] w fun e w' => e = .returned (.int .i64 (if left < n then -1 else left - n)) ∧ Keep w w' := by
  have e0 : IntKind.i64.wrap (left - n) = left - n := wrapI64 ⟨by omega, by omega⟩
  by_cases h : left < n
  · rw [if_pos h]
    go_enter Try.func6, Try.ntmps6
    go_wp2
    go_ret; exact ⟨rfl, (by ((repeat (first | (with_reducible assumption) | ((with_reducible refine Keep.setCell ?_ ?_ _); rotate_left; focus (first | omega | (simp; done) | (simp; omega))) | (with_reducible refine Keep.alloc ?_ _) | (with_reducible refine Keep.drewN ?_ _) | (with_reducible refine Keep.drew ?_) | (with_reducible exact Keep.refl _) | refine Keep.trans ?_ (by with_reducible assumption) | exact Keep.refl _ | assumption))))⟩
  · rw [if_neg h]
    go_enter Try.func6, Try.ntmps6
    go_wp2
    go_ret; exact ⟨rfl, (by ((repeat (first | (with_reducible assumption) | ((with_reducible refine Keep.setCell ?_ ?_ _); rotate_left; focus (first | omega | (simp; done) | (simp; omega))) | (with_reducible refine Keep.alloc ?_ _) | (with_reducible refine Keep.drewN ?_ _) | (with_reducible refine Keep.drew ?_) | (with_reducible exact Keep.refl _) | refine Keep.trans ?_ (by with_reducible assumption) | exact Keep.refl _ | assumption))))⟩
theorem laws_toMaskS (A : Option Addr) (l : List (Wd × Wd)) (c : Nat) (w : World) (hn : l.length ≤ 1048576) (hR : Rd w A (msks l)) :
    Calls Try.prog 9 #[.slice A l.length c] w fun e w' => ∃ g, e = .returned (.slice (some ⟨g, 0, none⟩) l.length l.length) ∧ w'.ownsRow w.heap.size 45 2 (.slice (some ⟨g, 0, none⟩) l.length l.length) l.length (msks l) ∧ Keep w w' := by
  obtain ⟨i0, hi0, hz0, hz1, hz2⟩ := info_parts maskE_info
  go_enter Try.func9, Try.ntmps9
  go_wp2_with (at_make; refine wpList_make_full _ rfl _ _ 31 rfl w.heap.size 45 i0 (.agg #[.int .u64 0, .int .u64 0]) 2 Try.underlying31 hi0 hz0 hz1 .i64 .i64 l.length l.length l.length rfl rfl rfl rfl ?b2 ?b3 ?b4 ?_)
  case b2 => rw [hz2]; omega
  case b3 => unfold maxLen; omega
  case b4 => exact Nat.le_refl _
  intro w1 hown hg
  have hmade : (madeCells #[Value.int .u64 0, Value.int .u64 0] (l.length * 2)).toList = filledM l 0 := by rw [filledM_zero]; exact made2 _
  rw [hmade] at hown
  have HO := Aside.mk hown
  have hk1 : Keep w w1 := (Keep.refl w).grown hg (by intro k hk; cases hk)
  clear hown hg hmade
  go_wp2_with fail
  go_loopg [4] l.length (fun k s wr => ∃ i : Nat, i + k = l.length ∧ s = .int .i64 i ∧ wr.ownsRow w.heap.size 45 2 (.slice (some ⟨w.heap.size, 0, none⟩) l.length l.length) l.length (filledM l i) ∧ Keep w wr)
  case atStart => exact ⟨0, by omega, rfl, HO.out, (by ((repeat (first | (with_reducible assumption) | ((with_reducible refine Keep.setCell ?_ ?_ _); rotate_left; focus (first | omega | (simp; done) | (simp; omega))) | (with_reducible refine Keep.alloc ?_ _) | (with_reducible refine Keep.drewN ?_ _) | (with_reducible refine Keep.drew ?_) | (with_reducible exact Keep.refl _) | refine Keep.trans ?_ (by with_reducible assumption) | exact Keep.refl _ | assumption))))⟩
  case round =>
    obtain ⟨i, hi, rfl, hown, hk⟩ := hrel
    by_cases hlt : i < l.length
    · obtain ⟨bb, o, rfl, hc⟩ := (hR.keep hk).at (k := i) (by rw [msks_len]; omega)
      have hcell := hc _ _ (msks_at l i hlt).1
      have hcell2 := hc _ _ (msks_at l i hlt).2
      rw [← Nat.add_assoc] at hcell2
      have HS := Aside.mk (filledM_set l i hlt)
      have HO := Aside.mk hown
      clear hc hown
      generalize l[i].1 = a at *
      generalize l[i].2 = b at *
      (go_wp2_with fail); (go_at_call 38); (refine (laws_toMask _ _ _).mono ?_); rintro e w2 ⟨rfl, hk2⟩
      have hown := own_keep HO.out hk2
      have hcA := (hown.cellAt (i * 2) (by omega)).trans (filledM_at l i hlt).1
      have hcB := (hown.cellAt (i * 2 + 1) (by omega)).trans (filledM_at l i hlt).2
      have hfA := hown.frozenAt (i * 2)
      have hfB := hown.frozenAt (i * 2 + 1)
      have k2 : Keep w w2 := (by ((repeat (first | (with_reducible assumption) | ((with_reducible refine Keep.setCell ?_ ?_ _); rotate_left; focus (first | omega | (simp; done) | (simp; omega))) | (with_reducible refine Keep.alloc ?_ _) | (with_reducible refine Keep.drewN ?_ _) | (with_reducible refine Keep.drew ?_) | (with_reducible exact Keep.refl _) | refine Keep.trans ?_ (by with_reducible assumption) | exact Keep.refl _ | assumption))))
      have HO2 := Aside.mk hown
      clear hown HO hk2 hcell hcell2
      go_wp2
      have hst := ((HO2.out.stored (i * 2) (.int .u64 (U a))).1.stored (i * 2 + 1) (.int .u64 (U b))).1
      rw [HS.out] at hst
      have HO3 := Aside.mk hst
      clear hst
      go_roundg (l.length - (i + 1))
      case measure => omega
      case rel => exact ⟨i + 1, by omega, by go_num, HO3.out, (by ((repeat (first | (with_reducible assumption) | ((with_reducible refine Keep.setCell ?_ ?_ _); rotate_left; focus (first | omega | (simp; done) | (simp; omega))) | (with_reducible refine Keep.alloc ?_ _) | (with_reducible refine Keep.drewN ?_ _) | (with_reducible refine Keep.drew ?_) | (with_reducible exact Keep.refl _) | refine Keep.trans ?_ (by with_reducible assumption) | exact Keep.refl _ | assumption))))⟩
    · have e2 : i = l.length := by omega
      subst e2
      rw [filledM_end] at hown
      have HO := Aside.mk hown
      clear hown
      go_wp2
      go_ret; exact ⟨_, rfl, HO.out, (by ((repeat (first | (with_reducible assumption) | ((with_reducible refine Keep.setCell ?_ ?_ _); rotate_left; focus (first | omega | (simp; done) | (simp; omega))) | (with_reducible refine Keep.alloc ?_ _) | (with_reducible refine Keep.drewN ?_ _) | (with_reducible refine Keep.drew ?_) | (with_reducible exact Keep.refl _) | refine Keep.trans ?_ (by with_reducible assumption) | exact Keep.refl _ | assumption))))⟩
theorem laws_eqMaskS (A B : Option Addr) (l : List (Wd × Wd)) (c d : Nat) (w : World) (hn : l.length ≤ 1048576) (hR : Rd w A (msks l)) (hS : Rd w B (msks l)) :
    Calls Try.prog 11 #[.slice A l.length c, .slice B l.length d] w fun e w' => e = .returned (.bool true) ∧ Keep w w' := by
  go_enter Try.func11, Try.ntmps11
  go_wp2_with fail
  go_loopg [5] l.length (fun k s wr => ∃ i : Nat, i + k = l.length ∧ s = .int .i64 i ∧ Keep w wr)
  case atStart => exact ⟨0, by omega, rfl, (by ((repeat (first | (with_reducible assumption) | ((with_reducible refine Keep.setCell ?_ ?_ _); rotate_left; focus (first | omega | (simp; done) | (simp; omega))) | (with_reducible refine Keep.alloc ?_ _) | (with_reducible refine Keep.drewN ?_ _) | (with_reducible refine Keep.drew ?_) | (with_reducible exact Keep.refl _) | refine Keep.trans ?_ (by with_reducible assumption) | exact Keep.refl _ | assumption))))⟩
  case round =>
    obtain ⟨i, hi, rfl, hk0⟩ := hrel
    by_cases hlt : i < l.length
    · obtain ⟨bb, o, rfl, hc⟩ := (hR.keep hk0).at (k := i) (by rw [msks_len]; omega)
      obtain ⟨b2, o2, rfl, hc2⟩ := (hS.keep hk0).at (k := i) (by rw [msks_len]; omega)
      have p1 := hc _ _ (msks_at l i hlt).1
      have p2 := hc _ _ (msks_at l i hlt).2
      have p3 := hc2 _ _ (msks_at l i hlt).1
      have p4 := hc2 _ _ (msks_at l i hlt).2
      rw [← Nat.add_assoc] at p2 p4
      clear hc hc2
      generalize l[i].1 = a at *
      generalize l[i].2 = b at *
      go_wp2_with fail
      refine wp_region_keep (by kernel_rfl) (by kernel_rfl) ?_
      repeat
        first
          | (apply QuietL.run
             focus go_simp
             focus
               intro w2 hk
               have p1' := hk.cell p1
               have p2' := hk.cell p2
               have p3' := hk.cell p3
               have p4' := hk.cell p4
               apply QAt.mk
               go_simp
               first
                 | done
                 | exact rfl
                 | (go_at_call 44; exact quiet_call hk (laws_eqMask_self _ _ _))
             simp only [Act.put, List.setIfInBounds_toArray, List.set_cons_succ, List.set_cons_zero])
          | (apply QuietL.skip
             focus go_simp
             simp only [Act.put, List.setIfInBounds_toArray, List.set_cons_succ, List.set_cons_zero])
      apply QuietL.nil
      intro w2 hk
      have p1' := hk.cell p1
      have p2' := hk.cell p2
      have p3' := hk.cell p3
      have p4' := hk.cell p4
      go_wp2
      go_roundg (l.length - (i + 1))
      case measure => omega
      case rel => exact ⟨i + 1, by omega, by go_num, (by ((repeat (first | (with_reducible assumption) | ((with_reducible refine Keep.setCell ?_ ?_ _); rotate_left; focus (first | omega | (simp; done) | (simp; omega))) | (with_reducible refine Keep.alloc ?_ _) | (with_reducible refine Keep.drewN ?_ _) | (with_reducible refine Keep.drew ?_) | (with_reducible exact Keep.refl _) | refine Keep.trans ?_ (by with_reducible assumption) | exact Keep.refl _ | assumption))))⟩
    · have e2 : i = l.length := by omega
      subst e2
      go_wp2
      go_ret; exact ⟨rfl, (by ((repeat (first | (with_reducible assumption) | ((with_reducible refine Keep.setCell ?_ ?_ _); rotate_left; focus (first | omega | (simp; done) | (simp; omega))) | (with_reducible refine Keep.alloc ?_ _) | (with_reducible refine Keep.drewN ?_ _) | (with_reducible refine Keep.drew ?_) | (with_reducible exact Keep.refl _) | refine Keep.trans ?_ (by with_reducible assumption) | exact Keep.refl _ | assumption))))⟩
end Go.Proofs.Ytihebflgceljfaa

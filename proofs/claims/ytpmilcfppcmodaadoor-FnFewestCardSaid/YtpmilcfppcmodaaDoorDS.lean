/- What the laws do with lists of cards: sizes, copies, comparisons. -/
import Derived.Test.YtpmilcfppcmodaaDoorD1
import Derived.Test.YtpmilcfppcmodaaDoorS3
import Derived.Test.YtpmilcfppcmodaaDoorW3
set_option linter.unusedVariables false
set_option linter.unusedSimpArgs false
namespace Go.Proofs.YtpmilcfppcmodaaDoor
open Go.RowKit
set_option maxHeartbeats 1000000
set_option maxRecDepth 20000
theorem cardE_info : (Tryd.prog.info? 108).map (fun i => (i.zero, i.size, i.bytes)) = some (some (.agg #[.string ByteArray.empty, .int .u64 0, .int .u64 0]), 3, 32) := by kernel_rfl
/-- The cells of empty cards in a row. -/
def zcs : Nat → List Value
  | 0 => []
  | n + 1 => .string ByteArray.empty :: .int .u64 0 :: .int .u64 0 :: zcs n
theorem zcs_len : ∀ n, (zcs n).length = n * 3
  | 0 => rfl
  | n + 1 => by simp only [zcs, List.length_cons, zcs_len n]; omega
theorem zcs_get : ∀ (n i : Nat), i < n * 3 → (zcs n)[i]? = some (if i % 3 = 0 then .string ByteArray.empty else .int .u64 0)
  | 0, i, h => by omega
  | n + 1, 0, h => rfl
  | n + 1, 1, h => rfl
  | n + 1, 2, h => rfl
  | n + 1, i + 3, h => by
    have := zcs_get n i (by omega)
    simp only [zcs, List.getElem?_cons_succ, this]
    rw [show (i + 3) % 3 = i % 3 by omega]
theorem made3 (n : Nat) : (madeCells #[Value.string ByteArray.empty, Value.int .u64 0, Value.int .u64 0] (n * 3)).toList = zcs n := by
  apply List.ext_getElem?
  intro i
  by_cases h : i < n * 3
  · rw [zcs_get n i h]
    have h3 := Nat.mod_lt i (show 0 < 3 by decide)
    simp only [madeCells, Array.toList_map, List.getElem?_map]
    have e : (Array.range (n * 3)).toList[i]? = some i := by simp [h]
    rw [e]
    simp only [Option.map_some]
    rcases (show i % 3 = 0 ∨ i % 3 = 1 ∨ i % 3 = 2 by omega) with h1 | h1 | h1 <;> simp [h1]
  · rw [List.getElem?_eq_none (by simp [madeCells]; omega), List.getElem?_eq_none (by rw [zcs_len]; omega)]
def filledC (l : List Cd) (i : Nat) : List Value := cds (l.take i) ++ zcs (l.length - i)
theorem filledC_zero (l : List Cd) : filledC l 0 = zcs l.length := by simp [filledC, cds]
theorem filledC_end (l : List Cd) : filledC l l.length = cds l := by simp [filledC, zcs]
theorem filledC_pre (l : List Cd) (i : Nat) (h : i ≤ l.length) : (cds (l.take i)).length = i * 3 := by rw [cds_len, List.length_take]; omega
theorem filledC_at (l : List Cd) (i : Nat) (h : i < l.length) : (filledC l i)[i * 3]? = some (.string ByteArray.empty) ∧ (filledC l i)[i * 3 + 1]? = some (.int .u64 0) ∧ (filledC l i)[i * 3 + 2]? = some (.int .u64 0) := by
  have e := filledC_pre l i (by omega)
  refine ⟨?_, ?_, ?_⟩
  · rw [filledC, List.getElem?_append_right (by omega), e, Nat.sub_self, zcs_get _ _ (by omega)]; rfl
  · rw [filledC, List.getElem?_append_right (by omega), e, show i * 3 + 1 - i * 3 = 1 by omega, zcs_get _ _ (by omega)]; rfl
  · rw [filledC, List.getElem?_append_right (by omega), e, show i * 3 + 2 - i * 3 = 2 by omega, zcs_get _ _ (by omega)]; rfl
theorem filledC_set (l : List Cd) (i : Nat) (h : i < l.length) : (((filledC l i).set (i * 3) (.string l[i].s)).set (i * 3 + 1) (.int .u64 (U l[i].a))).set (i * 3 + 2) (.int .u64 (U l[i].b)) = filledC l (i + 1) := by
  have e := filledC_pre l i (by omega)
  rw [filledC, show l.length - i = (l.length - (i + 1)) + 1 by omega, zcs, List.set_append_right _ _ (by omega), e, Nat.sub_self, List.set_cons_zero,
    List.set_append_right _ _ (by omega), e, show i * 3 + 1 - i * 3 = 1 by omega, List.set_cons_succ, List.set_cons_zero,
    List.set_append_right _ _ (by omega), e, show i * 3 + 2 - i * 3 = 2 by omega, List.set_cons_succ, List.set_cons_succ, List.set_cons_zero, filledC,
    List.take_succ_eq_append_getElem h, cds_app, List.append_assoc]
  rfl
theorem own_rdc {w : World} {base sz : Nat} {e : TypeId} {A : Option Addr} {n c : Nat} {xs : List Value} (h : w.ownsRow base e sz (.slice A n c) n xs) : Rd w A xs := by
  obtain ⟨A', c', hv, hR, _⟩ := own_row h
  simp only [Value.slice.injEq] at hv
  rw [hv.1]; exact hR
theorem card_to (s : ByteArray) (a b : Wd) (w : World) :
    Calls Tryd.prog 87 #[.agg #[.string s, .int .u64 (U a), .int .u64 (U b)]] w fun e w' => e = .returned (.agg #[.string s, .int .u64 (U a), .int .u64 (U b)]) ∧ Keep w w' := by
  go_enter Tryd.func87, Tryd.ntmps87
  (go_wp2_with fail); (go_at_call 102); (refine (laws_toMask _ _ _).mono ?_); rintro e w1 ⟨rfl, hk1⟩
  obtain ⟨hk1c, hk1f⟩ := hk1.cells; have hk1z0 : w.heap.size < w1.heap.size := (by have := hk1.size; (try simp at this); omega); have hk1z1 : w.heap.size + 1 < w1.heap.size := (by have := hk1.size; (try simp at this); omega); have hk1z2 : w.heap.size + 1 + 1 < w1.heap.size := (by have := hk1.size; (try simp at this); omega)
  go_wp2
  (apply bodyPost_ret; rotate_left; rfl; exact ⟨rfl, (by ((repeat (first | (with_reducible assumption) | ((with_reducible refine Keep.setCell ?_ ?_ _); rotate_left; focus (first | omega | (simp; done) | (simp; omega))) | (with_reducible refine Keep.alloc ?_ _) | (with_reducible refine Keep.drewN ?_ _) | (with_reducible refine Keep.drew ?_) | (with_reducible exact Keep.refl _) | refine Keep.trans ?_ (by with_reducible assumption) | exact Keep.refl _ | assumption))))⟩; simp [results, Tryd.results87, go_sem, U_zero, *])
theorem card_eq (s : ByteArray) (a b : Wd) (w : World) :
    Calls Tryd.prog 88 #[.agg #[.string s, .int .u64 (U a), .int .u64 (U b)], .agg #[.string s, .int .u64 (U a), .int .u64 (U b)]] w fun e w' => e = .returned (.bool true) ∧ Keep w w' := by
  go_enter Tryd.func88, Tryd.ntmps88
  (go_wp2_with fail); (go_at_call 63); (refine (laws_eqMask_self _ _ _).mono ?_); rintro e w1 ⟨rfl, hk1⟩
  go_wp2
  go_ret; exact ⟨rfl, (by ((repeat (first | (with_reducible assumption) | ((with_reducible refine Keep.setCell ?_ ?_ _); rotate_left; focus (first | omega | (simp; done) | (simp; omega))) | (with_reducible refine Keep.alloc ?_ _) | (with_reducible refine Keep.drewN ?_ _) | (with_reducible refine Keep.drew ?_) | (with_reducible exact Keep.refl _) | refine Keep.trans ?_ (by with_reducible assumption) | exact Keep.refl _ | assumption))))⟩
theorem laws_toCardS (A : Option Addr) (l : List Cd) (c : Nat) (w : World) (hn : l.length ≤ 1048576) (hR : Rd w A (cds l)) :
    Calls Tryd.prog 28 #[.slice A l.length c] w fun e w' => ∃ g, e = .returned (.slice (some ⟨g, 0, none⟩) l.length l.length) ∧ w'.ownsRow w.heap.size 108 3 (.slice (some ⟨g, 0, none⟩) l.length l.length) l.length (cds l) ∧ Keep w w' := by
  obtain ⟨i0, hi0, hz0, hz1, hz2⟩ := info_parts cardE_info
  go_enter Tryd.func28, Tryd.ntmps28
  go_wp2_with (at_make; refine wpList_make_full _ rfl _ _ 26 rfl w.heap.size 108 i0 (.agg #[.string ByteArray.empty, .int .u64 0, .int .u64 0]) 3 Tryd.underlying26 hi0 hz0 hz1 .i64 .i64 l.length l.length l.length rfl rfl rfl rfl ?b2 ?b3 ?b4 ?_)
  case b2 => rw [hz2]; omega
  case b3 => unfold maxLen; omega
  case b4 => exact Nat.le_refl _
  intro w1 hown hg
  have hmade : (madeCells #[Value.string ByteArray.empty, Value.int .u64 0, Value.int .u64 0] (l.length * 3)).toList = filledC l 0 := by rw [filledC_zero]; exact made3 _
  rw [hmade] at hown
  have HO := Aside.mk hown
  have hk1 : Keep w w1 := (Keep.refl w).grown hg (by intro k hk; cases hk)
  clear hown hg hmade
  go_wp2_with fail
  go_loopg [4] l.length (fun k s wr => ∃ i : Nat, i + k = l.length ∧ s = .int .i64 i ∧ wr.ownsRow w.heap.size 108 3 (.slice (some ⟨w.heap.size, 0, none⟩) l.length l.length) l.length (filledC l i) ∧ Keep w wr)
  case atStart => exact ⟨0, by omega, rfl, HO.out, (by ((repeat (first | (with_reducible assumption) | ((with_reducible refine Keep.setCell ?_ ?_ _); rotate_left; focus (first | omega | (simp; done) | (simp; omega))) | (with_reducible refine Keep.alloc ?_ _) | (with_reducible refine Keep.drewN ?_ _) | (with_reducible refine Keep.drew ?_) | (with_reducible exact Keep.refl _) | refine Keep.trans ?_ (by with_reducible assumption) | exact Keep.refl _ | assumption))))⟩
  case round =>
    obtain ⟨i, hi, rfl, hown, hk⟩ := hrel
    by_cases hlt : i < l.length
    · obtain ⟨bb, o, rfl, hc⟩ := (hR.keep hk).at (k := i) (by rw [cds_len]; omega)
      have hcell := hc _ _ (cds_at l i hlt).1
      have hcell2 := hc _ _ (cds_at l i hlt).2.1
      have hcell3 := hc _ _ (cds_at l i hlt).2.2
      rw [← Nat.add_assoc] at hcell2 hcell3
      have HS := Aside.mk (filledC_set l i hlt)
      have HO := Aside.mk hown
      clear hc hown
      generalize l[i].s = s at *
      generalize l[i].a = a at *
      generalize l[i].b = b at *
      (go_wp2_with fail); (go_at_call 87); (refine (card_to _ _ _ _).mono ?_); rintro e w2 ⟨rfl, hk2⟩
      have hown := own_keep HO.out hk2
      have hcA := (hown.cellAt (i * 3) (by omega)).trans (filledC_at l i hlt).1
      have hcB := (hown.cellAt (i * 3 + 1) (by omega)).trans (filledC_at l i hlt).2.1
      have hcC := (hown.cellAt (i * 3 + 2) (by omega)).trans (filledC_at l i hlt).2.2
      have hfA := hown.frozenAt (i * 3)
      have hfB := hown.frozenAt (i * 3 + 1)
      have hfC := hown.frozenAt (i * 3 + 2)
      have k2 : Keep w w2 := (by ((repeat (first | (with_reducible assumption) | ((with_reducible refine Keep.setCell ?_ ?_ _); rotate_left; focus (first | omega | (simp; done) | (simp; omega))) | (with_reducible refine Keep.alloc ?_ _) | (with_reducible refine Keep.drewN ?_ _) | (with_reducible refine Keep.drew ?_) | (with_reducible exact Keep.refl _) | refine Keep.trans ?_ (by with_reducible assumption) | exact Keep.refl _ | assumption))))
      have HO2 := Aside.mk hown
      clear hown HO hk2 hcell hcell2 hcell3
      go_wp2
      have hst := (((HO2.out.stored (i * 3) (.string s)).1.stored (i * 3 + 1) (.int .u64 (U a))).1.stored (i * 3 + 2) (.int .u64 (U b))).1
      rw [HS.out] at hst
      have HO3 := Aside.mk hst
      clear hst
      go_roundg (l.length - (i + 1))
      case measure => omega
      case rel => exact ⟨i + 1, by omega, by go_num, HO3.out, (by ((repeat (first | (with_reducible assumption) | ((with_reducible refine Keep.setCell ?_ ?_ _); rotate_left; focus (first | omega | (simp; done) | (simp; omega))) | (with_reducible refine Keep.alloc ?_ _) | (with_reducible refine Keep.drewN ?_ _) | (with_reducible refine Keep.drew ?_) | (with_reducible exact Keep.refl _) | refine Keep.trans ?_ (by with_reducible assumption) | exact Keep.refl _ | assumption))))⟩
    · have e2 : i = l.length := by omega
      subst e2
      rw [filledC_end] at hown
      have HO := Aside.mk hown
      clear hown
      go_wp2
      go_ret; exact ⟨_, rfl, HO.out, (by ((repeat (first | (with_reducible assumption) | ((with_reducible refine Keep.setCell ?_ ?_ _); rotate_left; focus (first | omega | (simp; done) | (simp; omega))) | (with_reducible refine Keep.alloc ?_ _) | (with_reducible refine Keep.drewN ?_ _) | (with_reducible refine Keep.drew ?_) | (with_reducible exact Keep.refl _) | refine Keep.trans ?_ (by with_reducible assumption) | exact Keep.refl _ | assumption))))⟩
theorem laws_eqCardS (A B : Option Addr) (l : List Cd) (c d : Nat) (w : World) (hn : l.length ≤ 1048576) (hR : Rd w A (cds l)) (hS : Rd w B (cds l)) :
    Calls Tryd.prog 30 #[.slice A l.length c, .slice B l.length d] w fun e w' => e = .returned (.bool true) ∧ Keep w w' := by
  go_enter Tryd.func30, Tryd.ntmps30
  go_wp2_with fail
  go_loopg [5] l.length (fun k s wr => ∃ i : Nat, i + k = l.length ∧ s = .int .i64 i ∧ Keep w wr)
  case atStart => exact ⟨0, by omega, rfl, (by ((repeat (first | (with_reducible assumption) | ((with_reducible refine Keep.setCell ?_ ?_ _); rotate_left; focus (first | omega | (simp; done) | (simp; omega))) | (with_reducible refine Keep.alloc ?_ _) | (with_reducible refine Keep.drewN ?_ _) | (with_reducible refine Keep.drew ?_) | (with_reducible exact Keep.refl _) | refine Keep.trans ?_ (by with_reducible assumption) | exact Keep.refl _ | assumption))))⟩
  case round =>
    obtain ⟨i, hi, rfl, hk0⟩ := hrel
    by_cases hlt : i < l.length
    · obtain ⟨bb, o, rfl, hc⟩ := (hR.keep hk0).at (k := i) (by rw [cds_len]; omega)
      obtain ⟨b2, o2, rfl, hc2⟩ := (hS.keep hk0).at (k := i) (by rw [cds_len]; omega)
      have p1 := hc _ _ (cds_at l i hlt).1
      have p2 := hc _ _ (cds_at l i hlt).2.1
      have p3 := hc _ _ (cds_at l i hlt).2.2
      have p4 := hc2 _ _ (cds_at l i hlt).1
      have p5 := hc2 _ _ (cds_at l i hlt).2.1
      have p6 := hc2 _ _ (cds_at l i hlt).2.2
      rw [← Nat.add_assoc] at p2 p3 p5 p6
      clear hc hc2
      generalize l[i].s = s at *
      generalize l[i].a = a at *
      generalize l[i].b = b at *
      go_wp2_with fail
      refine wp_region_keep (by kernel_rfl) (by kernel_rfl) ?_
      repeat
        first
          | (apply QuietL.run
             focus go_simp
             focus
               intro w2 hk
               have p1' := hk.cell p1
               have p2' := hk.cell p2
               have p3' := hk.cell p3
               have p4' := hk.cell p4
               have p5' := hk.cell p5
               have p6' := hk.cell p6
               apply QAt.mk
               go_simp
               first
                 | done
                 | exact rfl
                 | (go_at_call 88; exact quiet_call hk (card_eq _ _ _ _))
             simp only [Act.put, List.setIfInBounds_toArray, List.set_cons_succ, List.set_cons_zero])
          | (apply QuietL.skip
             focus go_simp
             simp only [Act.put, List.setIfInBounds_toArray, List.set_cons_succ, List.set_cons_zero])
      apply QuietL.nil
      intro w2 hk
      have p1' := hk.cell p1
      have p2' := hk.cell p2
      have p3' := hk.cell p3
      have p4' := hk.cell p4
      have p5' := hk.cell p5
      have p6' := hk.cell p6
      go_wp2
      go_roundg (l.length - (i + 1))
      case measure => omega
      case rel => exact ⟨i + 1, by omega, by go_num, (by ((repeat (first | (with_reducible assumption) | ((with_reducible refine Keep.setCell ?_ ?_ _); rotate_left; focus (first | omega | (simp; done) | (simp; omega))) | (with_reducible refine Keep.alloc ?_ _) | (with_reducible refine Keep.drewN ?_ _) | (with_reducible refine Keep.drew ?_) | (with_reducible exact Keep.refl _) | refine Keep.trans ?_ (by with_reducible assumption) | exact Keep.refl _ | assumption))))⟩
    · have e2 : i = l.length := by omega
      subst e2
      go_wp2
      go_ret; exact ⟨rfl, (by ((repeat (first | (with_reducible assumption) | ((with_reducible refine Keep.setCell ?_ ?_ _); rotate_left; focus (first | omega | (simp; done) | (simp; omega))) | (with_reducible refine Keep.alloc ?_ _) | (with_reducible refine Keep.drewN ?_ _) | (with_reducible refine Keep.drew ?_) | (with_reducible exact Keep.refl _) | refine Keep.trans ?_ (by with_reducible assumption) | exact Keep.refl _ | assumption))))⟩
end Go.Proofs.YtpmilcfppcmodaaDoor

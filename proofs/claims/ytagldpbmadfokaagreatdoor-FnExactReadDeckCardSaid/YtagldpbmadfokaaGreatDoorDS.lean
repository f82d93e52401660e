/- What the laws do with lists of cards: sizes, copies, comparisons. -/
import Derived.Test.YtagldpbmadfokaaGreatDoorD1
import Derived.Test.YtagldpbmadfokaaGreatDoorS3
import Derived.Test.YtagldpbmadfokaaGreatDoorW3
set_option linter.unusedVariables false
set_option linter.unusedSimpArgs false
namespace Go.Proofs.YtagldpbmadfokaaGreatDoor
open Go.RowKit
set_option maxHeartbeats 1000000
set_option maxRecDepth 20000
theorem cardE_info : (Tryz.prog.info? 34).map (fun i => (i.zero, i.size, i.bytes)) = some (some (.agg #[.string ByteArray.empty, .int .u64 0, .int .u64 0]), 3, 32) := by kernel_rfl
/-- The cells of empty cards in a row. -/
def zcs : Nat → List Value
  | 0 => []
  | n + 1 => .string ByteArray.empty :: .int .u64 0 :: .int .u64 0 :: zcs n
theorem zcs_len : ∀ n, (zcs n).length = n * 3
  | 0 => rfl
  | n + 1 => by simp only [zcs, List.length_cons, zcs_len n]; omega
theorem zcs_get : ∀ (n i : Nat), i < n * 3 → (zcs n)[i]? = some (if i % 3 = 0 then .string ByteArray.empty else .int .u64 0)
  | 0, i, h => by omega
  | n + 1, 0, h => rfl
  | n + 1, 1, h => rfl
  | n + 1, 2, h => rfl
  | n + 1, i + 3, h => by
    have := zcs_get n i (by omega)
    simp only [zcs, List.getElem?_cons_succ, this]
    rw [show (i + 3) % 3 = i % 3 by omega]
theorem made3 (n : Nat) : (madeCells #[Value.string ByteArray.empty, Value.int .u64 0, Value.int .u64 0] (n * 3)).toList = zcs n := by
  apply List.ext_getElem?
  intro i
  by_cases h : i < n * 3
  · rw [zcs_get n i h]
    have h3 := Nat.mod_lt i (show 0 < 3 by decide)
    simp only [madeCells, Array.toList_map, List.getElem?_map]
    have e : (Array.range (n * 3)).toList[i]? = some i := by simp [h]
    rw [e]
    simp only [Option.map_some]
    rcases (show i % 3 = 0 ∨ i % 3 = 1 ∨ i % 3 = 2 by omega) with h1 | h1 | h1 <;> simp [h1]
  · rw [List.getElem?_eq_none (by simp [madeCells]; omega), List.getElem?_eq_none (by rw [zcs_len]; omega)]
def filledC (l : List Cd) (i : Nat) : List Value := cds (l.take i) ++ zcs (l.length - i)
theorem filledC_zero (l : List Cd) : filledC l 0 = zcs l.length := by simp [filledC, cds]
theorem filledC_end (l : List Cd) : filledC l l.length = cds l := by simp [filledC, zcs]
theorem filledC_pre (l : List Cd) (i : Nat) (h : i ≤ l.length) : (cds (l.take i)).length = i * 3 := by rw [cds_len, List.length_take]; omega
theorem filledC_at (l : List Cd) (i : Nat) (h : i < l.length) : (filledC l i)[i * 3]? = some (.string ByteArray.empty) ∧ (filledC l i)[i * 3 + 1]? = some (.int .u64 0) ∧ (filledC l i)[i * 3 + 2]? = some (.int .u64 0) := by
  have e := filledC_pre l i (by omega)
  refine ⟨?_, ?_, ?_⟩
  · rw [filledC, List.getElem?_append_right (by omega), e, Nat.sub_self, zcs_get _ _ (by omega)]; rfl
  · rw [filledC, List.getElem?_append_right (by omega), e, show i * 3 + 1 - i * 3 = 1 by omega, zcs_get _ _ (by omega)]; rfl
  · rw [filledC, List.getElem?_append_right (by omega), e, show i * 3 + 2 - i * 3 = 2 by omega, zcs_get _ _ (by omega)]; rfl
theorem filledC_set (l : List Cd) (i : Nat) (h : i < l.length) : (((filledC l i).set (i * 3) (.string l[i].s)).set (i * 3 + 1) (.int .u64 (U l[i].a))).set (i * 3 + 2) (.int .u64 (U l[i].b)) = filledC l (i + 1) := by
  have e := filledC_pre l i (by omega)
  rw [filledC, show l.length - i = (l.length - (i + 1)) + 1 by omega, zcs, List.set_append_right _ _ (by omega), e, Nat.sub_self, List.set_cons_zero,
    List.set_append_right _ _ (by omega), e, show i * 3 + 1 - i * 3 = 1 by omega, List.set_cons_succ, List.set_cons_zero,
    List.set_append_right _ _ (by omega), e, show i * 3 + 2 - i * 3 = 2 by omega, List.set_cons_succ, List.set_cons_succ, List.set_cons_zero, filledC,
    List.take_succ_eq_append_getElem h, cds_app, List.append_assoc]
  rfl
theorem own_rdc {w : World} {base sz : Nat} {e : TypeId} {A : Option Addr} {n c : Nat} {xs : List Value} (h : w.ownsRow base e sz (.slice A n c) n xs) : Rd w A xs := by
  obtain ⟨A', c', hv, hR, _⟩ := own_row h
  simp only [Value.slice.injEq] at hv
  rw [hv.1]; exact hR
theorem card_eq (s : ByteArray) (a b : Wd) (w : World) :
    Calls Tryz.prog 15 #[.agg #[.string s, .int .u64 (U a), .int .u64 (U b)], .agg #[.string s, .int .u64 (U a), .int .u64 (U b)]] w fun e w' => e = .returned (.bool true) ∧ Keep w w' := by
  go_enter Tryz.func15, Tryz.ntmps15
  (go_wp2_with fail); (go_at_call 32); (refine (laws_eqMask_self _ _ _).mono ?_); rintro e w1 ⟨rfl, hk1⟩
  go_wp2
  go_ret; exact ⟨rfl, (by ((repeat (first | (with_reducible assumption) | ((with_reducible refine Keep.setCell ?_ ?_ _); rotate_left; focus (first | omega | (simp; done) | (simp; omega))) | (with_reducible refine Keep.alloc ?_ _) | (with_reducible refine Keep.drewN ?_ _) | (with_reducible refine Keep.drew ?_) | (with_reducible exact Keep.refl _) | refine Keep.trans ?_ (by with_reducible assumption) | exact Keep.refl _ | assumption))))⟩
theorem laws_eqCardS (A B : Option Addr) (l : List Cd) (c d : Nat) (w : World) (hn : l.length ≤ 1048576) (hR : Rd w A (cds l)) (hS : Rd w B (cds l)) :
    Calls Tryz.prog 6 #[.slice A l.length c, .slice B l.length d] w fun e w' => e = .returned (.bool true) ∧ Keep w w' := by
  go_enter Tryz.func6, Tryz.ntmps6
  go_wp2_with fail
  go_loopg [5] l.length (fun k s wr => ∃ i : Nat, i + k = l.length ∧ s = .int .i64 i ∧ Keep w wr)
  case atStart => exact ⟨0, by omega, rfl, (by ((repeat (first | (with_reducible assumption) | ((with_reducible refine Keep.setCell ?_ ?_ _); rotate_left; focus (first | omega | (simp; done) | (simp; omega))) | (with_reducible refine Keep.alloc ?_ _) | (with_reducible refine Keep.drewN ?_ _) | (with_reducible refine Keep.drew ?_) | (with_reducible exact Keep.refl _) | refine Keep.trans ?_ (by with_reducible assumption) | exact Keep.refl _ | assumption))))⟩
  case round =>
    obtain ⟨i, hi, rfl, hk0⟩ := hrel
    by_cases hlt : i < l.length
    · obtain ⟨bb, o, rfl, hc⟩ := (hR.keep hk0).at (k := i) (by rw [cds_len]; omega)
      obtain ⟨b2, o2, rfl, hc2⟩ := (hS.keep hk0).at (k := i) (by rw [cds_len]; omega)
      have p1 := hc _ _ (cds_at l i hlt).1
      have p2 := hc _ _ (cds_at l i hlt).2.1
      have p3 := hc _ _ (cds_at l i hlt).2.2
      have p4 := hc2 _ _ (cds_at l i hlt).1
      have p5 := hc2 _ _ (cds_at l i hlt).2.1
      have p6 := hc2 _ _ (cds_at l i hlt).2.2
      rw [← Nat.add_assoc] at p2 p3 p5 p6
      clear hc hc2
      generalize l[i].s = s at *
      generalize l[i].a = a at *
      generalize l[i].b = b at *
      go_wp2_with fail
      refine wp_region_keep (by kernel_rfl) (by kernel_rfl) ?_
      repeat
        first
          | (apply QuietL.run
             focus go_simp
             focus
               intro w2 hk
               have p1' := hk.cell p1
               have p2' := hk.cell p2
               have p3' := hk.cell p3
               have p4' := hk.cell p4
               have p5' := hk.cell p5
               have p6' := hk.cell p6
               apply QAt.mk
               go_simp
               first
                 | done
                 | exact rfl
                 | (go_at_call 15; exact quiet_call hk (card_eq _ _ _ _))
             simp only [Act.put, List.setIfInBounds_toArray, List.set_cons_succ, List.set_cons_zero])
          | (apply QuietL.skip
             focus go_simp
             simp only [Act.put, List.setIfInBounds_toArray, List.set_cons_succ, List.set_cons_zero])
      apply QuietL.nil
      intro w2 hk
      have p1' := hk.cell p1
      have p2' := hk.cell p2
      have p3' := hk.cell p3
      have p4' := hk.cell p4
      have p5' := hk.cell p5
      have p6' := hk.cell p6
      go_wp2
      go_roundg (l.length - (i + 1))
      case measure => omega
      case rel => exact ⟨i + 1, by omega, by go_num, (by ((repeat (first | (with_reducible assumption) | ((with_reducible refine Keep.setCell ?_ ?_ _); rotate_left; focus (first | omega | (simp; done) | (simp; omega))) | (with_reducible refine Keep.alloc ?_ _) | (with_reducible refine Keep.drewN ?_ _) | (with_reducible refine Keep.drew ?_) | (with_reducible exact Keep.refl _) | refine Keep.trans ?_ (by with_reducible assumption) | exact Keep.refl _ | assumption))))⟩
    · have e2 : i = l.length := by omega
      subst e2
      go_wp2
      go_ret; exact ⟨rfl, (by ((repeat (first | (with_reducible assumption) | ((with_reducible refine Keep.setCell ?_ ?_ _); rotate_left; focus (first | omega | (simp; done) | (simp; omega))) | (with_reducible refine Keep.alloc ?_ _) | (with_reducible refine Keep.drewN ?_ _) | (with_reducible refine Keep.drew ?_) | (with_reducible exact Keep.refl _) | refine Keep.trans ?_ (by with_reducible assumption) | exact Keep.refl _ | assumption))))⟩
end Go.Proofs.YtagldpbmadfokaaGreatDoor

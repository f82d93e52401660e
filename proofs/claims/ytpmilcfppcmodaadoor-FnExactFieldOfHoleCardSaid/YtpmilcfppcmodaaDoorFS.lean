/- What the laws do with lists of fields and of queries: copies and comparisons. -/
import Derived.Test.YtpmilcfppcmodaaDoorFD
import Derived.Test.YtpmilcfppcmodaaDoorS3
import Derived.Test.YtpmilcfppcmodaaDoorW3
import Derived.Test.YtpmilcfppcmodaaDoorW2
set_option linter.unusedVariables false
set_option linter.unusedSimpArgs false
namespace Go.Proofs.YtpmilcfppcmodaaDoor
open Go.RowKit
set_option maxHeartbeats 1000000
set_option maxRecDepth 20000
/-- So many times these cells. -/
def zz (z : List Value) : Nat → List Value
  | 0 => []
  | n + 1 => z ++ zz z n
theorem zz_len (z : List Value) (k : Nat) (hz : z.length = k) : ∀ n, (zz z n).length = n * k
  | 0 => by simp [zz]
  | n + 1 => by rw [zz, List.length_append, zz_len z k hz n, hz, Nat.succ_mul]; omega
theorem zz_get4 (z : List Value) (hz : z.length = 4) : ∀ (n i : Nat), i < n * 4 → (zz z n)[i]? = z[i % 4]?
  | 0, i, h => by omega
  | n + 1, i, h => by
    rw [zz]
    by_cases hi : i < 4
    · rw [List.getElem?_append_left (by omega), Nat.mod_eq_of_lt hi]
    · rw [List.getElem?_append_right (by omega), hz, zz_get4 z hz n (i - 4) (by omega)]
      congr 1; omega
theorem made4 (x y u v : Value) (n : Nat) : (madeCells #[x, y, u, v] (n * 4)).toList = zz [x, y, u, v] n := by
  apply List.ext_getElem?
  intro i
  by_cases h : i < n * 4
  · rw [zz_get4 _ rfl n i h]
    have h3 := Nat.mod_lt i (show 0 < 4 by decide)
    simp only [madeCells, Array.toList_map, List.getElem?_map]
    have e : (Array.range (n * 4)).toList[i]? = some i := by simp [h]
    rw [e]
    simp only [Option.map_some]
    rcases (show i % 4 = 0 ∨ i % 4 = 1 ∨ i % 4 = 2 ∨ i % 4 = 3 by omega) with h1 | h1 | h1 | h1 <;> simp [h1]
  · rw [List.getElem?_eq_none (by simp [madeCells]; omega), List.getElem?_eq_none (by rw [zz_len _ 4 rfl]; omega)]
theorem own_rdf {w : World} {base sz : Nat} {e : TypeId} {A : Option Addr} {n c : Nat} {xs : List Value} (h : w.ownsRow base e sz (.slice A n c) n xs) : Rd w A xs := by
  obtain ⟨A', c', hv, hR, _⟩ := own_row h
  simp only [Value.slice.injEq] at hv
  rw [hv.1]; exact hR
theorem fdsE_info : (Tryd.prog.info? 89).map (fun i => (i.zero, i.size, i.bytes)) = some (some (.agg #[.string ByteArray.empty, .int .i8 0, .int .i16 0, .int .i16 0]), 4, 24) := by kernel_rfl
def filledfds (l : List Fd) (i : Nat) : List Value := fds (l.take i) ++ zz [.string ByteArray.empty, .int .i8 0, .int .i16 0, .int .i16 0] (l.length - i)
theorem filledfds_zero (l : List Fd) : filledfds l 0 = zz [.string ByteArray.empty, .int .i8 0, .int .i16 0, .int .i16 0] l.length := by simp [filledfds, fds]
theorem filledfds_end (l : List Fd) : filledfds l l.length = fds l := by simp [filledfds, zz]
theorem filledfds_pre (l : List Fd) (i : Nat) (h : i ≤ l.length) : (fds (l.take i)).length = i * 4 := by rw [fds_len, List.length_take]; omega
theorem filledfds_at (l : List Fd) (i j : Nat) (h : i < l.length) (hj : j < 4) : (filledfds l i)[i * 4 + j]? = [.string ByteArray.empty, .int .i8 0, .int .i16 0, .int .i16 0][j]? := by
  have e := filledfds_pre l i (by omega)
  rw [filledfds, List.getElem?_append_right (by omega), e, show i * 4 + j - i * 4 = j by omega, zz_get4 _ rfl _ _ (by omega), Nat.mod_eq_of_lt hj]
theorem filledfds_set (l : List Fd) (i : Nat) (h : i < l.length) : ((((filledfds l i).set (i * 4) (.string l[i].s)).set (i * 4 + 1) (.int .i8 l[i].k)).set (i * 4 + 2) (.int .i16 l[i].st)).set (i * 4 + 3) (.int .i16 l[i].sz) = filledfds l (i + 1) := by
  have e := filledfds_pre l i (by omega)
  rw [filledfds, show l.length - i = (l.length - (i + 1)) + 1 by omega, zz, List.set_append_right _ _ (by omega), e, Nat.sub_self,
    List.set_append_right _ _ (by omega), e, show i * 4 + 1 - i * 4 = 1 by omega, List.set_append_right _ _ (by omega), e, show i * 4 + 2 - i * 4 = 2 by omega,
    List.set_append_right _ _ (by omega), e, show i * 4 + 3 - i * 4 = 3 by omega, filledfds, List.take_succ_eq_append_getElem h, fds_app, List.append_assoc]
  rfl
theorem qysE_info : (Tryd.prog.info? 35).map (fun i => (i.zero, i.size, i.bytes)) = some (some (.agg #[.int .u64 0, .int .u64 0, .int .u64 0, .int .u64 0]), 4, 32) := by kernel_rfl
def filledqys (l : List Qy) (i : Nat) : List Value := qys (l.take i) ++ zz [.int .u64 0, .int .u64 0, .int .u64 0, .int .u64 0] (l.length - i)
theorem filledqys_zero (l : List Qy) : filledqys l 0 = zz [.int .u64 0, .int .u64 0, .int .u64 0, .int .u64 0] l.length := by simp [filledqys, qys]
theorem filledqys_end (l : List Qy) : filledqys l l.length = qys l := by simp [filledqys, zz]
theorem filledqys_pre (l : List Qy) (i : Nat) (h : i ≤ l.length) : (qys (l.take i)).length = i * 4 := by rw [qys_len, List.length_take]; omega
theorem filledqys_at (l : List Qy) (i j : Nat) (h : i < l.length) (hj : j < 4) : (filledqys l i)[i * 4 + j]? = [.int .u64 0, .int .u64 0, .int .u64 0, .int .u64 0][j]? := by
  have e := filledqys_pre l i (by omega)
  rw [filledqys, List.getElem?_append_right (by omega), e, show i * 4 + j - i * 4 = j by omega, zz_get4 _ rfl _ _ (by omega), Nat.mod_eq_of_lt hj]
theorem filledqys_set (l : List Qy) (i : Nat) (h : i < l.length) : ((((filledqys l i).set (i * 4) (.int .u64 (U l[i].a))).set (i * 4 + 1) (.int .u64 (U l[i].b))).set (i * 4 + 2) (.int .u64 (U l[i].c))).set (i * 4 + 3) (.int .u64 (U l[i].d)) = filledqys l (i + 1) := by
  have e := filledqys_pre l i (by omega)
  rw [filledqys, show l.length - i = (l.length - (i + 1)) + 1 by omega, zz, List.set_append_right _ _ (by omega), e, Nat.sub_self,
    List.set_append_right _ _ (by omega), e, show i * 4 + 1 - i * 4 = 1 by omega, List.set_append_right _ _ (by omega), e, show i * 4 + 2 - i * 4 = 2 by omega,
    List.set_append_right _ _ (by omega), e, show i * 4 + 3 - i * 4 = 3 by omega, filledqys, List.take_succ_eq_append_getElem h, qys_app, List.append_assoc]
  rfl
theorem field_to (s : ByteArray) (k st sz : Int) (w : World) :
    Calls Tryd.prog 61 #[.agg #[.string s, .int .i8 k, .int .i16 st, .int .i16 sz]] w fun e w' => e = .returned (.agg #[.string s, .int .i8 k, .int .i16 st, .int .i16 sz]) ∧ Keep w w' := by
  go_enter Tryd.func61, Tryd.ntmps61
  go_wp2
  (apply bodyPost_ret; rotate_left; rfl; exact ⟨rfl, (by ((repeat (first | (with_reducible assumption) | ((with_reducible refine Keep.setCell ?_ ?_ _); rotate_left; focus (first | omega | (simp; done) | (simp; omega))) | (with_reducible refine Keep.alloc ?_ _) | (with_reducible refine Keep.drewN ?_ _) | (with_reducible refine Keep.drew ?_) | (with_reducible exact Keep.refl _) | refine Keep.trans ?_ (by with_reducible assumption) | exact Keep.refl _ | assumption))))⟩; simp [results, Tryd.results61, go_sem, U_zero, *])
theorem field_eq (s : ByteArray) (k st sz : Int) (w : World) :
    Calls Tryd.prog 92 #[.agg #[.string s, .int .i8 k, .int .i16 st, .int .i16 sz], .agg #[.string s, .int .i8 k, .int .i16 st, .int .i16 sz]] w fun e w' => e = .returned (.bool true) ∧ Keep w w' := by
  go_enter Tryd.func92, Tryd.ntmps92
  go_wp2
  go_ret; exact ⟨rfl, (by ((repeat (first | (with_reducible assumption) | ((with_reducible refine Keep.setCell ?_ ?_ _); rotate_left; focus (first | omega | (simp; done) | (simp; omega))) | (with_reducible refine Keep.alloc ?_ _) | (with_reducible refine Keep.drewN ?_ _) | (with_reducible refine Keep.drew ?_) | (with_reducible exact Keep.refl _) | refine Keep.trans ?_ (by with_reducible assumption) | exact Keep.refl _ | assumption))))⟩
theorem laws_toFieldS (A : Option Addr) (l : List Fd) (c : Nat) (w : World) (hn : l.length ≤ 1048576) (hR : Rd w A (fds l)) :
    Calls Tryd.prog 35 #[.slice A l.length c] w fun e w' => ∃ g, e = .returned (.slice (some ⟨g, 0, none⟩) l.length l.length) ∧ w'.ownsRow w.heap.size 89 4 (.slice (some ⟨g, 0, none⟩) l.length l.length) l.length (fds l) ∧ Keep w w' := by
  obtain ⟨i0, hi0, hz0, hz1, hz2⟩ := info_parts fdsE_info
  go_enter Tryd.func35, Tryd.ntmps35
  go_wp2_with (at_make; refine wpList_make_full _ rfl _ _ 24 rfl w.heap.size 89 i0 (.agg #[.string ByteArray.empty, .int .i8 0, .int .i16 0, .int .i16 0]) 4 Tryd.underlying24 hi0 hz0 hz1 .i64 .i64 l.length l.length l.length rfl rfl rfl rfl ?b2 ?b3 ?b4 ?_)
  case b2 => rw [hz2]; omega
  case b3 => unfold maxLen; omega
  case b4 => exact Nat.le_refl _
  intro w1 hown hg
  have hmade : (madeCells #[.string ByteArray.empty, .int .i8 0, .int .i16 0, .int .i16 0] (l.length * 4)).toList = filledfds l 0 := by rw [filledfds_zero]; exact made4 _ _ _ _ _
  rw [hmade] at hown
  have HO := Aside.mk hown
  have hk1 : Keep w w1 := (Keep.refl w).grown hg (by intro k hk; cases hk)
  clear hown hg hmade
  go_wp2_with fail
  go_loopg [4] l.length (fun k s wr => ∃ i : Nat, i + k = l.length ∧ s = .int .i64 i ∧ wr.ownsRow w.heap.size 89 4 (.slice (some ⟨w.heap.size, 0, none⟩) l.length l.length) l.length (filledfds l i) ∧ Keep w wr)
  case atStart => exact ⟨0, by omega, rfl, HO.out, (by ((repeat (first | (with_reducible assumption) | ((with_reducible refine Keep.setCell ?_ ?_ _); rotate_left; focus (first | omega | (simp; done) | (simp; omega))) | (with_reducible refine Keep.alloc ?_ _) | (with_reducible refine Keep.drewN ?_ _) | (with_reducible refine Keep.drew ?_) | (with_reducible exact Keep.refl _) | refine Keep.trans ?_ (by with_reducible assumption) | exact Keep.refl _ | assumption))))⟩
  case round =>
    obtain ⟨i, hi, rfl, hown, hk⟩ := hrel
    by_cases hlt : i < l.length
    · obtain ⟨bb, o, rfl, hc⟩ := (hR.keep hk).at (k := i) (by rw [fds_len]; omega)
      have p1 := hc _ _ (fds_at l i hlt).1
      have p2 := hc _ _ (fds_at l i hlt).2.1
      have p3 := hc _ _ (fds_at l i hlt).2.2.1
      have p4 := hc _ _ (fds_at l i hlt).2.2.2
      rw [← Nat.add_assoc] at p2 p3 p4
      have HS := Aside.mk (filledfds_set l i hlt)
      have HO := Aside.mk hown
      clear hc hown
      generalize l[i].s = s at *
      generalize l[i].k = k at *
      generalize l[i].st = st at *
      generalize l[i].sz = sz at *
      (go_wp2_with fail); (go_at_call 61); (refine (field_to _ _ _ _ _).mono ?_); rintro e w2 ⟨rfl, hk2⟩
      have hown := own_keep HO.out hk2
      have hcA := (hown.cellAt (i * 4) (by omega)).trans (filledfds_at l i 0 hlt (by decide))
      have hcB := (hown.cellAt (i * 4 + 1) (by omega)).trans (filledfds_at l i 1 hlt (by decide))
      have hcC := (hown.cellAt (i * 4 + 2) (by omega)).trans (filledfds_at l i 2 hlt (by decide))
      have hcD := (hown.cellAt (i * 4 + 3) (by omega)).trans (filledfds_at l i 3 hlt (by decide))
      have hfA := hown.frozenAt (i * 4)
      have hfB := hown.frozenAt (i * 4 + 1)
      have hfC := hown.frozenAt (i * 4 + 2)
      have hfD := hown.frozenAt (i * 4 + 3)
      have k2 : Keep w w2 := (by ((repeat (first | (with_reducible assumption) | ((with_reducible refine Keep.setCell ?_ ?_ _); rotate_left; focus (first | omega | (simp; done) | (simp; omega))) | (with_reducible refine Keep.alloc ?_ _) | (with_reducible refine Keep.drewN ?_ _) | (with_reducible refine Keep.drew ?_) | (with_reducible exact Keep.refl _) | refine Keep.trans ?_ (by with_reducible assumption) | exact Keep.refl _ | assumption))))
      have HO2 := Aside.mk hown
      simp only [List.getElem?_cons_zero, List.getElem?_cons_succ] at hcA hcB hcC hcD
      clear hown HO hk2 p1 p2 p3 p4
      go_wp2
      have hst := ((((HO2.out.stored (i * 4) (.string s)).1.stored (i * 4 + 1) (.int .i8 k)).1.stored (i * 4 + 2) (.int .i16 st)).1.stored (i * 4 + 3) (.int .i16 sz)).1
      rw [HS.out] at hst
      have HO3 := Aside.mk hst
      clear hst
      go_roundg (l.length - (i + 1))
      case measure => omega
      case rel => exact ⟨i + 1, by omega, by go_num, HO3.out, (by ((repeat (first | (with_reducible assumption) | ((with_reducible refine Keep.setCell ?_ ?_ _); rotate_left; focus (first | omega | (simp; done) | (simp; omega))) | (with_reducible refine Keep.alloc ?_ _) | (with_reducible refine Keep.drewN ?_ _) | (with_reducible refine Keep.drew ?_) | (with_reducible exact Keep.refl _) | refine Keep.trans ?_ (by with_reducible assumption) | exact Keep.refl _ | assumption))))⟩
    · have e2 : i = l.length := by omega
      subst e2
      rw [filledfds_end] at hown
      have HO := Aside.mk hown
      clear hown
      go_wp2
      go_ret; exact ⟨_, rfl, HO.out, (by ((repeat (first | (with_reducible assumption) | ((with_reducible refine Keep.setCell ?_ ?_ _); rotate_left; focus (first | omega | (simp; done) | (simp; omega))) | (with_reducible refine Keep.alloc ?_ _) | (with_reducible refine Keep.drewN ?_ _) | (with_reducible refine Keep.drew ?_) | (with_reducible exact Keep.refl _) | refine Keep.trans ?_ (by with_reducible assumption) | exact Keep.refl _ | assumption))))⟩
theorem laws_eqFieldS (A B : Option Addr) (l : List Fd) (c d : Nat) (w : World) (hn : l.length ≤ 1048576) (hR : Rd w A (fds l)) (hS : Rd w B (fds l)) :
    Calls Tryd.prog 37 #[.slice A l.length c, .slice B l.length d] w fun e w' => e = .returned (.bool true) ∧ Keep w w' := by
  go_enter Tryd.func37, Tryd.ntmps37
  go_wp2_with fail
  go_loopg [5] l.length (fun k s wr => ∃ i : Nat, i + k = l.length ∧ s = .int .i64 i ∧ Keep w wr)
  case atStart => exact ⟨0, by omega, rfl, (by ((repeat (first | (with_reducible assumption) | ((with_reducible refine Keep.setCell ?_ ?_ _); rotate_left; focus (first | omega | (simp; done) | (simp; omega))) | (with_reducible refine Keep.alloc ?_ _) | (with_reducible refine Keep.drewN ?_ _) | (with_reducible refine Keep.drew ?_) | (with_reducible exact Keep.refl _) | refine Keep.trans ?_ (by with_reducible assumption) | exact Keep.refl _ | assumption))))⟩
  case round =>
    obtain ⟨i, hi, rfl, hk0⟩ := hrel
    by_cases hlt : i < l.length
    · obtain ⟨bb, o, rfl, hc⟩ := (hR.keep hk0).at (k := i) (by rw [fds_len]; omega)
      obtain ⟨b2, o2, rfl, hc2⟩ := (hS.keep hk0).at (k := i) (by rw [fds_len]; omega)
      have p1 := hc _ _ (fds_at l i hlt).1
      have p2 := hc _ _ (fds_at l i hlt).2.1
      have p3 := hc _ _ (fds_at l i hlt).2.2.1
      have p4 := hc _ _ (fds_at l i hlt).2.2.2
      have q1 := hc2 _ _ (fds_at l i hlt).1
      have q2 := hc2 _ _ (fds_at l i hlt).2.1
      have q3 := hc2 _ _ (fds_at l i hlt).2.2.1
      have q4 := hc2 _ _ (fds_at l i hlt).2.2.2
      rw [← Nat.add_assoc] at p2 p3 p4 q2 q3 q4
      clear hc hc2
      generalize l[i].s = s at *
      generalize l[i].k = k at *
      generalize l[i].st = st at *
      generalize l[i].sz = sz at *
      go_wp2_with fail
      refine wp_region_keep (by kernel_rfl) (by kernel_rfl) ?_
      repeat
        first
          | (apply QuietL.run
             focus go_simp
             focus
               intro w2 hk
               have p1' := hk.cell p1
               have p2' := hk.cell p2
               have p3' := hk.cell p3
               have p4' := hk.cell p4
               have q1' := hk.cell q1
               have q2' := hk.cell q2
               have q3' := hk.cell q3
               have q4' := hk.cell q4
               apply QAt.mk
               go_simp
               first
                 | done
                 | exact rfl
                 | (go_at_call 92; exact quiet_call hk (field_eq _ _ _ _ _))
             simp only [Act.put, List.setIfInBounds_toArray, List.set_cons_succ, List.set_cons_zero])
          | (apply QuietL.skip
             focus go_simp
             simp only [Act.put, List.setIfInBounds_toArray, List.set_cons_succ, List.set_cons_zero])
      apply QuietL.nil
      intro w2 hk
      have p1' := hk.cell p1
      have p2' := hk.cell p2
      have p3' := hk.cell p3
      have p4' := hk.cell p4
      have q1' := hk.cell q1
      have q2' := hk.cell q2
      have q3' := hk.cell q3
      have q4' := hk.cell q4
      go_wp2
      go_roundg (l.length - (i + 1))
      case measure => omega
      case rel => exact ⟨i + 1, by omega, by go_num, (by ((repeat (first | (with_reducible assumption) | ((with_reducible refine Keep.setCell ?_ ?_ _); rotate_left; focus (first | omega | (simp; done) | (simp; omega))) | (with_reducible refine Keep.alloc ?_ _) | (with_reducible refine Keep.drewN ?_ _) | (with_reducible refine Keep.drew ?_) | (with_reducible exact Keep.refl _) | refine Keep.trans ?_ (by with_reducible assumption) | exact Keep.refl _ | assumption))))⟩
    · have e2 : i = l.length := by omega
      subst e2
      go_wp2
      go_ret; exact ⟨rfl, (by ((repeat (first | (with_reducible assumption) | ((with_reducible refine Keep.setCell ?_ ?_ _); rotate_left; focus (first | omega | (simp; done) | (simp; omega))) | (with_reducible refine Keep.alloc ?_ _) | (with_reducible refine Keep.drewN ?_ _) | (with_reducible refine Keep.drew ?_) | (with_reducible exact Keep.refl _) | refine Keep.trans ?_ (by with_reducible assumption) | exact Keep.refl _ | assumption))))⟩
theorem laws_toQueryS (A : Option Addr) (l : List Qy) (c : Nat) (w : World) (hn : l.length ≤ 1048576) (hR : Rd w A (qys l)) :
    Calls Tryd.prog 55 #[.slice A l.length c] w fun e w' => ∃ g, e = .returned (.slice (some ⟨g, 0, none⟩) l.length l.length) ∧ w'.ownsRow w.heap.size 35 4 (.slice (some ⟨g, 0, none⟩) l.length l.length) l.length (qys l) ∧ Keep w w' := by
  obtain ⟨i0, hi0, hz0, hz1, hz2⟩ := info_parts qysE_info
  go_enter Tryd.func55, Tryd.ntmps55
  go_wp2_with (at_make; refine wpList_make_full _ rfl _ _ 77 rfl w.heap.size 35 i0 (.agg #[.int .u64 0, .int .u64 0, .int .u64 0, .int .u64 0]) 4 Tryd.underlying77 hi0 hz0 hz1 .i64 .i64 l.length l.length l.length rfl rfl rfl rfl ?b2 ?b3 ?b4 ?_)
  case b2 => rw [hz2]; omega
  case b3 => unfold maxLen; omega
  case b4 => exact Nat.le_refl _
  intro w1 hown hg
  have hmade : (madeCells #[.int .u64 0, .int .u64 0, .int .u64 0, .int .u64 0] (l.length * 4)).toList = filledqys l 0 := by rw [filledqys_zero]; exact made4 _ _ _ _ _
  rw [hmade] at hown
  have HO := Aside.mk hown
  have hk1 : Keep w w1 := (Keep.refl w).grown hg (by intro k hk; cases hk)
  clear hown hg hmade
  go_wp2_with fail
  go_loopg [4] l.length (fun k s wr => ∃ i : Nat, i + k = l.length ∧ s = .int .i64 i ∧ wr.ownsRow w.heap.size 35 4 (.slice (some ⟨w.heap.size, 0, none⟩) l.length l.length) l.length (filledqys l i) ∧ Keep w wr)
  case atStart => exact ⟨0, by omega, rfl, HO.out, (by ((repeat (first | (with_reducible assumption) | ((with_reducible refine Keep.setCell ?_ ?_ _); rotate_left; focus (first | omega | (simp; done) | (simp; omega))) | (with_reducible refine Keep.alloc ?_ _) | (with_reducible refine Keep.drewN ?_ _) | (with_reducible refine Keep.drew ?_) | (with_reducible exact Keep.refl _) | refine Keep.trans ?_ (by with_reducible assumption) | exact Keep.refl _ | assumption))))⟩
  case round =>
    obtain ⟨i, hi, rfl, hown, hk⟩ := hrel
    by_cases hlt : i < l.length
    · obtain ⟨bb, o, rfl, hc⟩ := (hR.keep hk).at (k := i) (by rw [qys_len]; omega)
      have p1 := hc _ _ (qys_at l i hlt).1
      have p2 := hc _ _ (qys_at l i hlt).2.1
      have p3 := hc _ _ (qys_at l i hlt).2.2.1
      have p4 := hc _ _ (qys_at l i hlt).2.2.2
      rw [← Nat.add_assoc] at p2 p3 p4
      have HS := Aside.mk (filledqys_set l i hlt)
      have HO := Aside.mk hown
      clear hc hown
      generalize l[i].a = a at *
      generalize l[i].b = b at *
      generalize l[i].c = cc at *
      generalize l[i].d = d at *
      (go_wp2_with fail); (go_at_call 46); (refine (laws_toQuery _ _ _ _ _).mono ?_); rintro e w2 ⟨rfl, hk2⟩
      have hown := own_keep HO.out hk2
      have hcA := (hown.cellAt (i * 4) (by omega)).trans (filledqys_at l i 0 hlt (by decide))
      have hcB := (hown.cellAt (i * 4 + 1) (by omega)).trans (filledqys_at l i 1 hlt (by decide))
      have hcC := (hown.cellAt (i * 4 + 2) (by omega)).trans (filledqys_at l i 2 hlt (by decide))
      have hcD := (hown.cellAt (i * 4 + 3) (by omega)).trans (filledqys_at l i 3 hlt (by decide))
      have hfA := hown.frozenAt (i * 4)
      have hfB := hown.frozenAt (i * 4 + 1)
      have hfC := hown.frozenAt (i * 4 + 2)
      have hfD := hown.frozenAt (i * 4 + 3)
      have k2 : Keep w w2 := (by ((repeat (first | (with_reducible assumption) | ((with_reducible refine Keep.setCell ?_ ?_ _); rotate_left; focus (first | omega | (simp; done) | (simp; omega))) | (with_reducible refine Keep.alloc ?_ _) | (with_reducible refine Keep.drewN ?_ _) | (with_reducible refine Keep.drew ?_) | (with_reducible exact Keep.refl _) | refine Keep.trans ?_ (by with_reducible assumption) | exact Keep.refl _ | assumption))))
      have HO2 := Aside.mk hown
      simp only [List.getElem?_cons_zero, List.getElem?_cons_succ] at hcA hcB hcC hcD
      clear hown HO hk2 p1 p2 p3 p4
      go_wp2
      have hst := ((((HO2.out.stored (i * 4) (.int .u64 (U a))).1.stored (i * 4 + 1) (.int .u64 (U b))).1.stored (i * 4 + 2) (.int .u64 (U cc))).1.stored (i * 4 + 3) (.int .u64 (U d))).1
      rw [HS.out] at hst
      have HO3 := Aside.mk hst
      clear hst
      go_roundg (l.length - (i + 1))
      case measure => omega
      case rel => exact ⟨i + 1, by omega, by go_num, HO3.out, (by ((repeat (first | (with_reducible assumption) | ((with_reducible refine Keep.setCell ?_ ?_ _); rotate_left; focus (first | omega | (simp; done) | (simp; omega))) | (with_reducible refine Keep.alloc ?_ _) | (with_reducible refine Keep.drewN ?_ _) | (with_reducible refine Keep.drew ?_) | (with_reducible exact Keep.refl _) | refine Keep.trans ?_ (by with_reducible assumption) | exact Keep.refl _ | assumption))))⟩
    · have e2 : i = l.length := by omega
      subst e2
      rw [filledqys_end] at hown
      have HO := Aside.mk hown
      clear hown
      go_wp2
      go_ret; exact ⟨_, rfl, HO.out, (by ((repeat (first | (with_reducible assumption) | ((with_reducible refine Keep.setCell ?_ ?_ _); rotate_left; focus (first | omega | (simp; done) | (simp; omega))) | (with_reducible refine Keep.alloc ?_ _) | (with_reducible refine Keep.drewN ?_ _) | (with_reducible refine Keep.drew ?_) | (with_reducible exact Keep.refl _) | refine Keep.trans ?_ (by with_reducible assumption) | exact Keep.refl _ | assumption))))⟩
theorem laws_eqQueryS (A B : Option Addr) (l : List Qy) (c d : Nat) (w : World) (hn : l.length ≤ 1048576) (hR : Rd w A (qys l)) (hS : Rd w B (qys l)) :
    Calls Tryd.prog 57 #[.slice A l.length c, .slice B l.length d] w fun e w' => e = .returned (.bool true) ∧ Keep w w' := by
  go_enter Tryd.func57, Tryd.ntmps57
  go_wp2_with fail
  go_loopg [5] l.length (fun k s wr => ∃ i : Nat, i + k = l.length ∧ s = .int .i64 i ∧ Keep w wr)
  case atStart => exact ⟨0, by omega, rfl, (by ((repeat (first | (with_reducible assumption) | ((with_reducible refine Keep.setCell ?_ ?_ _); rotate_left; focus (first | omega | (simp; done) | (simp; omega))) | (with_reducible refine Keep.alloc ?_ _) | (with_reducible refine Keep.drewN ?_ _) | (with_reducible refine Keep.drew ?_) | (with_reducible exact Keep.refl _) | refine Keep.trans ?_ (by with_reducible assumption) | exact Keep.refl _ | assumption))))⟩
  case round =>
    obtain ⟨i, hi, rfl, hk0⟩ := hrel
    by_cases hlt : i < l.length
    · obtain ⟨bb, o, rfl, hc⟩ := (hR.keep hk0).at (k := i) (by rw [qys_len]; omega)
      obtain ⟨b2, o2, rfl, hc2⟩ := (hS.keep hk0).at (k := i) (by rw [qys_len]; omega)
      have p1 := hc _ _ (qys_at l i hlt).1
      have p2 := hc _ _ (qys_at l i hlt).2.1
      have p3 := hc _ _ (qys_at l i hlt).2.2.1
      have p4 := hc _ _ (qys_at l i hlt).2.2.2
      have q1 := hc2 _ _ (qys_at l i hlt).1
      have q2 := hc2 _ _ (qys_at l i hlt).2.1
      have q3 := hc2 _ _ (qys_at l i hlt).2.2.1
      have q4 := hc2 _ _ (qys_at l i hlt).2.2.2
      rw [← Nat.add_assoc] at p2 p3 p4 q2 q3 q4
      clear hc hc2
      generalize l[i].a = a at *
      generalize l[i].b = b at *
      generalize l[i].c = cc at *
      generalize l[i].d = d at *
      go_wp2_with fail
      refine wp_region_keep (by kernel_rfl) (by kernel_rfl) ?_
      repeat
        first
          | (apply QuietL.run
             focus go_simp
             focus
               intro w2 hk
               have p1' := hk.cell p1
               have p2' := hk.cell p2
               have p3' := hk.cell p3
               have p4' := hk.cell p4
               have q1' := hk.cell q1
               have q2' := hk.cell q2
               have q3' := hk.cell q3
               have q4' := hk.cell q4
               apply QAt.mk
               go_simp
               first
                 | done
                 | exact rfl
                 | (go_at_call 109; exact quiet_call hk (laws_eqQuery _ _ _ _ _))
             simp only [Act.put, List.setIfInBounds_toArray, List.set_cons_succ, List.set_cons_zero])
          | (apply QuietL.skip
             focus go_simp
             simp only [Act.put, List.setIfInBounds_toArray, List.set_cons_succ, List.set_cons_zero])
      apply QuietL.nil
      intro w2 hk
      have p1' := hk.cell p1
      have p2' := hk.cell p2
      have p3' := hk.cell p3
      have p4' := hk.cell p4
      have q1' := hk.cell q1
      have q2' := hk.cell q2
      have q3' := hk.cell q3
      have q4' := hk.cell q4
      go_wp2
      go_roundg (l.length - (i + 1))
      case measure => omega
      case rel => exact ⟨i + 1, by omega, by go_num, (by ((repeat (first | (with_reducible assumption) | ((with_reducible refine Keep.setCell ?_ ?_ _); rotate_left; focus (first | omega | (simp; done) | (simp; omega))) | (with_reducible refine Keep.alloc ?_ _) | (with_reducible refine Keep.drewN ?_ _) | (with_reducible refine Keep.drew ?_) | (with_reducible exact Keep.refl _) | refine Keep.trans ?_ (by with_reducible assumption) | exact Keep.refl _ | assumption))))⟩
    · have e2 : i = l.length := by omega
      subst e2
      go_wp2
      go_ret; exact ⟨rfl, (by ((repeat (first | (with_reducible assumption) | ((with_reducible refine Keep.setCell ?_ ?_ _); rotate_left; focus (first | omega | (simp; done) | (simp; omega))) | (with_reducible refine Keep.alloc ?_ _) | (with_reducible refine Keep.drewN ?_ _) | (with_reducible refine Keep.drew ?_) | (with_reducible exact Keep.refl _) | refine Keep.trans ?_ (by with_reducible assumption) | exact Keep.refl _ | assumption))))⟩
end Go.Proofs.YtpmilcfppcmodaaDoor

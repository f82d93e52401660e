/- The holes that sort by a field: the walks. -/
import Derived.Test.YtpmilcfppcmodaaDoorK2
set_option linter.unusedVariables false
set_option linter.unusedSimpArgs false
namespace Go.Proofs.YtpmilcfppcmodaaDoor
open Go.RowKit
set_option maxHeartbeats 4000000
set_option maxRecDepth 20000
theorem maxN {n : Nat} (h : n ≤ 1048576) : n ≤ maxLen := by unfold maxLen; omega
theorem spec_l02Holes_0 (s : ByteArray) (st sz : Int) (g o : Nat) (w : World) (hz : okSz 0 sz) (h0 : 0 ≤ st) (h2 : st + widthN 0 sz ≤ 96)
    (c0 : w.cell? ⟨g, o, none⟩ = some (.string s)) (c1 : w.cell? ⟨g, o + 1, none⟩ = some (.int .i8 0)) (c2 : w.cell? ⟨g, o + 2, none⟩ = some (.int .i16 st)) (c3 : w.cell? ⟨g, o + 3, none⟩ = some (.int .i16 sz)) :
    Calls Tryd.prog 162 #[.pointer (some ⟨g, o, none⟩)] w fun e w' => ∃ v, e = .returned v ∧ w'.ownsRow w.heap.size 2 1 v (sortL 0 st sz).length (ints (sortL 0 st sz)) ∧ Keep w w' := by
  obtain ⟨i0, hi0, hz0, hz1, hz2⟩ := info_parts int64_info
  have gz : g < w.heap.size := World.block_lt_of_cell? w _ c0
  have hI : I16 sz := by obtain ⟨a, b⟩ := hz; unfold I16; omega
  obtain ⟨N, hN⟩ : ∃ N : Nat, (N : Int) = sz := ⟨(sz).toNat, by have := hz.1; omega⟩
  have hW : widthN 0 sz = (if (0 : Int) = 3 then (N : Int) + 1 else N) := by rw [hN]; simp [widthN]
  have hNs : N ≤ 96 := by simp [widthN] at h2; omega
  have hS : sortL 0 st sz = (fun i : Nat => upL st i) N := by
    have hsN : sortN 0 sz = N := by unfold sortN; rw [hW]; simp; try omega
    simp [sortL, hsN]
    try rw [show sz.toNat = N by omega]
  have hSl : (sortL 0 st sz).length = N := by rw [hS]; simp [upL_len, downL_len]
  rw [hSl, hS]
  have es : IntKind.i64.wrap st = st := wrapI64 ⟨by omega, by omega⟩
  have e1 : IntKind.i64.wrap (st + N) = st + N := wrapI64 ⟨by omega, by omega⟩
  have e2 : IntKind.i64.wrap (st + N - 1) = st + N - 1 := wrapI64 ⟨by omega, by omega⟩
  have e3 : IntKind.i64.wrap ((N : Int) + 1 - 1) = N := by rw [show (N : Int) + 1 - 1 = N by omega]; exact wrapI64 ⟨by omega, by omega⟩
  have hmany := fun W (kW : Keep w W) => spec_l01Width s 0 st sz g o W hI (kW.cell c0) (kW.cell c1) (kW.cell c2) (kW.cell c3)
  rw [hW] at hmany
  simp at hmany
  have h3 : st + N ≤ 96 := by simp [widthN] at h2; omega
  clear hW hS hSl h2 hN
  go_enter Tryd.func162, Tryd.ntmps162
  (go_wp2_with fail); (go_at_call 117); (refine (hmany _ (by first | exact Keep.refl _ | exact (Keep.refl _).alloc _)).mono ?_); rintro e w1 ⟨rfl, hk1⟩
  have HO := Aside.mk (own_keep (own_empty w w.heap.size 2 (Nat.le_refl _)) hk1)
  have k1 : Keep w w1 := (by ((repeat (first | (with_reducible assumption) | ((with_reducible refine Keep.setCell ?_ ?_ _); rotate_left; focus (first | omega | (simp; done) | (simp; omega))) | (with_reducible refine Keep.alloc ?_ _) | (with_reducible refine Keep.drewN ?_ _) | (with_reducible refine Keep.drew ?_) | (with_reducible exact Keep.refl _) | refine Keep.trans ?_ (by with_reducible assumption) | exact Keep.refl _ | assumption))))
  have d0 := k1.cell c0
  have d1 := k1.cell c1
  have d2 := k1.cell c2
  have d3 := k1.cell c3
  clear hk1 hmany
  go_wp2_with fail
  clear d0 d1 d2 d3
  go_loopg [3, 5] N (fun m v s5 wr => ∃ i : Nat, i + m = N ∧ s5 = .int .i64 i ∧ wr.ownsRow w.heap.size 2 1 v i (ints (upL st i)) ∧ Keep w wr)
  case atStart => exact ⟨0, by omega, rfl, by simpa [upL, downL, ints] using HO.out, (by ((repeat (first | (with_reducible assumption) | ((with_reducible refine Keep.setCell ?_ ?_ _); rotate_left; focus (first | omega | (simp; done) | (simp; omega))) | (with_reducible refine Keep.alloc ?_ _) | (with_reducible refine Keep.drewN ?_ _) | (with_reducible refine Keep.drew ?_) | (with_reducible exact Keep.refl _) | refine Keep.trans ?_ (by with_reducible assumption) | exact Keep.refl _ | assumption))))⟩
  case round =>
    obtain ⟨i, hi, rfl, hown, hk⟩ := hrel
    have d0 := hk.cell c0
    have d1 := hk.cell c1
    have d2 := hk.cell c2
    have d3 := hk.cell c3
    by_cases hlt : (i : Int) < N
    · have e4 : IntKind.i64.wrap (st + i) = st + i := wrapI64 ⟨by omega, by omega⟩
      have e5 : IntKind.i64.wrap (st + N - 1 - i) = st + N - 1 - i := wrapI64 ⟨by omega, by omega⟩
      go_wp2_with (at_builtin; refine wpList_append_own _ rfl _ _ 28 rfl w.heap.size 2 i0 (.int .i64 0) 1 8 Tryd.underlying28 hi0 hz0 hz1 hz2 rfl (by decide) _ _ _ rfl (hown.alloc _) ⟨wr.heap.size, 0, none⟩ 1 1 [.int .i64 (st + i)] rfl rfl ?c1 ?c2 ?c3 ?c4 ?c5 ?_)
      case c1 =>
        intro j u hj
        match j, hj with
        | 0, hj => simp at hj; subst hj; simp [Addr.add]
      case c2 => intro u hu; simp at hu; subst hu; rfl
      case c3 => unfold maxLen; omega
      case c4 => omega
      case c5 => have := hk.size; simp; omega
      · intro v' w2 hown2 hg _
        have hr : ∀ k, Value.ownBlock _ = some k → _ := hown.lt
        have k2 : Keep w w2 := (hk.alloc _).grown hg (fun k hk => by have := hr _ hk; omega)
        have HO := Aside.mk hown2
        have hz := k2.size
        clear hown hown2 hg hr d0 d1 d2 d3
        go_wp2
        go_roundg (N - (i + 1))
        case measure => omega
        case rel => exact ⟨i + 1, by omega, by go_num, by (first | rw [upL_succ] | rw [downL_succ]); simpa [ints] using HO.out, (by ((repeat (first | (with_reducible assumption) | ((with_reducible refine Keep.setCell ?_ ?_ _); rotate_left; focus (first | omega | (simp; done) | (simp; omega))) | (with_reducible refine Keep.alloc ?_ _) | (with_reducible refine Keep.drewN ?_ _) | (with_reducible refine Keep.drew ?_) | (with_reducible exact Keep.refl _) | refine Keep.trans ?_ (by with_reducible assumption) | exact Keep.refl _ | assumption))))⟩
    · obtain rfl : i = N := by omega
      have HO := Aside.mk hown
      clear hown
      go_wp2
      go_ret; exact ⟨_, rfl, HO.out, (by ((repeat (first | (with_reducible assumption) | ((with_reducible refine Keep.setCell ?_ ?_ _); rotate_left; focus (first | omega | (simp; done) | (simp; omega))) | (with_reducible refine Keep.alloc ?_ _) | (with_reducible refine Keep.drewN ?_ _) | (with_reducible refine Keep.drew ?_) | (with_reducible exact Keep.refl _) | refine Keep.trans ?_ (by with_reducible assumption) | exact Keep.refl _ | assumption))))⟩
theorem spec_l02Holes_1 (s : ByteArray) (st sz : Int) (g o : Nat) (w : World) (hz : okSz 1 sz) (h0 : 0 ≤ st) (h2 : st + widthN 1 sz ≤ 96)
    (c0 : w.cell? ⟨g, o, none⟩ = some (.string s)) (c1 : w.cell? ⟨g, o + 1, none⟩ = some (.int .i8 1)) (c2 : w.cell? ⟨g, o + 2, none⟩ = some (.int .i16 st)) (c3 : w.cell? ⟨g, o + 3, none⟩ = some (.int .i16 sz)) :
    Calls Tryd.prog 162 #[.pointer (some ⟨g, o, none⟩)] w fun e w' => ∃ v, e = .returned v ∧ w'.ownsRow w.heap.size 2 1 v (sortL 1 st sz).length (ints (sortL 1 st sz)) ∧ Keep w w' := by
  obtain ⟨i0, hi0, hz0, hz1, hz2⟩ := info_parts int64_info
  have gz : g < w.heap.size := World.block_lt_of_cell? w _ c0
  have hI : I16 sz := by obtain ⟨a, b⟩ := hz; unfold I16; omega
  obtain ⟨N, hN⟩ : ∃ N : Nat, (N : Int) = 4 * sz := ⟨(4 * sz).toNat, by have := hz.1; omega⟩
  have hW : widthN 1 sz = (if (1 : Int) = 3 then (N : Int) + 1 else N) := by rw [hN]; simp [widthN]
  have hNs : N ≤ 96 := by simp [widthN] at h2; omega
  have hS : sortL 1 st sz = (fun i : Nat => downL st N i) N := by
    have hsN : sortN 1 sz = N := by unfold sortN; rw [hW]; simp; try omega
    simp [sortL, hsN]
    try rw [show sz.toNat = N by omega]
  have hSl : (sortL 1 st sz).length = N := by rw [hS]; simp [upL_len, downL_len]
  rw [hSl, hS]
  have es : IntKind.i64.wrap st = st := wrapI64 ⟨by omega, by omega⟩
  have e1 : IntKind.i64.wrap (st + N) = st + N := wrapI64 ⟨by omega, by omega⟩
  have e2 : IntKind.i64.wrap (st + N - 1) = st + N - 1 := wrapI64 ⟨by omega, by omega⟩
  have e3 : IntKind.i64.wrap ((N : Int) + 1 - 1) = N := by rw [show (N : Int) + 1 - 1 = N by omega]; exact wrapI64 ⟨by omega, by omega⟩
  have hmany := fun W (kW : Keep w W) => spec_l01Width s 1 st sz g o W hI (kW.cell c0) (kW.cell c1) (kW.cell c2) (kW.cell c3)
  rw [hW] at hmany
  simp at hmany
  have h3 : st + N ≤ 96 := by simp [widthN] at h2; omega
  clear hW hS hSl h2 hN
  go_enter Tryd.func162, Tryd.ntmps162
  (go_wp2_with fail); (go_at_call 117); (refine (hmany _ (by first | exact Keep.refl _ | exact (Keep.refl _).alloc _)).mono ?_); rintro e w1 ⟨rfl, hk1⟩
  have HO := Aside.mk (own_keep (own_empty w w.heap.size 2 (Nat.le_refl _)) hk1)
  have k1 : Keep w w1 := (by ((repeat (first | (with_reducible assumption) | ((with_reducible refine Keep.setCell ?_ ?_ _); rotate_left; focus (first | omega | (simp; done) | (simp; omega))) | (with_reducible refine Keep.alloc ?_ _) | (with_reducible refine Keep.drewN ?_ _) | (with_reducible refine Keep.drew ?_) | (with_reducible exact Keep.refl _) | refine Keep.trans ?_ (by with_reducible assumption) | exact Keep.refl _ | assumption))))
  have d0 := k1.cell c0
  have d1 := k1.cell c1
  have d2 := k1.cell c2
  have d3 := k1.cell c3
  clear hk1 hmany
  go_wp2_with fail
  clear d0 d1 d2 d3
  go_loopg [3, 5] N (fun m v s5 wr => ∃ i : Nat, i + m = N ∧ s5 = .int .i64 i ∧ wr.ownsRow w.heap.size 2 1 v i (ints (downL st N i)) ∧ Keep w wr)
  case atStart => exact ⟨0, by omega, rfl, by simpa [upL, downL, ints] using HO.out, (by ((repeat (first | (with_reducible assumption) | ((with_reducible refine Keep.setCell ?_ ?_ _); rotate_left; focus (first | omega | (simp; done) | (simp; omega))) | (with_reducible refine Keep.alloc ?_ _) | (with_reducible refine Keep.drewN ?_ _) | (with_reducible refine Keep.drew ?_) | (with_reducible exact Keep.refl _) | refine Keep.trans ?_ (by with_reducible assumption) | exact Keep.refl _ | assumption))))⟩
  case round =>
    obtain ⟨i, hi, rfl, hown, hk⟩ := hrel
    have d0 := hk.cell c0
    have d1 := hk.cell c1
    have d2 := hk.cell c2
    have d3 := hk.cell c3
    by_cases hlt : (i : Int) < N
    · have e4 : IntKind.i64.wrap (st + i) = st + i := wrapI64 ⟨by omega, by omega⟩
      have e5 : IntKind.i64.wrap (st + N - 1 - i) = st + N - 1 - i := wrapI64 ⟨by omega, by omega⟩
      go_wp2_with (at_builtin; refine wpList_append_own _ rfl _ _ 28 rfl w.heap.size 2 i0 (.int .i64 0) 1 8 Tryd.underlying28 hi0 hz0 hz1 hz2 rfl (by decide) _ _ _ rfl (hown.alloc _) ⟨wr.heap.size, 0, none⟩ 1 1 [.int .i64 (st + (N : Int) - 1 - i)] rfl rfl ?c1 ?c2 ?c3 ?c4 ?c5 ?_)
      case c1 =>
        intro j u hj
        match j, hj with
        | 0, hj => simp at hj; subst hj; simp [Addr.add]
      case c2 => intro u hu; simp at hu; subst hu; rfl
      case c3 => unfold maxLen; omega
      case c4 => omega
      case c5 => have := hk.size; simp; omega
      · intro v' w2 hown2 hg _
        have hr : ∀ k, Value.ownBlock _ = some k → _ := hown.lt
        have k2 : Keep w w2 := (hk.alloc _).grown hg (fun k hk => by have := hr _ hk; omega)
        have HO := Aside.mk hown2
        have hz := k2.size
        clear hown hown2 hg hr d0 d1 d2 d3
        go_wp2
        go_roundg (N - (i + 1))
        case measure => omega
        case rel => exact ⟨i + 1, by omega, by go_num, by (first | rw [upL_succ] | rw [downL_succ]); simpa [ints] using HO.out, (by ((repeat (first | (with_reducible assumption) | ((with_reducible refine Keep.setCell ?_ ?_ _); rotate_left; focus (first | omega | (simp; done) | (simp; omega))) | (with_reducible refine Keep.alloc ?_ _) | (with_reducible refine Keep.drewN ?_ _) | (with_reducible refine Keep.drew ?_) | (with_reducible exact Keep.refl _) | refine Keep.trans ?_ (by with_reducible assumption) | exact Keep.refl _ | assumption))))⟩
    · obtain rfl : i = N := by omega
      have HO := Aside.mk hown
      clear hown
      go_wp2
      go_ret; exact ⟨_, rfl, HO.out, (by ((repeat (first | (with_reducible assumption) | ((with_reducible refine Keep.setCell ?_ ?_ _); rotate_left; focus (first | omega | (simp; done) | (simp; omega))) | (with_reducible refine Keep.alloc ?_ _) | (with_reducible refine Keep.drewN ?_ _) | (with_reducible refine Keep.drew ?_) | (with_reducible exact Keep.refl _) | refine Keep.trans ?_ (by with_reducible assumption) | exact Keep.refl _ | assumption))))⟩
theorem spec_l02Holes_2 (s : ByteArray) (st sz : Int) (g o : Nat) (w : World) (hz : okSz 2 sz) (h0 : 0 ≤ st) (h2 : st + widthN 2 sz ≤ 96)
    (c0 : w.cell? ⟨g, o, none⟩ = some (.string s)) (c1 : w.cell? ⟨g, o + 1, none⟩ = some (.int .i8 2)) (c2 : w.cell? ⟨g, o + 2, none⟩ = some (.int .i16 st)) (c3 : w.cell? ⟨g, o + 3, none⟩ = some (.int .i16 sz)) :
    Calls Tryd.prog 162 #[.pointer (some ⟨g, o, none⟩)] w fun e w' => ∃ v, e = .returned v ∧ w'.ownsRow w.heap.size 2 1 v (sortL 2 st sz).length (ints (sortL 2 st sz)) ∧ Keep w w' := by
  obtain ⟨i0, hi0, hz0, hz1, hz2⟩ := info_parts int64_info
  have gz : g < w.heap.size := World.block_lt_of_cell? w _ c0
  have hI : I16 sz := by obtain ⟨a, b⟩ := hz; unfold I16; omega
  obtain ⟨N, hN⟩ : ∃ N : Nat, (N : Int) = 5 * sz := ⟨(5 * sz).toNat, by have := hz.1; omega⟩
  have hW : widthN 2 sz = (if (2 : Int) = 3 then (N : Int) + 1 else N) := by rw [hN]; simp [widthN]
  have hNs : N ≤ 96 := by simp [widthN] at h2; omega
  have hS : sortL 2 st sz = (fun i : Nat => downL st N i) N := by
    have hsN : sortN 2 sz = N := by unfold sortN; rw [hW]; simp; try omega
    simp [sortL, hsN]
    try rw [show sz.toNat = N by omega]
  have hSl : (sortL 2 st sz).length = N := by rw [hS]; simp [upL_len, downL_len]
  rw [hSl, hS]
  have es : IntKind.i64.wrap st = st := wrapI64 ⟨by omega, by omega⟩
  have e1 : IntKind.i64.wrap (st + N) = st + N := wrapI64 ⟨by omega, by omega⟩
  have e2 : IntKind.i64.wrap (st + N - 1) = st + N - 1 := wrapI64 ⟨by omega, by omega⟩
  have e3 : IntKind.i64.wrap ((N : Int) + 1 - 1) = N := by rw [show (N : Int) + 1 - 1 = N by omega]; exact wrapI64 ⟨by omega, by omega⟩
  have hmany := fun W (kW : Keep w W) => spec_l01Width s 2 st sz g o W hI (kW.cell c0) (kW.cell c1) (kW.cell c2) (kW.cell c3)
  rw [hW] at hmany
  simp at hmany
  have h3 : st + N ≤ 96 := by simp [widthN] at h2; omega
  clear hW hS hSl h2 hN
  go_enter Tryd.func162, Tryd.ntmps162
  (go_wp2_with fail); (go_at_call 117); (refine (hmany _ (by first | exact Keep.refl _ | exact (Keep.refl _).alloc _)).mono ?_); rintro e w1 ⟨rfl, hk1⟩
  have HO := Aside.mk (own_keep (own_empty w w.heap.size 2 (Nat.le_refl _)) hk1)
  have k1 : Keep w w1 := (by ((repeat (first | (with_reducible assumption) | ((with_reducible refine Keep.setCell ?_ ?_ _); rotate_left; focus (first | omega | (simp; done) | (simp; omega))) | (with_reducible refine Keep.alloc ?_ _) | (with_reducible refine Keep.drewN ?_ _) | (with_reducible refine Keep.drew ?_) | (with_reducible exact Keep.refl _) | refine Keep.trans ?_ (by with_reducible assumption) | exact Keep.refl _ | assumption))))
  have d0 := k1.cell c0
  have d1 := k1.cell c1
  have d2 := k1.cell c2
  have d3 := k1.cell c3
  clear hk1 hmany
  go_wp2_with fail
  clear d0 d1 d2 d3
  go_loopg [3, 5] N (fun m v s5 wr => ∃ i : Nat, i + m = N ∧ s5 = .int .i64 i ∧ wr.ownsRow w.heap.size 2 1 v i (ints (downL st N i)) ∧ Keep w wr)
  case atStart => exact ⟨0, by omega, rfl, by simpa [upL, downL, ints] using HO.out, (by ((repeat (first | (with_reducible assumption) | ((with_reducible refine Keep.setCell ?_ ?_ _); rotate_left; focus (first | omega | (simp; done) | (simp; omega))) | (with_reducible refine Keep.alloc ?_ _) | (with_reducible refine Keep.drewN ?_ _) | (with_reducible refine Keep.drew ?_) | (with_reducible exact Keep.refl _) | refine Keep.trans ?_ (by with_reducible assumption) | exact Keep.refl _ | assumption))))⟩
  case round =>
    obtain ⟨i, hi, rfl, hown, hk⟩ := hrel
    have d0 := hk.cell c0
    have d1 := hk.cell c1
    have d2 := hk.cell c2
    have d3 := hk.cell c3
    by_cases hlt : (i : Int) < N
    · have e4 : IntKind.i64.wrap (st + i) = st + i := wrapI64 ⟨by omega, by omega⟩
      have e5 : IntKind.i64.wrap (st + N - 1 - i) = st + N - 1 - i := wrapI64 ⟨by omega, by omega⟩
      go_wp2_with (at_builtin; refine wpList_append_own _ rfl _ _ 28 rfl w.heap.size 2 i0 (.int .i64 0) 1 8 Tryd.underlying28 hi0 hz0 hz1 hz2 rfl (by decide) _ _ _ rfl (hown.alloc _) ⟨wr.heap.size, 0, none⟩ 1 1 [.int .i64 (st + (N : Int) - 1 - i)] rfl rfl ?c1 ?c2 ?c3 ?c4 ?c5 ?_)
      case c1 =>
        intro j u hj
        match j, hj with
        | 0, hj => simp at hj; subst hj; simp [Addr.add]
      case c2 => intro u hu; simp at hu; subst hu; rfl
      case c3 => unfold maxLen; omega
      case c4 => omega
      case c5 => have := hk.size; simp; omega
      · intro v' w2 hown2 hg _
        have hr : ∀ k, Value.ownBlock _ = some k → _ := hown.lt
        have k2 : Keep w w2 := (hk.alloc _).grown hg (fun k hk => by have := hr _ hk; omega)
        have HO := Aside.mk hown2
        have hz := k2.size
        clear hown hown2 hg hr d0 d1 d2 d3
        go_wp2
        go_roundg (N - (i + 1))
        case measure => omega
        case rel => exact ⟨i + 1, by omega, by go_num, by (first | rw [upL_succ] | rw [downL_succ]); simpa [ints] using HO.out, (by ((repeat (first | (with_reducible assumption) | ((with_reducible refine Keep.setCell ?_ ?_ _); rotate_left; focus (first | omega | (simp; done) | (simp; omega))) | (with_reducible refine Keep.alloc ?_ _) | (with_reducible refine Keep.drewN ?_ _) | (with_reducible refine Keep.drew ?_) | (with_reducible exact Keep.refl _) | refine Keep.trans ?_ (by with_reducible assumption) | exact Keep.refl _ | assumption))))⟩
    · obtain rfl : i = N := by omega
      have HO := Aside.mk hown
      clear hown
      go_wp2
      go_ret; exact ⟨_, rfl, HO.out, (by ((repeat (first | (with_reducible assumption) | ((with_reducible refine Keep.setCell ?_ ?_ _); rotate_left; focus (first | omega | (simp; done) | (simp; omega))) | (with_reducible refine Keep.alloc ?_ _) | (with_reducible refine Keep.drewN ?_ _) | (with_reducible refine Keep.drew ?_) | (with_reducible exact Keep.refl _) | refine Keep.trans ?_ (by with_reducible assumption) | exact Keep.refl _ | assumption))))⟩
theorem spec_l02Holes_3 (s : ByteArray) (st sz : Int) (g o : Nat) (w : World) (hz : okSz 3 sz) (h0 : 0 ≤ st) (h2 : st + widthN 3 sz ≤ 96)
    (c0 : w.cell? ⟨g, o, none⟩ = some (.string s)) (c1 : w.cell? ⟨g, o + 1, none⟩ = some (.int .i8 3)) (c2 : w.cell? ⟨g, o + 2, none⟩ = some (.int .i16 st)) (c3 : w.cell? ⟨g, o + 3, none⟩ = some (.int .i16 sz)) :
    Calls Tryd.prog 162 #[.pointer (some ⟨g, o, none⟩)] w fun e w' => ∃ v, e = .returned v ∧ w'.ownsRow w.heap.size 2 1 v (sortL 3 st sz).length (ints (sortL 3 st sz)) ∧ Keep w w' := by
  obtain ⟨i0, hi0, hz0, hz1, hz2⟩ := info_parts int64_info
  have gz : g < w.heap.size := World.block_lt_of_cell? w _ c0
  have hI : I16 sz := by obtain ⟨a, b⟩ := hz; unfold I16; omega
  obtain ⟨N, hN⟩ : ∃ N : Nat, (N : Int) = sz := ⟨(sz).toNat, by have := hz.1; omega⟩
  have hW : widthN 3 sz = (if (3 : Int) = 3 then (N : Int) + 1 else N) := by rw [hN]; simp [widthN]
  have hNs : N ≤ 96 := by simp [widthN] at h2; omega
  have hS : sortL 3 st sz = (fun i : Nat => downL st N i) N := by
    have hsN : sortN 3 sz = N := by unfold sortN; rw [hW]; simp; try omega
    simp [sortL, hsN]
    try rw [show sz.toNat = N by omega]
  have hSl : (sortL 3 st sz).length = N := by rw [hS]; simp [upL_len, downL_len]
  rw [hSl, hS]
  have es : IntKind.i64.wrap st = st := wrapI64 ⟨by omega, by omega⟩
  have e1 : IntKind.i64.wrap (st + N) = st + N := wrapI64 ⟨by omega, by omega⟩
  have e2 : IntKind.i64.wrap (st + N - 1) = st + N - 1 := wrapI64 ⟨by omega, by omega⟩
  have e3 : IntKind.i64.wrap ((N : Int) + 1 - 1) = N := by rw [show (N : Int) + 1 - 1 = N by omega]; exact wrapI64 ⟨by omega, by omega⟩
  have hmany := fun W (kW : Keep w W) => spec_l01Width s 3 st sz g o W hI (kW.cell c0) (kW.cell c1) (kW.cell c2) (kW.cell c3)
  rw [hW] at hmany
  simp at hmany
  have h3 : st + N ≤ 96 := by simp [widthN] at h2; omega
  clear hW hS hSl h2 hN
  go_enter Tryd.func162, Tryd.ntmps162
  (go_wp2_with fail); (go_at_call 117); (refine (hmany _ (by first | exact Keep.refl _ | exact (Keep.refl _).alloc _)).mono ?_); rintro e w1 ⟨rfl, hk1⟩
  have HO := Aside.mk (own_keep (own_empty w w.heap.size 2 (Nat.le_refl _)) hk1)
  have k1 : Keep w w1 := (by ((repeat (first | (with_reducible assumption) | ((with_reducible refine Keep.setCell ?_ ?_ _); rotate_left; focus (first | omega | (simp; done) | (simp; omega))) | (with_reducible refine Keep.alloc ?_ _) | (with_reducible refine Keep.drewN ?_ _) | (with_reducible refine Keep.drew ?_) | (with_reducible exact Keep.refl _) | refine Keep.trans ?_ (by with_reducible assumption) | exact Keep.refl _ | assumption))))
  have d0 := k1.cell c0
  have d1 := k1.cell c1
  have d2 := k1.cell c2
  have d3 := k1.cell c3
  clear hk1 hmany
  go_wp2_with fail
  clear d0 d1 d2 d3
  go_loopg [3, 5] N (fun m v s5 wr => ∃ i : Nat, i + m = N ∧ s5 = .int .i64 i ∧ wr.ownsRow w.heap.size 2 1 v i (ints (downL st N i)) ∧ Keep w wr)
  case atStart => exact ⟨0, by omega, rfl, by simpa [upL, downL, ints] using HO.out, (by ((repeat (first | (with_reducible assumption) | ((with_reducible refine Keep.setCell ?_ ?_ _); rotate_left; focus (first | omega | (simp; done) | (simp; omega))) | (with_reducible refine Keep.alloc ?_ _) | (with_reducible refine Keep.drewN ?_ _) | (with_reducible refine Keep.drew ?_) | (with_reducible exact Keep.refl _) | refine Keep.trans ?_ (by with_reducible assumption) | exact Keep.refl _ | assumption))))⟩
  case round =>
    obtain ⟨i, hi, rfl, hown, hk⟩ := hrel
    have d0 := hk.cell c0
    have d1 := hk.cell c1
    have d2 := hk.cell c2
    have d3 := hk.cell c3
    by_cases hlt : (i : Int) < N
    · have e4 : IntKind.i64.wrap (st + i) = st + i := wrapI64 ⟨by omega, by omega⟩
      have e5 : IntKind.i64.wrap (st + N - 1 - i) = st + N - 1 - i := wrapI64 ⟨by omega, by omega⟩
      go_wp2_with (at_builtin; refine wpList_append_own _ rfl _ _ 28 rfl w.heap.size 2 i0 (.int .i64 0) 1 8 Tryd.underlying28 hi0 hz0 hz1 hz2 rfl (by decide) _ _ _ rfl (hown.alloc _) ⟨wr.heap.size, 0, none⟩ 1 1 [.int .i64 (st + (N : Int) - 1 - i)] rfl rfl ?c1 ?c2 ?c3 ?c4 ?c5 ?_)
      case c1 =>
        intro j u hj
        match j, hj with
        | 0, hj => simp at hj; subst hj; simp [Addr.add]
      case c2 => intro u hu; simp at hu; subst hu; rfl
      case c3 => unfold maxLen; omega
      case c4 => omega
      case c5 => have := hk.size; simp; omega
      · intro v' w2 hown2 hg _
        have hr : ∀ k, Value.ownBlock _ = some k → _ := hown.lt
        have k2 : Keep w w2 := (hk.alloc _).grown hg (fun k hk => by have := hr _ hk; omega)
        have HO := Aside.mk hown2
        have hz := k2.size
        clear hown hown2 hg hr d0 d1 d2 d3
        go_wp2
        go_roundg (N - (i + 1))
        case measure => omega
        case rel => exact ⟨i + 1, by omega, by go_num, by (first | rw [upL_succ] | rw [downL_succ]); simpa [ints] using HO.out, (by ((repeat (first | (with_reducible assumption) | ((with_reducible refine Keep.setCell ?_ ?_ _); rotate_left; focus (first | omega | (simp; done) | (simp; omega))) | (with_reducible refine Keep.alloc ?_ _) | (with_reducible refine Keep.drewN ?_ _) | (with_reducible refine Keep.drew ?_) | (with_reducible exact Keep.refl _) | refine Keep.trans ?_ (by with_reducible assumption) | exact Keep.refl _ | assumption))))⟩
    · obtain rfl : i = N := by omega
      have HO := Aside.mk hown
      clear hown
      go_wp2
      go_ret; exact ⟨_, rfl, HO.out, (by ((repeat (first | (with_reducible assumption) | ((with_reducible refine Keep.setCell ?_ ?_ _); rotate_left; focus (first | omega | (simp; done) | (simp; omega))) | (with_reducible refine Keep.alloc ?_ _) | (with_reducible refine Keep.drewN ?_ _) | (with_reducible refine Keep.drew ?_) | (with_reducible exact Keep.refl _) | refine Keep.trans ?_ (by with_reducible assumption) | exact Keep.refl _ | assumption))))⟩
theorem spec_l02Holes (s : ByteArray) (k st sz : Int) (g o : Nat) (w : World) (hz : okSz k sz) (h0 : 0 ≤ st) (h2 : st + widthN k sz ≤ 96)
    (c0 : w.cell? ⟨g, o, none⟩ = some (.string s)) (c1 : w.cell? ⟨g, o + 1, none⟩ = some (.int .i8 k)) (c2 : w.cell? ⟨g, o + 2, none⟩ = some (.int .i16 st)) (c3 : w.cell? ⟨g, o + 3, none⟩ = some (.int .i16 sz)) :
    Calls Tryd.prog 162 #[.pointer (some ⟨g, o, none⟩)] w fun e w' => ∃ v, e = .returned v ∧ w'.ownsRow w.heap.size 2 1 v (sortL k st sz).length (ints (sortL k st sz)) ∧ Keep w w' := by
  obtain ⟨z1, z2⟩ := hz
  have hz : okSz k sz := ⟨z1, z2⟩
  rcases z2 with ⟨rfl, z2⟩ | ⟨rfl, z2⟩ | ⟨rfl, z2⟩ | ⟨rfl, z2⟩
  · exact spec_l02Holes_0 s st sz g o w hz h0 h2 c0 c1 c2 c3
  · exact spec_l02Holes_1 s st sz g o w hz h0 h2 c0 c1 c2 c3
  · exact spec_l02Holes_2 s st sz g o w hz h0 h2 c0 c1 c2 c3
  · exact spec_l02Holes_3 s st sz g o w hz h0 h2 c0 c1 c2 c3
end Go.Proofs.YtpmilcfppcmodaaDoor

/- Keys. -/
import Derived.Test.YtpmilcfppcmodaaDoorK4
set_option linter.unusedVariables false
set_option linter.unusedSimpArgs false
namespace Go.Proofs.YtpmilcfppcmodaaDoor
open Go.RowKit
set_option maxHeartbeats 4000000
set_option maxRecDepth 20000
theorem impl_sorting (s : ByteArray) (k st sz : Int) (w : World) (hz : okSz k sz) (ht : I16 st) (h0 : 0 ≤ st) (h2 : st + widthN k sz ≤ 96) :
    Calls Tryd.prog 165 #[.agg #[.string s, .int .i8 k, .int .i16 st, .int .i16 sz]] w fun e w' => ∃ v, e = .returned v ∧ w'.ownsRow w.heap.size 2 1 v (sortL k st sz).length (ints (sortL k st sz)) ∧ Keep w w' := by
  obtain ⟨z1, z2⟩ := hz
  have hz : okSz k sz := ⟨z1, z2⟩
  rcases z2 with ⟨rfl, z2⟩ | ⟨rfl, z2⟩ | ⟨rfl, z2⟩ | ⟨rfl, z2⟩
  · exact impl_sorting_0 s st sz w hz ht h0 h2
  · exact impl_sorting_1 s st sz w hz ht h0 h2
  · exact impl_sorting_2 s st sz w hz ht h0 h2
  · exact impl_sorting_3 s st sz w hz ht h0 h2
theorem kv_take {a b : Wd} {l : List Int} {i : Nat} (h : i < l.length) : kv a b (l.take (i + 1)) = kv a b (l.take i) + cond (hasB a b l[i]) (pw 2 i) 0 := by
  rw [List.take_succ_eq_append_getElem h, kv_app]
  simp [show min i l.length = i by omega]
theorem kv_drop {a b : Wd} {l : List Int} {i : Nat} (h : i < l.length) : kv a b (l.drop i) = cond (hasB a b l[i]) 1 0 + 2 * kv a b (l.drop (i + 1)) := by
  rw [List.drop_eq_getElem_cons h, kv]
theorem pw24 {n : Nat} (h : n ≤ 24) : pw 2 n ≤ 16777216 := by
  have a := pw_mono (b := 2) (by decide) h
  have c : pw 2 24 = 16777216 := by decide
  omega
theorem kv_bound {a b : Wd} {l : List Int} (h : l.length ≤ 24) : 0 ≤ kv a b l ∧ kv a b l < 16777216 := by
  have := kv_nonneg a b l
  have := pw24 h
  omega
theorem impl_key (s : ByteArray) (k st sz : Int) (a b : Wd) (w : World) (hz : okSz k sz) (ht : I16 st) (h0 : 0 ≤ st) (h2 : st + widthN k sz ≤ 96) :
    Calls Tryd.prog 151 #[.agg #[.string s, .int .i8 k, .int .i16 st, .int .i16 sz], .agg #[.int .u64 (U a), .int .u64 (U b)]] w fun e w' => e = .returned (.int .i64 (kv a b (sortL k st sz))) ∧ Keep w w' := by
  have hso := fun W => impl_sorting s k st sz W hz ht h0 h2
  have hmem := Aside.mk (sortL_mem hz h0 h2)
  have hlen : (sortL k st sz).length ≤ 24 := by rw [sortL_len]; exact sortN_le hz
  generalize sortL k st sz = l at *
  have hB := Bx.new1 w (Obj.cells #[.string s, .int .i8 k, .int .i16 st, .int .i16 sz] 89) #[.int .u64 (U a), .int .u64 (U b)] 33
  go_enter Tryd.func151, Tryd.ntmps151
  (go_wp2_with fail); (go_at_call 165); (refine (hso _).mono ?_); rintro e w1 ⟨v, rfl, ho, hk1⟩
  obtain ⟨A, c, rfl, -, hb⟩ := own_row ho
  have hR := Aside.mk (own_rd2 ho)
  have hM := Aside.mk (hB.keep hk1)
  have k1 : Keep w w1 := (by ((repeat (first | (with_reducible assumption) | ((with_reducible refine Keep.setCell ?_ ?_ _); rotate_left; focus (first | omega | (simp; done) | (simp; omega))) | (with_reducible refine Keep.alloc ?_ _) | (with_reducible refine Keep.drewN ?_ _) | (with_reducible refine Keep.drew ?_) | (with_reducible exact Keep.refl _) | refine Keep.trans ?_ (by with_reducible assumption) | exact Keep.refl _ | assumption))))
  clear ho hb hB hk1
  go_wp2_with fail
  go_loopg [5, 11] l.length (fun m s5 s11 wr => ∃ i : Nat, i + m = l.length ∧ s5 = .int .i64 (kv a b (l.take i)) ∧ s11 = .int .i64 i ∧ Bx wr (w.heap.size + 1) #[.int .u64 (U a), .int .u64 (U b)] 33 ∧ Rd wr A (ints l) ∧ Keep w wr)
  case atStart => exact ⟨0, by omega, rfl, rfl, hM.out, hR.out, (by ((repeat (first | (with_reducible assumption) | ((with_reducible refine Keep.setCell ?_ ?_ _); rotate_left; focus (first | omega | (simp; done) | (simp; omega))) | (with_reducible refine Keep.alloc ?_ _) | (with_reducible refine Keep.drewN ?_ _) | (with_reducible refine Keep.drew ?_) | (with_reducible exact Keep.refl _) | refine Keep.trans ?_ (by with_reducible assumption) | exact Keep.refl _ | assumption))))⟩
  case round =>
    obtain ⟨i, hi, rfl, rfl, hM, hR, hk⟩ := hrel
    by_cases hlt : i < l.length
    · obtain ⟨bb, o, rfl, hc⟩ := hR.at (k := i) (by rw [ints_len]; exact hlt)
      have hcell := hc i _ (ints_at l i hlt)
      have hm := hmem.out l[i] (List.getElem_mem hlt)
      have HKT := Aside.mk (kv_take (a := a) (b := b) hlt)
      have hkb := kv_bound (a := a) (b := b) (l := l.take i) (by simp; omega)
      have hkn := kv_nonneg a b (l.take i)
      rw [List.length_take, show min i l.length = i by omega] at hkn
      generalize l[i] = x at *
      have hMs := hM.two
      have hz2 := World.block_lt_of_cell? _ _ hcell
      clear hc
      (go_wp2_with fail); (go_at_call 101); (refine (impl_has a b x hm.1 hm.2 _).mono ?_); rintro e w2 ⟨rfl, hk2⟩
      have hM2 := Aside.mk (hM.keep hk2)
      have hR2 := Aside.mk (hR.keep hk2)
      have k2 : Keep w w2 := (by ((repeat (first | (with_reducible assumption) | ((with_reducible refine Keep.setCell ?_ ?_ _); rotate_left; focus (first | omega | (simp; done) | (simp; omega))) | (with_reducible refine Keep.alloc ?_ _) | (with_reducible refine Keep.drewN ?_ _) | (with_reducible refine Keep.drew ?_) | (with_reducible exact Keep.refl _) | refine Keep.trans ?_ (by with_reducible assumption) | exact Keep.refl _ | assumption))))
      clear hM hR hMs hk2 hk hcell hz2
      cases hb : hasB a b x <;> rw [hb] at HKT
      · go_wp2
        go_roundg (l.length - (i + 1))
        case measure => omega
        case rel => exact ⟨i + 1, by omega, by have := HKT.out; simp at this; rw [this], by go_num, hM2.out, hR2.out, (by ((repeat (first | (with_reducible assumption) | ((with_reducible refine Keep.setCell ?_ ?_ _); rotate_left; focus (first | omega | (simp; done) | (simp; omega))) | (with_reducible refine Keep.alloc ?_ _) | (with_reducible refine Keep.drewN ?_ _) | (with_reducible refine Keep.drew ?_) | (with_reducible exact Keep.refl _) | refine Keep.trans ?_ (by with_reducible assumption) | exact Keep.refl _ | assumption))))⟩
      · have hpb := pw24 (n := i) (by omega)
        have hpp := pw_pos (b := 2) (by decide) i
        have eor := or_pow hkn.1 hkn.2 (show i ≤ 24 by omega)
        have ew : IntKind.i64.wrap (2 ^ i) = pw 2 i := wrapI64 (n := pw 2 i) ⟨by omega, by omega⟩
        generalize hkq : kv a b (l.take i) = q at *
        generalize hpq : pw 2 i = p at *
        go_wp2
        go_roundg (l.length - (i + 1))
        case measure => omega
        case rel => exact ⟨i + 1, by omega, by have := HKT.out; simp at this; rw [this], by go_num, hM2.out, hR2.out, (by ((repeat (first | (with_reducible assumption) | ((with_reducible refine Keep.setCell ?_ ?_ _); rotate_left; focus (first | omega | (simp; done) | (simp; omega))) | (with_reducible refine Keep.alloc ?_ _) | (with_reducible refine Keep.drewN ?_ _) | (with_reducible refine Keep.drew ?_) | (with_reducible exact Keep.refl _) | refine Keep.trans ?_ (by with_reducible assumption) | exact Keep.refl _ | assumption))))⟩
    · obtain rfl : i = l.length := by omega
      have hMs := hM.two
      rw [List.take_length]
      go_wp2
      go_ret; exact ⟨rfl, (by ((repeat (first | (with_reducible assumption) | ((with_reducible refine Keep.setCell ?_ ?_ _); rotate_left; focus (first | omega | (simp; done) | (simp; omega))) | (with_reducible refine Keep.alloc ?_ _) | (with_reducible refine Keep.drewN ?_ _) | (with_reducible refine Keep.drew ?_) | (with_reducible exact Keep.refl _) | refine Keep.trans ?_ (by with_reducible assumption) | exact Keep.refl _ | assumption))))⟩
theorem spec_l02Key (s : ByteArray) (k st sz : Int) (a b : Wd) (g o : Nat) (w : World) (hz : okSz k sz) (h0 : 0 ≤ st) (h2 : st + widthN k sz ≤ 96)
    (c0 : w.cell? ⟨g, o, none⟩ = some (.string s)) (c1 : w.cell? ⟨g, o + 1, none⟩ = some (.int .i8 k)) (c2 : w.cell? ⟨g, o + 2, none⟩ = some (.int .i16 st)) (c3 : w.cell? ⟨g, o + 3, none⟩ = some (.int .i16 sz)) :
    Calls Tryd.prog 146 #[.pointer (some ⟨g, o, none⟩), .agg #[.int .u64 (U a), .int .u64 (U b)]] w fun e w' => e = .returned (.int .i64 (kv a b (sortL k st sz))) ∧ Keep w w' := by
  have hso := fun W (kW : Keep w W) => spec_l02Holes s k st sz g o W hz h0 h2 (kW.cell c0) (kW.cell c1) (kW.cell c2) (kW.cell c3)
  have hmem := Aside.mk (sortL_mem hz h0 h2)
  have hlen : (sortL k st sz).length ≤ 24 := by rw [sortL_len]; exact sortN_le hz
  generalize sortL k st sz = l at *
  have hB := Bx.new w #[.int .u64 (U a), .int .u64 (U b)] 33
  clear c0 c1 c2 c3
  go_enter Tryd.func146, Tryd.ntmps146
  (go_wp2_with fail); (go_at_call 162); (refine (hso _ ((Keep.refl _).alloc _)).mono ?_); rintro e w1 ⟨v, rfl, ho, hk1⟩
  obtain ⟨A, c, rfl, -, hb⟩ := own_row ho
  have hR := Aside.mk (own_rd2 ho)
  have hM := Aside.mk (hB.keep hk1)
  have k1 : Keep w w1 := (by ((repeat (first | (with_reducible assumption) | ((with_reducible refine Keep.setCell ?_ ?_ _); rotate_left; focus (first | omega | (simp; done) | (simp; omega))) | (with_reducible refine Keep.alloc ?_ _) | (with_reducible refine Keep.drewN ?_ _) | (with_reducible refine Keep.drew ?_) | (with_reducible exact Keep.refl _) | refine Keep.trans ?_ (by with_reducible assumption) | exact Keep.refl _ | assumption))))
  have e1 : IntKind.i64.wrap ((l.length : Int) - 1) = l.length - 1 := wrapI64 ⟨by omega, by omega⟩
  clear ho hb hB hk1 hso
  go_wp2_with fail
  go_loopg [6, 7] l.length (fun m s6 s7 wr => ∃ r : Nat, r = m ∧ r ≤ l.length ∧ s6 = .int .i64 (kv a b (l.drop r)) ∧ s7 = .int .i64 ((r : Int) - 1) ∧ Bx wr w.heap.size #[.int .u64 (U a), .int .u64 (U b)] 33 ∧ Rd wr A (ints l) ∧ Keep w wr)
  case atStart => exact ⟨l.length, rfl, Nat.le_refl _, by rw [List.drop_length]; rfl, rfl, hM.out, hR.out, (by ((repeat (first | (with_reducible assumption) | ((with_reducible refine Keep.setCell ?_ ?_ _); rotate_left; focus (first | omega | (simp; done) | (simp; omega))) | (with_reducible refine Keep.alloc ?_ _) | (with_reducible refine Keep.drewN ?_ _) | (with_reducible refine Keep.drew ?_) | (with_reducible exact Keep.refl _) | refine Keep.trans ?_ (by with_reducible assumption) | exact Keep.refl _ | assumption))))⟩
  case round =>
    obtain ⟨r, rfl, hr, rfl, rfl, hM, hR, hk⟩ := hrel
    by_cases hpos : 0 < r
    · obtain ⟨i, rfl⟩ : ∃ i, r = i + 1 := ⟨r - 1, by omega⟩
      have hlt : i < l.length := by omega
      obtain ⟨bb, o', rfl, hc⟩ := hR.at (k := i) (by rw [ints_len]; exact hlt)
      have hcell : CellAt _ bb (o' + i) (.int .i64 l[i]) := ⟨hc i _ (ints_at l i hlt)⟩
      have hm := hmem.out l[i] (List.getElem_mem hlt)
      have HKT := Aside.mk (kv_drop (a := a) (b := b) hlt)
      have hkb := kv_bound (a := a) (b := b) (l := l.drop (i + 1)) (by simp; omega)
      have hHas := fun W => spec_l01Has a b l[i] hm.1 hm.2 W
      generalize l[i] = x at *
      have eq2 : ((i + 1 : Nat) : Int) - 1 = i := by omega
      rw [eq2]
      have e2 : IntKind.i64.wrap (2 * kv a b (l.drop (i + 1))) = 2 * kv a b (l.drop (i + 1)) := wrapI64 ⟨by omega, by omega⟩
      have e3 : IntKind.i64.wrap (2 * kv a b (l.drop (i + 1)) + 1) = 2 * kv a b (l.drop (i + 1)) + 1 := wrapI64 ⟨by omega, by omega⟩
      have e4 : IntKind.i64.wrap ((i : Int) - 1) = i - 1 := wrapI64 ⟨by omega, by omega⟩
      clear hc
      generalize hkq : kv a b (l.drop (i + 1)) = q at *
      go_wp2_with fail
      refine wp_region_keep (by kernel_rfl) (by kernel_rfl) ?_
      repeat
        first
          | (apply QuietL.run
             focus go_simp
             focus
               intro w2 hk
               obtain ⟨hM_0, hM_1, hM_2, hM_3, hM_4⟩ := (hM.keep hk).two
               obtain ⟨hcell_0, hcell_1⟩ := (hcell.keep hk).at2
               apply QAt.mk
               go_simp
               first
                 | done
                 | exact rfl
                 | (go_at_call 98; exact quiet_call hk (hHas _))
             simp only [Act.put, List.setIfInBounds_toArray, List.set_cons_succ, List.set_cons_zero])
          | (apply QuietL.skip
             focus go_simp
             simp only [Act.put, List.setIfInBounds_toArray, List.set_cons_succ, List.set_cons_zero])
      apply QuietL.nil
      intro w2 hk
      have hM := hM.keep hk
      obtain ⟨hM_0, hM_1, hM_2, hM_3, hM_4⟩ := hM.two
      have hcell := hcell.keep hk
      obtain ⟨hcell_0, hcell_1⟩ := hcell.at2
      have hM2 := Aside.mk hM
      have hR2 := Aside.mk (hR.keep hk)
      have k2 : Keep w w2 := (by ((repeat (first | (with_reducible assumption) | ((with_reducible refine Keep.setCell ?_ ?_ _); rotate_left; focus (first | omega | (simp; done) | (simp; omega))) | (with_reducible refine Keep.alloc ?_ _) | (with_reducible refine Keep.drewN ?_ _) | (with_reducible refine Keep.drew ?_) | (with_reducible exact Keep.refl _) | refine Keep.trans ?_ (by with_reducible assumption) | exact Keep.refl _ | assumption))))
      cases hb : hasB a b x <;> rw [hb] at HKT
      · clear hM hR hcell
        go_wp2
        go_roundg i
        case measure => omega
        case rel => exact ⟨i, rfl, by omega, by have := HKT.out; simp at this; rw [this], rfl, hM2.out, hR2.out, (by ((repeat (first | (with_reducible assumption) | ((with_reducible refine Keep.setCell ?_ ?_ _); rotate_left; focus (first | omega | (simp; done) | (simp; omega))) | (with_reducible refine Keep.alloc ?_ _) | (with_reducible refine Keep.drewN ?_ _) | (with_reducible refine Keep.drew ?_) | (with_reducible exact Keep.refl _) | refine Keep.trans ?_ (by with_reducible assumption) | exact Keep.refl _ | assumption))))⟩
      · clear hM hR hcell
        go_wp2
        go_roundg i
        case measure => omega
        case rel => exact ⟨i, rfl, by omega, by have := HKT.out; simp at this; rw [this, Int.add_comm], rfl, hM2.out, hR2.out, (by ((repeat (first | (with_reducible assumption) | ((with_reducible refine Keep.setCell ?_ ?_ _); rotate_left; focus (first | omega | (simp; done) | (simp; omega))) | (with_reducible refine Keep.alloc ?_ _) | (with_reducible refine Keep.drewN ?_ _) | (with_reducible refine Keep.drew ?_) | (with_reducible exact Keep.refl _) | refine Keep.trans ?_ (by with_reducible assumption) | exact Keep.refl _ | assumption))))⟩
    · obtain rfl : r = 0 := by omega
      have hMs := hM.two
      rw [List.drop_zero]
      go_wp2
      go_ret; exact ⟨rfl, (by ((repeat (first | (with_reducible assumption) | ((with_reducible refine Keep.setCell ?_ ?_ _); rotate_left; focus (first | omega | (simp; done) | (simp; omega))) | (with_reducible refine Keep.alloc ?_ _) | (with_reducible refine Keep.drewN ?_ _) | (with_reducible refine Keep.drew ?_) | (with_reducible exact Keep.refl _) | refine Keep.trans ?_ (by with_reducible assumption) | exact Keep.refl _ | assumption))))⟩
end Go.Proofs.YtpmilcfppcmodaaDoor

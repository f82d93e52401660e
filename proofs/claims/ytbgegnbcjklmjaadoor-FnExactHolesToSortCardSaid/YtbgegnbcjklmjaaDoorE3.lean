/- The reference's code of a value. -/
import Derived.Test.YtbgegnbcjklmjaaDoorE2
set_option linter.unusedVariables false
set_option linter.unusedSimpArgs false
namespace Go.Proofs.YtbgegnbcjklmjaaDoor
open Go.RowKit
set_option maxHeartbeats 4000000
theorem dg_tmod {v sz : Int} {i : Nat} (h : 0 ≤ v) : (v / pw 10 (sz - 1 - i).toNat).tmod 10 = dgt v sz i := by
  have pp := pw_pos (b := 10) (by decide) (sz - 1 - i).toNat
  exact Int.tmod_eq_emod_of_nonneg (Int.ediv_nonneg h (by omega))
theorem even_cond (a b : Wd) : (((pc a : Int) + (pc b : Int)).tmod 2) = cond (evenB a b) 0 1 := by
  rw [show (pc a : Int) + (pc b : Int) = ((pc a + pc b : Nat) : Int) by omega, Int.tmod_eq_emod_of_nonneg (by omega)]
  unfold evenB
  by_cases h : (pc a + pc b) % 2 = 0
  · simp [h]; omega
  · simp [h]; omega
theorem encLo_0 {st sz v : Int} : encLo 0 st sz v = bitLo (st + v) := by simp [encLo]
theorem encHi_0 {st sz v : Int} : encHi 0 st sz v = bitHi (st + v) := by simp [encHi]
theorem encLo_3 {st sz v : Int} : encLo 3 st sz v = cond (evenB (binLo st sz v) (binHi st sz v)) (binLo st sz v ||| bitLo (st + sz)) (binLo st sz v) := by simp [encLo]
theorem encHi_3 {st sz v : Int} : encHi 3 st sz v = cond (evenB (binLo st sz v) (binHi st sz v)) (binHi st sz v ||| bitHi (st + sz)) (binHi st sz v) := by simp [encHi]
theorem encLo_d {k st sz v : Int} (h : k = 1 ∨ k = 2) : encLo k st sz v = eLo k st sz v sz.toNat := by rcases h with rfl | rfl <;> simp [encLo]
theorem encHi_d {k st sz v : Int} (h : k = 1 ∨ k = 2) : encHi k st sz v = eHi k st sz v sz.toNat := by rcases h with rfl | rfl <;> simp [encHi]
theorem valB {k sz v : Int} (hz : okSz k sz) (hv : v ≤ mostN k sz) : v ≤ 9999 := by have := mostN_bound hz; omega
theorem spec_l01Code_0 (s : ByteArray) (st sz v : Int) (g o : Nat) (w : World) (hz : 1 ≤ sz ∧ sz ≤ 24) (h0 : 0 ≤ st) (h2 : st + sz ≤ 96) (v0 : 0 ≤ v) (v1 : v < sz)
    (c0 : w.cell? ⟨g, o, none⟩ = some (.string s)) (c1 : w.cell? ⟨g, o + 1, none⟩ = some (.int .i8 0)) (c2 : w.cell? ⟨g, o + 2, none⟩ = some (.int .i16 st)) (c3 : w.cell? ⟨g, o + 3, none⟩ = some (.int .i16 sz)) :
    Calls Tryd.prog 69 #[.pointer (some ⟨g, o, none⟩), .int .i64 v] w fun e w' => e = .returned (.agg #[.int .u64 (U (bitLo (st + v))), .int .u64 (U (bitHi (st + v)))]) ∧ Keep w w' := by
  have gz : g < w.heap.size := World.block_lt_of_cell? w _ c0
  have e1 : IntKind.i64.wrap st = st := wrapI64 ⟨by omega, by omega⟩
  have e2 : IntKind.i64.wrap sz = sz := wrapI64 ⟨by omega, by omega⟩
  have e3 : IntKind.i64.wrap (st + v) = st + v := wrapI64 ⟨by omega, by omega⟩
  go_enter Tryd.func69, Tryd.ntmps69
  (go_wp2_with fail); (go_at_call 78); (refine (spec_l01Bit _ (by omega) (by omega) _).mono ?_); rintro e w1 ⟨rfl, hk1⟩
  have hR := ((Bx.new w #[.int .u64 0, .int .u64 0] 28).alloc (Obj.cells #[.int .u64 0, .int .u64 0] 28)).keep hk1
  have k1 : Keep w w1 := (by ((repeat (first | (with_reducible assumption) | ((with_reducible refine Keep.setCell ?_ ?_ _); rotate_left; focus (first | omega | (simp; done) | (simp; omega))) | (with_reducible refine Keep.alloc ?_ _) | (with_reducible refine Keep.drewN ?_ _) | (with_reducible refine Keep.drew ?_) | (with_reducible exact Keep.refl _) | refine Keep.trans ?_ (by with_reducible assumption) | exact Keep.refl _ | assumption))))
  clear hk1 c0 c1 c2 c3
  have hRs := hR.two
  go_wp2
  (apply bodyPost_ret; rotate_left; rfl; exact ⟨rfl, (by ((repeat (first | (with_reducible assumption) | ((with_reducible refine Keep.setCell ?_ ?_ _); rotate_left; focus (first | omega | (simp; done) | (simp; omega))) | (with_reducible refine Keep.alloc ?_ _) | (with_reducible refine Keep.drewN ?_ _) | (with_reducible refine Keep.drew ?_) | (with_reducible exact Keep.refl _) | refine Keep.trans ?_ (by with_reducible assumption) | exact Keep.refl _ | assumption))))⟩; simp [results, Tryd.results69, go_sem, U_zero, *])
theorem spec_l01Code_3 (s : ByteArray) (st sz v : Int) (g o : Nat) (w : World) (hz : 1 ≤ sz ∧ sz ≤ 12) (h0 : 0 ≤ st) (h2 : st + sz + 1 ≤ 96) (v0 : 0 ≤ v) (v1 : v ≤ 9999)
    (c0 : w.cell? ⟨g, o, none⟩ = some (.string s)) (c1 : w.cell? ⟨g, o + 1, none⟩ = some (.int .i8 3)) (c2 : w.cell? ⟨g, o + 2, none⟩ = some (.int .i16 st)) (c3 : w.cell? ⟨g, o + 3, none⟩ = some (.int .i16 sz)) :
    Calls Tryd.prog 69 #[.pointer (some ⟨g, o, none⟩), .int .i64 v] w fun e w' => e = .returned (.agg #[.int .u64 (U (encLo 3 st sz v)), .int .u64 (U (encHi 3 st sz v))]) ∧ Keep w w' := by
  have gz : g < w.heap.size := World.block_lt_of_cell? w _ c0
  have e1 : IntKind.i64.wrap st = st := wrapI64 ⟨by omega, by omega⟩
  have e2 : IntKind.i64.wrap sz = sz := wrapI64 ⟨by omega, by omega⟩
  have e3 : IntKind.i64.wrap (st + sz) = st + sz := wrapI64 ⟨by omega, by omega⟩
  have hN := spec_l01Notch 0#64 0#64 st sz v
  have hc := even_cond (binLo st sz v) (binHi st sz v)
  rw [show nLo 0#64 st sz v sz.toNat = binLo st sz v from rfl, show nHi 0#64 st sz v sz.toNat = binHi st sz v from rfl] at hN
  rw [encLo_3, encHi_3]
  generalize binLo st sz v = a at *
  generalize binHi st sz v = b at *
  simp only [U_zero] at hN
  go_enter Tryd.func69, Tryd.ntmps69
  (go_wp2_with fail); (go_at_call 84); (refine (hN _ h0 (by omega) (by omega) (by omega) v0 (by omega)).mono ?_); rintro e w1 ⟨rfl, hk1⟩
  have hR1 := ((Bx.new w #[.int .u64 0, .int .u64 0] 28).alloc (Obj.cells #[.int .u64 0, .int .u64 0] 28)).keep hk1
  have hA1 := (Bx.new1 w (Obj.cells #[.int .u64 0, .int .u64 0] 28) #[.int .u64 0, .int .u64 0] 28).keep hk1
  have k1 : Keep w w1 := (by ((repeat (first | (with_reducible assumption) | ((with_reducible refine Keep.setCell ?_ ?_ _); rotate_left; focus (first | omega | (simp; done) | (simp; omega))) | (with_reducible refine Keep.alloc ?_ _) | (with_reducible refine Keep.drewN ?_ _) | (with_reducible refine Keep.drew ?_) | (with_reducible exact Keep.refl _) | refine Keep.trans ?_ (by with_reducible assumption) | exact Keep.refl _ | assumption))))
  clear hk1 c0 c1 c2 c3
  have hRs := hR1.two
  have hAs := hA1.two
  (go_wp2_with fail); (go_at_call 85); (refine (spec_CountHoles _ _ _).mono ?_); rintro e w2 ⟨rfl, hk2⟩
  have hR := ((hR1.set' (a := ⟨w.heap.size + 1, 0, none⟩) (by simp) (.int .u64 (U a))).set' (a := ⟨w.heap.size + 1, 1, none⟩) (by simp) (.int .u64 (U b))).keep hk2
  have hA : Bx w2 (w.heap.size + 1) #[.int .u64 (U a), .int .u64 (U b)] 28 := ((hA1.set (.int .u64 (U a))).set (.int .u64 (U b))).keep hk2
  have hW : Keep w w2 := (by ((repeat (first | (with_reducible assumption) | ((with_reducible refine Keep.setCell ?_ ?_ _); rotate_left; focus (first | omega | (simp; done) | (simp; omega))) | (with_reducible refine Keep.alloc ?_ _) | (with_reducible refine Keep.drewN ?_ _) | (with_reducible refine Keep.drew ?_) | (with_reducible exact Keep.refl _) | refine Keep.trans ?_ (by with_reducible assumption) | exact Keep.refl _ | assumption))))
  clear hk2 hRs hAs hR1 hA1 k1
  have hRs := hR.two
  have hAs := hA.two
  cases hb : evenB a b <;> rw [hb] at hc <;> simp only [cond_true, cond_false] at hc ⊢
  · go_wp2
    (apply bodyPost_ret; rotate_left; rfl; exact ⟨rfl, (by ((repeat (first | (with_reducible assumption) | ((with_reducible refine Keep.setCell ?_ ?_ _); rotate_left; focus (first | omega | (simp; done) | (simp; omega))) | (with_reducible refine Keep.alloc ?_ _) | (with_reducible refine Keep.drewN ?_ _) | (with_reducible refine Keep.drew ?_) | (with_reducible exact Keep.refl _) | refine Keep.trans ?_ (by with_reducible assumption) | exact Keep.refl _ | assumption))))⟩; simp [results, Tryd.results69, go_sem, U_zero, *])
  · go_wp2_with fail
    clear hAs hRs
    apply wp_region_mono 6 [Fx _, Fx _, Fx _, Fx _, Fx _, Fx _] (by kernel_rfl) (by kernel_rfl) (mono_of ⟨Fx.mono _, Fx.mono _, Fx.mono _, Fx.mono _, Fx.mono _, Fx.mono _, trivial⟩) ?st8 ?tl8
    case st8 =>
      simp only [List.take_succ_cons, List.take_zero, List.drop_succ_cons, List.drop_zero, putAll, Act.put, List.setIfInBounds_toArray, List.set_cons_succ, List.set_cons_zero, Nat.zero_add, Nat.reduceAdd]
      refine steps_cons ?_ (steps_cons ?_ (steps_cons ?_ (steps_cons ?_ (steps_cons ?_ (steps_cons ?_ steps_nil)))))
      all_goals
        intro v w2 hk hd
        obtain ⟨hR_0, hR_1, hR_2, hR_3, hR_4⟩ := (hR.keep hk).two
        obtain ⟨hA_0, hA_1, hA_2, hA_3, hA_4⟩ := (hA.keep hk).two
        have hkz := hk.size
        simp [DepsOf, factAt, Fx, Region.binds] at hd
        simp only [factAt, List.getD_cons_zero, List.getD_cons_succ]
        refine Gives.mk ?_
        go_simp
        first | exact ⟨Keep.refl _, Fx.self _ _⟩ | exact ⟨(Keep.refl _).alloc _, _, rfl, Bx.new _ _ _, by first | omega | (simp; omega)⟩ | (go_at_call 78; exact gives_fx (spec_l01Bit _ (by omega) (by omega) _)) | (go_at_call 73; exact gives_fx (spec_l01Join _ _ _ _ _))
    simp only [List.take_succ_cons, List.take_zero, List.drop_succ_cons, List.drop_zero, putAll, Act.put, List.setIfInBounds_toArray, List.set_cons_succ, List.set_cons_zero, Nat.zero_add, Nat.reduceAdd]
    intro v w2 hk hh
    obtain ⟨hR_0, hR_1, hR_2, hR_3, hR_4⟩ := (hR.keep hk).two
    obtain ⟨hA_0, hA_1, hA_2, hA_3, hA_4⟩ := (hA.keep hk).two
    have hkz := hk.size
    simp only [Held, factAt, List.getD_cons_zero, List.getD_cons_succ, Fx, true_and] at hh
    obtain ⟨⟨⟨⟨⟨v_0, v_1⟩, v_2⟩, v_3⟩, v_4⟩, v_5⟩ := hh
    simp only [v_0, v_1, v_2, v_3, v_4, v_5]
    go_wp2
    (apply bodyPost_ret; rotate_left; rfl; exact ⟨rfl, (by ((repeat (first | (with_reducible assumption) | ((with_reducible refine Keep.setCell ?_ ?_ _); rotate_left; focus (first | omega | (simp; done) | (simp; omega))) | (with_reducible refine Keep.alloc ?_ _) | (with_reducible refine Keep.drewN ?_ _) | (with_reducible refine Keep.drew ?_) | (with_reducible exact Keep.refl _) | refine Keep.trans ?_ (by with_reducible assumption) | exact Keep.refl _ | assumption))))⟩; simp [results, Tryd.results69, go_sem, U_zero, *])
theorem spec_l01Code_1 (s : ByteArray) (st sz v : Int) (g o : Nat) (w : World) (hz : 1 ≤ sz ∧ sz ≤ 4) (h0 : 0 ≤ st) (h2 : st + 4 * sz ≤ 96) (v0 : 0 ≤ v) (v1 : v ≤ 9999)
    (c0 : w.cell? ⟨g, o, none⟩ = some (.string s)) (c1 : w.cell? ⟨g, o + 1, none⟩ = some (.int .i8 1)) (c2 : w.cell? ⟨g, o + 2, none⟩ = some (.int .i16 st)) (c3 : w.cell? ⟨g, o + 3, none⟩ = some (.int .i16 sz)) :
    Calls Tryd.prog 69 #[.pointer (some ⟨g, o, none⟩), .int .i64 v] w fun e w' => e = .returned (.agg #[.int .u64 (U (eLo 1 st sz v sz.toNat)), .int .u64 (U (eHi 1 st sz v sz.toNat))]) ∧ Keep w w' := by
  have gz : g < w.heap.size := World.block_lt_of_cell? w _ c0
  have e1 : IntKind.i64.wrap st = st := wrapI64 ⟨by omega, by omega⟩
  have e2 : IntKind.i64.wrap sz = sz := wrapI64 ⟨by omega, by omega⟩
  go_enter Tryd.func69, Tryd.ntmps69
  (go_wp2_with fail); (go_at_call 86); (refine (spec_l01Sums _).mono ?_); rintro e w1 ⟨g1, rfl, hC1, hgs1, hk1⟩
  have hR1 := ((Bx.new w #[.int .u64 0, .int .u64 0] 28).alloc (Obj.cells #[.int .u64 0, .int .u64 0] 28)).keep hk1
  have hA1 := (Bx.new1 w (Obj.cells #[.int .u64 0, .int .u64 0] 28) #[.int .u64 0, .int .u64 0] 28).keep hk1
  have k1 : Keep w w1 := (by ((repeat (first | (with_reducible assumption) | ((with_reducible refine Keep.setCell ?_ ?_ _); rotate_left; focus (first | omega | (simp; done) | (simp; omega))) | (with_reducible refine Keep.alloc ?_ _) | (with_reducible refine Keep.drewN ?_ _) | (with_reducible refine Keep.drew ?_) | (with_reducible exact Keep.refl _) | refine Keep.trans ?_ (by with_reducible assumption) | exact Keep.refl _ | assumption))))
  have d0 := k1.cell c0
  have d1 := k1.cell c1
  have d2 := k1.cell c2
  have d3 := k1.cell c3
  have z1 : w.heap.size + 1 < g1 := by simp at hgs1; omega
  clear hk1 hgs1
  have hR1s := hR1.two
  have hA1s := hA1.two
  obtain ⟨gs, hC, zs⟩ : ∃ gs, Bx w1 gs (ints sums).toArray 2 ∧ gs = g1 := ⟨g1, hC1, rfl⟩
  have zg : w.heap.size + 1 < gs := by omega
  subst zs
  clear hC1
  clear hR1s hA1s
  go_wp2_with fail
  go_loopg [10] sz.toNat (fun m s1 wr => ∃ i : Nat, i + m = sz.toNat ∧ s1 = .int .i64 i ∧ Bx wr w.heap.size #[.int .u64 0, .int .u64 0] 28 ∧ Bx wr (w.heap.size + 1) #[.int .u64 (U (eLo 1 st sz v i)), .int .u64 (U (eHi 1 st sz v i))] 28 ∧ Bx wr gs (ints sums).toArray 2 ∧ Keep w wr)
  case atStart => exact ⟨0, by omega, rfl, hR1, hA1, hC, (by ((repeat (first | (with_reducible assumption) | ((with_reducible refine Keep.setCell ?_ ?_ _); rotate_left; focus (first | omega | (simp; done) | (simp; omega))) | (with_reducible refine Keep.alloc ?_ _) | (with_reducible refine Keep.drewN ?_ _) | (with_reducible refine Keep.drew ?_) | (with_reducible exact Keep.refl _) | refine Keep.trans ?_ (by with_reducible assumption) | exact Keep.refl _ | assumption))))⟩
  case round =>
    obtain ⟨i, hi, rfl, hR, hA, hC, hk⟩ := hrel
    by_cases hlt : (i : Int) < sz
    · have e3 : IntKind.i64.wrap (sz - 1) = sz - 1 := wrapI64 ⟨by omega, by omega⟩
      have e4 : IntKind.i64.wrap (sz - 1 - i) = sz - 1 - i := wrapI64 ⟨by omega, by omega⟩
      have pp := pw_pos (b := 10) (by decide) (sz - 1 - i).toNat
      have pq := pw10_le (n := (sz - 1 - i).toNat) (by omega)
      (go_wp2_with fail); (go_at_call 77); (refine (spec_l01Power 10 (sz - 1 - i) _ (by decide) (by decide) (by omega) (by omega) (by omega)).mono ?_); rintro e w2 ⟨rfl, hk2⟩
      have hR2 := hR.keep hk2
      have hA2 := hA.keep hk2
      have hC2 := hC.keep hk2
      have k2 : Keep w w2 := (by ((repeat (first | (with_reducible assumption) | ((with_reducible refine Keep.setCell ?_ ?_ _); rotate_left; focus (first | omega | (simp; done) | (simp; omega))) | (with_reducible refine Keep.alloc ?_ _) | (with_reducible refine Keep.drewN ?_ _) | (with_reducible refine Keep.drew ?_) | (with_reducible exact Keep.refl _) | refine Keep.trans ?_ (by with_reducible assumption) | exact Keep.refl _ | assumption))))
      clear hR hA hC hk2 hk
      have hc := dg_tmod (sz := sz) (i := i) v0
      have hr := dgt_range v sz i
      obtain ⟨dn, hdn⟩ := Int.eq_ofNat_of_zero_le hr.1
      have hD : CellAt w2 gs dn (.int .i64 (dcode 1 (dgt v sz i))) := ⟨by rw [hC2.cell dn]; have := dcode_sums hr; rw [hdn] at this ⊢; exact this⟩
      have hdc := dcode_range (k := 1) (by decide) hr
      have HL := Aside.mk (eLo_succ 1 st sz v i)
      have HH := Aside.mk (eHi_succ 1 st sz v i)
      have hN := spec_l01Notch (eLo 1 st sz v i) (eHi 1 st sz v i) (st + 4 * i) 4 (dcode 1 (dgt v sz i))
      rw [hdn] at hc hr
      generalize hP : pw 10 (sz - 1 - i).toNat = P at *
      generalize dcode 1 (dgt v sz i) = dc at *
      generalize eLo 1 st sz v i = x at *
      generalize eHi 1 st sz v i = y at *
      have e5 : IntKind.i64.wrap (4 * i) = 4 * i := wrapI64 ⟨by omega, by omega⟩
      have e6 : IntKind.i64.wrap (st + 4 * i) = st + 4 * i := wrapI64 ⟨by omega, by omega⟩
      clear hP
      go_wp2_with fail
      apply wp_region_mono 12 [Fx _, Fx _, Fx _, Fx _, Fx _, Fx _, Fx _, Fx _, Fx _, Fx _, Fx _, Fx _] (by kernel_rfl) (by kernel_rfl) (mono_of ⟨Fx.mono _, Fx.mono _, Fx.mono _, Fx.mono _, Fx.mono _, Fx.mono _, Fx.mono _, Fx.mono _, Fx.mono _, Fx.mono _, Fx.mono _, Fx.mono _, trivial⟩) ?st9 ?tl9
      case st9 =>
        simp only [List.take_succ_cons, List.take_zero, List.drop_succ_cons, List.drop_zero, putAll, Act.put, List.setIfInBounds_toArray, List.set_cons_succ, List.set_cons_zero, Nat.zero_add, Nat.reduceAdd]
        refine steps_cons ?_ (steps_cons ?_ (steps_cons ?_ (steps_cons ?_ (steps_cons ?_ (steps_cons ?_ (steps_cons ?_ (steps_cons ?_ (steps_cons ?_ (steps_cons ?_ (steps_cons ?_ (steps_cons ?_ steps_nil)))))))))))
        all_goals
          intro v w2 hk hd
          obtain ⟨hR2_0, hR2_1, hR2_2, hR2_3, hR2_4⟩ := (hR2.keep hk).two
          obtain ⟨hA2_0, hA2_1, hA2_2, hA2_3, hA2_4⟩ := (hA2.keep hk).two
          obtain ⟨hD_0, hD_1⟩ := (hD.keep hk).at2
          have hkz := hk.size
          simp [DepsOf, factAt, Fx, Region.binds] at hd
          simp only [factAt, List.getD_cons_zero, List.getD_cons_succ]
          refine Gives.mk ?_
          go_simp
          first | exact ⟨Keep.refl _, Fx.self _ _⟩ | exact ⟨(Keep.refl _).alloc _, _, rfl, Bx.new _ _ _, by first | omega | (simp; omega)⟩ | (go_at_call 84; exact gives_fx (hN _ (by omega) (by omega) (by omega) (by omega) (by omega) (by omega)))
      simp only [List.take_succ_cons, List.take_zero, List.drop_succ_cons, List.drop_zero, putAll, Act.put, List.setIfInBounds_toArray, List.set_cons_succ, List.set_cons_zero, Nat.zero_add, Nat.reduceAdd]
      intro v w2 hk hh
      obtain ⟨hR2_0, hR2_1, hR2_2, hR2_3, hR2_4⟩ := (hR2.keep hk).two
      obtain ⟨hA2_0, hA2_1, hA2_2, hA2_3, hA2_4⟩ := (hA2.keep hk).two
      obtain ⟨hD_0, hD_1⟩ := (hD.keep hk).at2
      have hkz := hk.size
      simp only [Held, factAt, List.getD_cons_zero, List.getD_cons_succ, Fx, true_and] at hh
      obtain ⟨⟨⟨⟨⟨⟨⟨⟨⟨⟨⟨v_0, v_1⟩, v_2⟩, v_3⟩, v_4⟩, v_5⟩, v_6⟩, v_7⟩, v_8⟩, v_9⟩, v_10⟩, v_11⟩ := hh
      simp only [v_0, v_1, v_2, v_3, v_4, v_5, v_6, v_7, v_8, v_9, v_10, v_11]
      have HR := Aside.mk (hR2.keep hk)
      have HA := Aside.mk (hA2.keep hk)
      have HC := Aside.mk (hC2.keep hk)
      clear hR2 hA2 hC2 hN
      go_wp2
      go_roundg (sz.toNat - (i + 1))
      case measure => omega
      case rel => exact ⟨i + 1, by omega, by go_num, (HR.out.set' (by simp) _).set' (by simp) _, by rw [HL.out, HH.out]; exact (HA.out.set _).set _, (HC.out.set' (by simp; omega) _).set' (by simp; omega) _, (by ((repeat (first | (with_reducible assumption) | ((with_reducible refine Keep.setCell ?_ ?_ _); rotate_left; focus (first | omega | (simp; done) | (simp; omega))) | (with_reducible refine Keep.alloc ?_ _) | (with_reducible refine Keep.drewN ?_ _) | (with_reducible refine Keep.drew ?_) | (with_reducible exact Keep.refl _) | refine Keep.trans ?_ (by with_reducible assumption) | exact Keep.refl _ | assumption))))⟩
    · obtain rfl : i = sz.toNat := by omega
      have hAs := hA.two
      have hRs := hR.two
      go_wp2
      (apply bodyPost_ret; rotate_left; rfl; exact ⟨rfl, (by ((repeat (first | (with_reducible assumption) | ((with_reducible refine Keep.setCell ?_ ?_ _); rotate_left; focus (first | omega | (simp; done) | (simp; omega))) | (with_reducible refine Keep.alloc ?_ _) | (with_reducible refine Keep.drewN ?_ _) | (with_reducible refine Keep.drew ?_) | (with_reducible exact Keep.refl _) | refine Keep.trans ?_ (by with_reducible assumption) | exact Keep.refl _ | assumption))))⟩; simp [results, Tryd.results69, go_sem, U_zero, *])
theorem spec_l01Code_2 (s : ByteArray) (st sz v : Int) (g o : Nat) (w : World) (hz : 1 ≤ sz ∧ sz ≤ 4) (h0 : 0 ≤ st) (h2 : st + 5 * sz ≤ 96) (v0 : 0 ≤ v) (v1 : v ≤ 9999)
    (c0 : w.cell? ⟨g, o, none⟩ = some (.string s)) (c1 : w.cell? ⟨g, o + 1, none⟩ = some (.int .i8 2)) (c2 : w.cell? ⟨g, o + 2, none⟩ = some (.int .i16 st)) (c3 : w.cell? ⟨g, o + 3, none⟩ = some (.int .i16 sz)) :
    Calls Tryd.prog 69 #[.pointer (some ⟨g, o, none⟩), .int .i64 v] w fun e w' => e = .returned (.agg #[.int .u64 (U (eLo 2 st sz v sz.toNat)), .int .u64 (U (eHi 2 st sz v sz.toNat))]) ∧ Keep w w' := by
  have gz : g < w.heap.size := World.block_lt_of_cell? w _ c0
  have e1 : IntKind.i64.wrap st = st := wrapI64 ⟨by omega, by omega⟩
  have e2 : IntKind.i64.wrap sz = sz := wrapI64 ⟨by omega, by omega⟩
  go_enter Tryd.func69, Tryd.ntmps69
  (go_wp2_with fail); (go_at_call 86); (refine (spec_l01Sums _).mono ?_); rintro e w1 ⟨g1, rfl, hC1, hgs1, hk1⟩
  have hR1 := ((Bx.new w #[.int .u64 0, .int .u64 0] 28).alloc (Obj.cells #[.int .u64 0, .int .u64 0] 28)).keep hk1
  have hA1 := (Bx.new1 w (Obj.cells #[.int .u64 0, .int .u64 0] 28) #[.int .u64 0, .int .u64 0] 28).keep hk1
  have k1 : Keep w w1 := (by ((repeat (first | (with_reducible assumption) | ((with_reducible refine Keep.setCell ?_ ?_ _); rotate_left; focus (first | omega | (simp; done) | (simp; omega))) | (with_reducible refine Keep.alloc ?_ _) | (with_reducible refine Keep.drewN ?_ _) | (with_reducible refine Keep.drew ?_) | (with_reducible exact Keep.refl _) | refine Keep.trans ?_ (by with_reducible assumption) | exact Keep.refl _ | assumption))))
  have d0 := k1.cell c0
  have d1 := k1.cell c1
  have d2 := k1.cell c2
  have d3 := k1.cell c3
  have z1 : w.heap.size + 1 < g1 := by simp at hgs1; omega
  clear hk1 hgs1
  have hR1s := hR1.two
  have hA1s := hA1.two
  (go_wp2_with fail); (go_at_call 87); (refine (spec_l01Pairs _).mono ?_); rintro e w3 ⟨gs, rfl, hC, hgs, hk3⟩
  replace hR1 := hR1.keep hk3
  replace hA1 := hA1.keep hk3
  have k3 : Keep w w3 := (by ((repeat (first | (with_reducible assumption) | ((with_reducible refine Keep.setCell ?_ ?_ _); rotate_left; focus (first | omega | (simp; done) | (simp; omega))) | (with_reducible refine Keep.alloc ?_ _) | (with_reducible refine Keep.drewN ?_ _) | (with_reducible refine Keep.drew ?_) | (with_reducible exact Keep.refl _) | refine Keep.trans ?_ (by with_reducible assumption) | exact Keep.refl _ | assumption))))
  have zg : w.heap.size + 1 < gs := by have := k1.size; have := hA1s.2.2.2.2; omega
  clear hk3 hgs k1 d0 d1 d2 d3 hC1 hR1s hA1s z1
  have hR1s := hR1.two
  have hA1s := hA1.two
  clear hR1s hA1s
  go_wp2_with fail
  go_loopg [10] sz.toNat (fun m s1 wr => ∃ i : Nat, i + m = sz.toNat ∧ s1 = .int .i64 i ∧ Bx wr w.heap.size #[.int .u64 0, .int .u64 0] 28 ∧ Bx wr (w.heap.size + 1) #[.int .u64 (U (eLo 2 st sz v i)), .int .u64 (U (eHi 2 st sz v i))] 28 ∧ Bx wr gs (ints pairsL).toArray 2 ∧ Keep w wr)
  case atStart => exact ⟨0, by omega, rfl, hR1, hA1, hC, (by ((repeat (first | (with_reducible assumption) | ((with_reducible refine Keep.setCell ?_ ?_ _); rotate_left; focus (first | omega | (simp; done) | (simp; omega))) | (with_reducible refine Keep.alloc ?_ _) | (with_reducible refine Keep.drewN ?_ _) | (with_reducible refine Keep.drew ?_) | (with_reducible exact Keep.refl _) | refine Keep.trans ?_ (by with_reducible assumption) | exact Keep.refl _ | assumption))))⟩
  case round =>
    obtain ⟨i, hi, rfl, hR, hA, hC, hk⟩ := hrel
    by_cases hlt : (i : Int) < sz
    · have e3 : IntKind.i64.wrap (sz - 1) = sz - 1 := wrapI64 ⟨by omega, by omega⟩
      have e4 : IntKind.i64.wrap (sz - 1 - i) = sz - 1 - i := wrapI64 ⟨by omega, by omega⟩
      have pp := pw_pos (b := 10) (by decide) (sz - 1 - i).toNat
      have pq := pw10_le (n := (sz - 1 - i).toNat) (by omega)
      (go_wp2_with fail); (go_at_call 77); (refine (spec_l01Power 10 (sz - 1 - i) _ (by decide) (by decide) (by omega) (by omega) (by omega)).mono ?_); rintro e w2 ⟨rfl, hk2⟩
      have hR2 := hR.keep hk2
      have hA2 := hA.keep hk2
      have hC2 := hC.keep hk2
      have k2 : Keep w w2 := (by ((repeat (first | (with_reducible assumption) | ((with_reducible refine Keep.setCell ?_ ?_ _); rotate_left; focus (first | omega | (simp; done) | (simp; omega))) | (with_reducible refine Keep.alloc ?_ _) | (with_reducible refine Keep.drewN ?_ _) | (with_reducible refine Keep.drew ?_) | (with_reducible exact Keep.refl _) | refine Keep.trans ?_ (by with_reducible assumption) | exact Keep.refl _ | assumption))))
      clear hR hA hC hk2 hk
      have hc := dg_tmod (sz := sz) (i := i) v0
      have hr := dgt_range v sz i
      obtain ⟨dn, hdn⟩ := Int.eq_ofNat_of_zero_le hr.1
      have hD : CellAt w2 gs dn (.int .i64 (dcode 2 (dgt v sz i))) := ⟨by rw [hC2.cell dn]; have := dcode_pairs hr; rw [hdn] at this ⊢; exact this⟩
      have hdc := dcode_range (k := 2) (by decide) hr
      have HL := Aside.mk (eLo_succ 2 st sz v i)
      have HH := Aside.mk (eHi_succ 2 st sz v i)
      have hN := spec_l01Notch (eLo 2 st sz v i) (eHi 2 st sz v i) (st + 5 * i) 5 (dcode 2 (dgt v sz i))
      rw [hdn] at hc hr
      generalize hP : pw 10 (sz - 1 - i).toNat = P at *
      generalize dcode 2 (dgt v sz i) = dc at *
      generalize eLo 2 st sz v i = x at *
      generalize eHi 2 st sz v i = y at *
      have e5 : IntKind.i64.wrap (5 * i) = 5 * i := wrapI64 ⟨by omega, by omega⟩
      have e6 : IntKind.i64.wrap (st + 5 * i) = st + 5 * i := wrapI64 ⟨by omega, by omega⟩
      clear hP
      go_wp2_with fail
      apply wp_region_mono 12 [Fx _, Fx _, Fx _, Fx _, Fx _, Fx _, Fx _, Fx _, Fx _, Fx _, Fx _, Fx _] (by kernel_rfl) (by kernel_rfl) (mono_of ⟨Fx.mono _, Fx.mono _, Fx.mono _, Fx.mono _, Fx.mono _, Fx.mono _, Fx.mono _, Fx.mono _, Fx.mono _, Fx.mono _, Fx.mono _, Fx.mono _, trivial⟩) ?st10 ?tl10
      case st10 =>
        simp only [List.take_succ_cons, List.take_zero, List.drop_succ_cons, List.drop_zero, putAll, Act.put, List.setIfInBounds_toArray, List.set_cons_succ, List.set_cons_zero, Nat.zero_add, Nat.reduceAdd]
        refine steps_cons ?_ (steps_cons ?_ (steps_cons ?_ (steps_cons ?_ (steps_cons ?_ (steps_cons ?_ (steps_cons ?_ (steps_cons ?_ (steps_cons ?_ (steps_cons ?_ (steps_cons ?_ (steps_cons ?_ steps_nil)))))))))))
        all_goals
          intro v w2 hk hd
          obtain ⟨hR2_0, hR2_1, hR2_2, hR2_3, hR2_4⟩ := (hR2.keep hk).two
          obtain ⟨hA2_0, hA2_1, hA2_2, hA2_3, hA2_4⟩ := (hA2.keep hk).two
          obtain ⟨hD_0, hD_1⟩ := (hD.keep hk).at2
          have hkz := hk.size
          simp [DepsOf, factAt, Fx, Region.binds] at hd
          simp only [factAt, List.getD_cons_zero, List.getD_cons_succ]
          refine Gives.mk ?_
          go_simp
          first | exact ⟨Keep.refl _, Fx.self _ _⟩ | exact ⟨(Keep.refl _).alloc _, _, rfl, Bx.new _ _ _, by first | omega | (simp; omega)⟩ | (go_at_call 84; exact gives_fx (hN _ (by omega) (by omega) (by omega) (by omega) (by omega) (by omega)))
      simp only [List.take_succ_cons, List.take_zero, List.drop_succ_cons, List.drop_zero, putAll, Act.put, List.setIfInBounds_toArray, List.set_cons_succ, List.set_cons_zero, Nat.zero_add, Nat.reduceAdd]
      intro v w2 hk hh
      obtain ⟨hR2_0, hR2_1, hR2_2, hR2_3, hR2_4⟩ := (hR2.keep hk).two
      obtain ⟨hA2_0, hA2_1, hA2_2, hA2_3, hA2_4⟩ := (hA2.keep hk).two
      obtain ⟨hD_0, hD_1⟩ := (hD.keep hk).at2
      have hkz := hk.size
      simp only [Held, factAt, List.getD_cons_zero, List.getD_cons_succ, Fx, true_and] at hh
      obtain ⟨⟨⟨⟨⟨⟨⟨⟨⟨⟨⟨v_0, v_1⟩, v_2⟩, v_3⟩, v_4⟩, v_5⟩, v_6⟩, v_7⟩, v_8⟩, v_9⟩, v_10⟩, v_11⟩ := hh
      simp only [v_0, v_1, v_2, v_3, v_4, v_5, v_6, v_7, v_8, v_9, v_10, v_11]
      have HR := Aside.mk (hR2.keep hk)
      have HA := Aside.mk (hA2.keep hk)
      have HC := Aside.mk (hC2.keep hk)
      clear hR2 hA2 hC2 hN
      go_wp2
      go_roundg (sz.toNat - (i + 1))
      case measure => omega
      case rel => exact ⟨i + 1, by omega, by go_num, (HR.out.set' (by simp) _).set' (by simp) _, by rw [HL.out, HH.out]; exact (HA.out.set _).set _, (HC.out.set' (by simp; omega) _).set' (by simp; omega) _, (by ((repeat (first | (with_reducible assumption) | ((with_reducible refine Keep.setCell ?_ ?_ _); rotate_left; focus (first | omega | (simp; done) | (simp; omega))) | (with_reducible refine Keep.alloc ?_ _) | (with_reducible refine Keep.drewN ?_ _) | (with_reducible refine Keep.drew ?_) | (with_reducible exact Keep.refl _) | refine Keep.trans ?_ (by with_reducible assumption) | exact Keep.refl _ | assumption))))⟩
    · obtain rfl : i = sz.toNat := by omega
      have hAs := hA.two
      have hRs := hR.two
      go_wp2
      (apply bodyPost_ret; rotate_left; rfl; exact ⟨rfl, (by ((repeat (first | (with_reducible assumption) | ((with_reducible refine Keep.setCell ?_ ?_ _); rotate_left; focus (first | omega | (simp; done) | (simp; omega))) | (with_reducible refine Keep.alloc ?_ _) | (with_reducible refine Keep.drewN ?_ _) | (with_reducible refine Keep.drew ?_) | (with_reducible exact Keep.refl _) | refine Keep.trans ?_ (by with_reducible assumption) | exact Keep.refl _ | assumption))))⟩; simp [results, Tryd.results69, go_sem, U_zero, *])
end Go.Proofs.YtbgegnbcjklmjaaDoor

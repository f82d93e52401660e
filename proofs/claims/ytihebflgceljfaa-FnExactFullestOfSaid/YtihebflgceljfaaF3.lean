/- The fullest of masks: the function itself. -/
import Derived.Test.YtihebflgceljfaaF2
set_option linter.unusedVariables false
set_option linter.unusedSimpArgs false
namespace Go.Proofs.Ytihebflgceljfaa
open Go.RowKit
set_option maxHeartbeats 1000000
set_option maxRecDepth 20000
theorem impl_FullestOf (s z p : Int) (A : Option Addr) (l : List (Wd × Wd)) (c : Nat) (w : World) (hw : I16 s ∧ I16 z ∧ I16 p) (hm : l.length ≤ 9223372036854775807) (hR : Rd w A (msks l)) :
    Calls Try.prog 10 #[.agg #[.int .i16 s, .int .i16 z, .int .i16 p], .slice A l.length c] w fun e w' => e = .returned (.tuple #[.int .i64 (flB s z p l), .int .i64 (flM s z p l), .int .i64 (flE s z p l)]) ∧ Keep w w' := by
  have hc := fun W h => contains_mask A l c 41 badM W hm h (enters_of Try.func41 (by kernel_rfl) rfl) (fun a b W => fullest_clo a b W)
  cases h1 : mixB s z p
  · have h0 : mkE s z p l = 1 := by simp [mkE, h1]
    obtain ⟨e1, e2, e3⟩ := fl_no (show mkE s z p l ≠ 0 by rw [h0]; decide)
    rw [e1, e2, e3, h0]
    clear e1 e2 e3 h0 hc
    go_enter Try.func10, Try.ntmps10
    (go_wp2_with fail); (go_at_call 39); (refine (impl_isMix s z p _ hw.2.1 hw.2.2 hw.1).mono ?_); rintro e w1 ⟨rfl, hk1⟩
    rw [h1]
    go_wp2
    (apply bodyPost_ret; rotate_left; rfl; exact ⟨rfl, (by ((repeat (first | (with_reducible assumption) | ((with_reducible refine Keep.setCell ?_ ?_ _); rotate_left; focus (first | omega | (simp; done) | (simp; omega))) | (with_reducible refine Keep.alloc ?_ _) | (with_reducible refine Keep.drewN ?_ _) | (with_reducible refine Keep.drew ?_) | (with_reducible exact Keep.refl _) | refine Keep.trans ?_ (by with_reducible assumption) | exact Keep.refl _ | assumption))))⟩; simp [results, Try.results10, go_sem, U_zero, *])
  · cases h2 : l.any badM
    · rw [h2] at hc
      by_cases h3 : l.length ≤ 60
      · have h0 := mkE_ok.2 ⟨h1, h2, h3⟩
        by_cases hl : l.length = 0
        · obtain ⟨e1, e2, e3⟩ := fl_empty h0 hl
          rw [e1, e2, e3]
          have HL := Aside.mk hl
          clear e1 e2 e3 hl h3 h0 h2
          go_enter Try.func10, Try.ntmps10
          (go_wp2_with fail); (go_at_call 39); (refine (impl_isMix s z p _ hw.2.1 hw.2.2 hw.1).mono ?_); rintro e w1 ⟨rfl, hk1⟩
          rw [h1]
          have k1 : Keep w w1 := (by ((repeat (first | (with_reducible assumption) | ((with_reducible refine Keep.setCell ?_ ?_ _); rotate_left; focus (first | omega | (simp; done) | (simp; omega))) | (with_reducible refine Keep.alloc ?_ _) | (with_reducible refine Keep.drewN ?_ _) | (with_reducible refine Keep.drew ?_) | (with_reducible exact Keep.refl _) | refine Keep.trans ?_ (by with_reducible assumption) | exact Keep.refl _ | assumption))))
          (go_wp2_with fail); (go_at_call 40); (refine (hc _ (hR.keep k1)).mono ?_); rintro e w2 ⟨rfl, hk2⟩
          have hl := HL.out
          go_wp2
          (apply bodyPost_ret; rotate_left; rfl; exact ⟨rfl, (by ((repeat (first | (with_reducible assumption) | ((with_reducible refine Keep.setCell ?_ ?_ _); rotate_left; focus (first | omega | (simp; done) | (simp; omega))) | (with_reducible refine Keep.alloc ?_ _) | (with_reducible refine Keep.drewN ?_ _) | (with_reducible refine Keep.drew ?_) | (with_reducible exact Keep.refl _) | refine Keep.trans ?_ (by with_reducible assumption) | exact Keep.refl _ | assumption))))⟩; simp [results, Try.results10, go_sem, U_zero, *])
        · obtain ⟨e1, e2, e3⟩ := fl_ok h0 hl
          rw [e1, e2, e3]
          have hmx := mixB_iff.1 h1
          have hp := fun W => impl_mixPart s z p W (by omega) (by omega) (by omega)
          clear e1 e2 e3 h0 h2
          obtain ⟨lo, hlo⟩ : ∃ x, rlo s z.toNat = x := ⟨_, rfl⟩
          obtain ⟨hi', hhi⟩ : ∃ x, rhi s z.toNat = x := ⟨_, rfl⟩
          rw [hlo, hhi] at hp
          rw [hlo, hhi]
          clear hlo hhi hmx
          go_enter Try.func10, Try.ntmps10
          (go_wp2_with fail); (go_at_call 39); (refine (impl_isMix s z p _ hw.2.1 hw.2.2 hw.1).mono ?_); rintro e w1 ⟨rfl, hk1⟩
          rw [h1]
          have hX : Bx w1 w.heap.size #[.int .i16 s, .int .i16 z, .int .i16 p] 29 := (Bx.new _ _ _).keep hk1
          have k1 : Keep w w1 := (by ((repeat (first | (with_reducible assumption) | ((with_reducible refine Keep.setCell ?_ ?_ _); rotate_left; focus (first | omega | (simp; done) | (simp; omega))) | (with_reducible refine Keep.alloc ?_ _) | (with_reducible refine Keep.drewN ?_ _) | (with_reducible refine Keep.drew ?_) | (with_reducible exact Keep.refl _) | refine Keep.trans ?_ (by with_reducible assumption) | exact Keep.refl _ | assumption))))
          clear hk1
          (go_wp2_with fail); (go_at_call 40); (refine (hc _ (hR.keep k1)).mono ?_); rintro e w2 ⟨rfl, hk2⟩
          have HX := Aside.mk (hX.keep hk2)
          have k2 : Keep w w2 := (by ((repeat (first | (with_reducible assumption) | ((with_reducible refine Keep.setCell ?_ ?_ _); rotate_left; focus (first | omega | (simp; done) | (simp; omega))) | (with_reducible refine Keep.alloc ?_ _) | (with_reducible refine Keep.drewN ?_ _) | (with_reducible refine Keep.drew ?_) | (with_reducible exact Keep.refl _) | refine Keep.trans ?_ (by with_reducible assumption) | exact Keep.refl _ | assumption))))
          clear hX hk2 k1
          go_wp2_with fail
          have el : ((l.length : Int) == 0) = false := by simpa using hl
          simp only [el]
          go_loopg [7, 8, 29] l.length (fun k s7 s8 s29 wr => ∃ i : Nat, i + k = l.length ∧ s29 = .int .i64 i ∧ s7 = .int .i64 (fuB lo hi' l i) ∧ s8 = .int .i64 (fuM lo hi' l i) ∧ Bx wr w.heap.size #[.int .i16 s, .int .i16 z, .int .i16 p] 29 ∧ Keep w wr)
          case atStart => exact ⟨0, by omega, rfl, rfl, rfl, HX.out, (by ((repeat (first | (with_reducible assumption) | ((with_reducible refine Keep.setCell ?_ ?_ _); rotate_left; focus (first | omega | (simp; done) | (simp; omega))) | (with_reducible refine Keep.alloc ?_ _) | (with_reducible refine Keep.drewN ?_ _) | (with_reducible refine Keep.drew ?_) | (with_reducible exact Keep.refl _) | refine Keep.trans ?_ (by with_reducible assumption) | exact Keep.refl _ | assumption))))⟩
          case round =>
            obtain ⟨i, hi, rfl, rfl, rfl, hX, hk0⟩ := hrel
            by_cases hlt : i < l.length
            · obtain ⟨bb, o', rfl, hcc⟩ := (hR.keep hk0).at (k := i) (by rw [msks_len]; omega)
              have p1 := hcc _ _ (msks_at l i hlt).1
              have p2 := hcc _ _ (msks_at l i hlt).2
              rw [← Nat.add_assoc] at p2
              have HY := Aside.mk (fun h => fuM_yes (lo := lo) (hi := hi') hlt h)
              have HN := Aside.mk (fun h => fuM_no (lo := lo) (hi := hi') hlt h)
              have hcnt := fun W => impl_CountHoles (l[i].1 &&& lo) (l[i].2 &&& hi') W
              rw [show (((pc (l[i].1 &&& lo) + pc (l[i].2 &&& hi') : Nat)) : Int) = cnM lo hi' l[i] from rfl] at hcnt
              generalize cnM lo hi' l[i] = n at *
              generalize l[i].1 = a at *
              generalize l[i].2 = b at *
              obtain ⟨m, hmm⟩ : ∃ m, fuM lo hi' l i = m := ⟨_, rfl⟩
              obtain ⟨bst, hbb⟩ : ∃ m, fuB lo hi' l i = m := ⟨_, rfl⟩
              rw [hmm] at HY HN ⊢
              rw [hbb] at HN ⊢
              clear hcc hmm hbb
              go_wp2_with fail
              refine wp_gen (fun W => Bx W w.heap.size #[.int .i16 s, .int .i16 z, .int .i16 p] 29 ∧ Bx W wr.heap.size #[.int .u64 (U a), .int .u64 (U b)] 45 ∧ Keep w W) ⟨hX.alloc _, Bx.new _ _ _, (by ((repeat (first | (with_reducible assumption) | ((with_reducible refine Keep.setCell ?_ ?_ _); rotate_left; focus (first | omega | (simp; done) | (simp; omega))) | (with_reducible refine Keep.alloc ?_ _) | (with_reducible refine Keep.drewN ?_ _) | (with_reducible refine Keep.drew ?_) | (with_reducible exact Keep.refl _) | refine Keep.trans ?_ (by with_reducible assumption) | exact Keep.refl _ | assumption))))⟩ ?_
              rintro W ⟨hX1, hN, hW⟩
              clear hX p1 p2 hk0
              apply wp_region_mono 6 [Fx _, Fx _, Fx _, Fx _, Fx _, Fx _] (by kernel_rfl) (by kernel_rfl) (mono_of ⟨Fx.mono _, Fx.mono _, Fx.mono _, Fx.mono _, Fx.mono _, Fx.mono _, trivial⟩) ?st2 ?tl2
              case st2 =>
                simp only [List.take_succ_cons, List.take_zero, List.drop_succ_cons, List.drop_zero, putAll, Act.put, List.setIfInBounds_toArray, List.set_cons_succ, List.set_cons_zero, Nat.zero_add, Nat.reduceAdd]
                refine steps_cons ?_ (steps_cons ?_ (steps_cons ?_ (steps_cons ?_ (steps_cons ?_ (steps_cons ?_ steps_nil)))))
                all_goals
                  intro v w2 hk hd
                  obtain ⟨hN_0, hN_1, hN_2, hN_3, hN_4⟩ := (hN.keep hk).two
                  obtain ⟨hX1_0, hX1_1, hX1_2, hX1_3, hX1_4, hX1_5, hX1_6⟩ := (hX1.keep hk).three
                  have hkz := hk.size
                  simp [DepsOf, factAt, Fx, Region.binds] at hd
                  simp only [factAt, List.getD_cons_zero, List.getD_cons_succ]
                  refine Gives.mk ?_
                  go_simp
                  first | exact ⟨Keep.refl _, Fx.self _ _⟩ | exact ⟨(Keep.refl _).alloc _, _, rfl, Bx.new _ _ _, by first | omega | (simp; omega)⟩ | (go_at_call 43; exact gives_fx (hp _)) | (go_at_call 19; exact gives_fx (impl_MeetMasks _ _ _ _ _)) | (go_at_call 23; exact gives_fx (hcnt _))
              simp only [List.take_succ_cons, List.take_zero, List.drop_succ_cons, List.drop_zero, putAll, Act.put, List.setIfInBounds_toArray, List.set_cons_succ, List.set_cons_zero, Nat.zero_add, Nat.reduceAdd]
              intro v w2 hk hh
              obtain ⟨hN_0, hN_1, hN_2, hN_3, hN_4⟩ := (hN.keep hk).two
              obtain ⟨hX1_0, hX1_1, hX1_2, hX1_3, hX1_4, hX1_5, hX1_6⟩ := (hX1.keep hk).three
              have hkz := hk.size
              simp only [Held, factAt, List.getD_cons_zero, List.getD_cons_succ, Fx, true_and] at hh
              obtain ⟨⟨⟨⟨⟨v_0, v_1⟩, v_2⟩, v_3⟩, v_4⟩, v_5⟩ := hh
              simp only [v_0, v_1, v_2, v_3, v_4, v_5]
              have hX2 := hX1.keep hk
              have k3 := Keep.trans hW hk
              clear hk hW hX1 hN
              by_cases hgt : m < n
              · obtain ⟨y1, y2⟩ := HY.out (by omega)
                have HY1 := Aside.mk y1
                have HY2 := Aside.mk y2
                clear y1 y2 HN
                go_wp2
                go_roundg (l.length - (i + 1))
                case measure => omega
                case rel => exact ⟨i + 1, by omega, by go_num, by rw [HY2.out], by rw [HY1.out], hX2, (by ((repeat (first | (with_reducible assumption) | ((with_reducible refine Keep.setCell ?_ ?_ _); rotate_left; focus (first | omega | (simp; done) | (simp; omega))) | (with_reducible refine Keep.alloc ?_ _) | (with_reducible refine Keep.drewN ?_ _) | (with_reducible refine Keep.drew ?_) | (with_reducible exact Keep.refl _) | refine Keep.trans ?_ (by with_reducible assumption) | exact Keep.refl _ | assumption))))⟩
              · obtain ⟨y1, y2⟩ := HN.out (by omega)
                have HY1 := Aside.mk y1
                have HY2 := Aside.mk y2
                clear y1 y2 HY
                go_wp2
                go_roundg (l.length - (i + 1))
                case measure => omega
                case rel => exact ⟨i + 1, by omega, by go_num, by rw [HY2.out], by rw [HY1.out], hX2, (by ((repeat (first | (with_reducible assumption) | ((with_reducible refine Keep.setCell ?_ ?_ _); rotate_left; focus (first | omega | (simp; done) | (simp; omega))) | (with_reducible refine Keep.alloc ?_ _) | (with_reducible refine Keep.drewN ?_ _) | (with_reducible refine Keep.drew ?_) | (with_reducible exact Keep.refl _) | refine Keep.trans ?_ (by with_reducible assumption) | exact Keep.refl _ | assumption))))⟩
            · have e2 : i = l.length := by omega
              subst e2
              go_wp2
              (apply bodyPost_ret; rotate_left; rfl; exact ⟨rfl, (by ((repeat (first | (with_reducible assumption) | ((with_reducible refine Keep.setCell ?_ ?_ _); rotate_left; focus (first | omega | (simp; done) | (simp; omega))) | (with_reducible refine Keep.alloc ?_ _) | (with_reducible refine Keep.drewN ?_ _) | (with_reducible refine Keep.drew ?_) | (with_reducible exact Keep.refl _) | refine Keep.trans ?_ (by with_reducible assumption) | exact Keep.refl _ | assumption))))⟩; simp [results, Try.results10, go_sem, U_zero, *])
      · have h0 : mkE s z p l = 2 := by simp [mkE, h1, h2, h3]
        obtain ⟨e1, e2, e3⟩ := fl_no (show mkE s z p l ≠ 0 by rw [h0]; decide)
        rw [e1, e2, e3, h0]
        clear e1 e2 e3 h0
        go_enter Try.func10, Try.ntmps10
        (go_wp2_with fail); (go_at_call 39); (refine (impl_isMix s z p _ hw.2.1 hw.2.2 hw.1).mono ?_); rintro e w1 ⟨rfl, hk1⟩
        rw [h1]
        have k1 : Keep w w1 := (by ((repeat (first | (with_reducible assumption) | ((with_reducible refine Keep.setCell ?_ ?_ _); rotate_left; focus (first | omega | (simp; done) | (simp; omega))) | (with_reducible refine Keep.alloc ?_ _) | (with_reducible refine Keep.drewN ?_ _) | (with_reducible refine Keep.drew ?_) | (with_reducible exact Keep.refl _) | refine Keep.trans ?_ (by with_reducible assumption) | exact Keep.refl _ | assumption))))
        (go_wp2_with fail); (go_at_call 40); (refine (hc _ (hR.keep k1)).mono ?_); rintro e w2 ⟨rfl, hk2⟩
        go_wp2
        (apply bodyPost_ret; rotate_left; rfl; exact ⟨rfl, (by ((repeat (first | (with_reducible assumption) | ((with_reducible refine Keep.setCell ?_ ?_ _); rotate_left; focus (first | omega | (simp; done) | (simp; omega))) | (with_reducible refine Keep.alloc ?_ _) | (with_reducible refine Keep.drewN ?_ _) | (with_reducible refine Keep.drew ?_) | (with_reducible exact Keep.refl _) | refine Keep.trans ?_ (by with_reducible assumption) | exact Keep.refl _ | assumption))))⟩; simp [results, Try.results10, go_sem, U_zero, *])
    · rw [h2] at hc
      have h0 : mkE s z p l = 1 := by simp [mkE, h1, h2]
      obtain ⟨e1, e2, e3⟩ := fl_no (show mkE s z p l ≠ 0 by rw [h0]; decide)
      rw [e1, e2, e3, h0]
      clear e1 e2 e3 h0
      go_enter Try.func10, Try.ntmps10
      (go_wp2_with fail); (go_at_call 39); (refine (impl_isMix s z p _ hw.2.1 hw.2.2 hw.1).mono ?_); rintro e w1 ⟨rfl, hk1⟩
      rw [h1]
      have k1 : Keep w w1 := (by ((repeat (first | (with_reducible assumption) | ((with_reducible refine Keep.setCell ?_ ?_ _); rotate_left; focus (first | omega | (simp; done) | (simp; omega))) | (with_reducible refine Keep.alloc ?_ _) | (with_reducible refine Keep.drewN ?_ _) | (with_reducible refine Keep.drew ?_) | (with_reducible exact Keep.refl _) | refine Keep.trans ?_ (by with_reducible assumption) | exact Keep.refl _ | assumption))))
      (go_wp2_with fail); (go_at_call 40); (refine (hc _ (hR.keep k1)).mono ?_); rintro e w2 ⟨rfl, hk2⟩
      go_wp2
      (apply bodyPost_ret; rotate_left; rfl; exact ⟨rfl, (by ((repeat (first | (with_reducible assumption) | ((with_reducible refine Keep.setCell ?_ ?_ _); rotate_left; focus (first | omega | (simp; done) | (simp; omega))) | (with_reducible refine Keep.alloc ?_ _) | (with_reducible refine Keep.drewN ?_ _) | (with_reducible refine Keep.drew ?_) | (with_reducible exact Keep.refl _) | refine Keep.trans ?_ (by with_reducible assumption) | exact Keep.refl _ | assumption))))⟩; simp [results, Try.results10, go_sem, U_zero, *])
end Go.Proofs.Ytihebflgceljfaa

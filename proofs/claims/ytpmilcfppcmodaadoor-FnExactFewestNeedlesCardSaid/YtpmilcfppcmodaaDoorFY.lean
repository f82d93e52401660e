/- The law of the fewest needles. -/
import Derived.Test.YtpmilcfppcmodaaDoorFW8
import Derived.Test.YtpmilcfppcmodaaDoorFW9
import Derived.Test.YtpmilcfppcmodaaDoorDS
import Derived.Test.YtpmilcfppcmodaaDoorDT
import Derived.Test.YtpmilcfppcmodaaDoorW3
import Derived.Test.YtpmilcfppcmodaaDoorOW
set_option linter.unusedVariables false
set_option linter.unusedSimpArgs false
namespace Go.Proofs.YtpmilcfppcmodaaDoor
open Go.RowKit Go.Shelf
set_option maxHeartbeats 2000000
set_option maxRecDepth 20000
theorem cd_at {l : List Cd} {n : Nat} (h : n < l.length) : cdLo l (n : Int) = l[n].a ∧ cdHi l (n : Int) = l[n].b := by
  unfold cdLo cdHi; rw [Int.toNat_natCast, List.getElem?_eq_getElem h]; exact ⟨rfl, rfl⟩
theorem spec_FewestNeedles (A B : Option Addr) (l : List Cd) (wd : List Int) (c d : Nat) (w : World) (hm : l.length ≤ 1048576) (hw : wd.length ≤ 1048576) (hz : CSz l) (hR : Rd w A (cds l)) (hS : Rd w B (ints wd)) :
    Calls Tryd.prog 21 #[.slice A l.length c, .slice B wd.length d] w fun e w' => e = .returned (.tuple #[.agg #[.int .u64 (U (fwA l wd)), .int .u64 (U (fwB l wd))], .int .i64 (fwE l wd)]) ∧ Keep w w' := by
  have hd := Aside.mk (fun W h => spec_l02Ok A l c W (by omega) hz h)
  cases h1 : dkB l
  · have e1 : fwA l wd = 0#64 := by simp only [fwA, h1, cond_false]
    have e2 : fwB l wd = 0#64 := by simp only [fwB, h1, cond_false]
    have e3 : fwE l wd = 1 := by simp only [fwE, h1, cond_false]
    rw [e1, e2, e3]
    rw [h1] at hd
    go_enter Tryd.func21, Tryd.ntmps21
    (go_wp2_with fail); (go_at_call 67); (refine (hd.out _ (hR.keep ((Keep.refl _).alloc _))).mono ?_); rintro e w1 ⟨rfl, hk1⟩
    have hZ : Bx w1 w.heap.size #[.int .u64 0, .int .u64 0] 33 := (Bx.new _ _ _).keep hk1
    have hZs := hZ.two
    go_wp2
    (apply bodyPost_ret; rotate_left; rfl; exact ⟨rfl, (by ((repeat (first | (with_reducible assumption) | ((with_reducible refine Keep.setCell ?_ ?_ _); rotate_left; focus (first | omega | (simp; done) | (simp; omega))) | (with_reducible refine Keep.alloc ?_ _) | (with_reducible refine Keep.drewN ?_ _) | (with_reducible refine Keep.drew ?_) | (with_reducible exact Keep.refl _) | refine Keep.trans ?_ (by with_reducible assumption) | exact Keep.refl _ | assumption))))⟩; simp [results, Tryd.results21, go_sem, U_zero, *])
  · rw [h1] at hd
    have hwn := Aside.mk (fun W h => spec_l02Wanted B wd d l.length W (by omega) hm h)
    cases h2 : wnB wd l.length
    · have e1 : fwA l wd = 0#64 := by simp only [fwA, h1, h2, cond_false, cond_true]
      have e2 : fwB l wd = 0#64 := by simp only [fwB, h1, h2, cond_false, cond_true]
      have e3 : fwE l wd = 2 := by simp only [fwE, h1, h2, cond_false, cond_true]
      rw [e1, e2, e3]
      rw [h2] at hwn
      go_enter Tryd.func21, Tryd.ntmps21
      (go_wp2_with fail); (go_at_call 67); (refine (hd.out _ (hR.keep ((Keep.refl _).alloc _))).mono ?_); rintro e w1 ⟨rfl, hk1⟩
      have hZ : Bx w1 w.heap.size #[.int .u64 0, .int .u64 0] 33 := (Bx.new _ _ _).keep hk1
      have hW : Keep w w1 := (by ((repeat (first | (with_reducible assumption) | ((with_reducible refine Keep.setCell ?_ ?_ _); rotate_left; focus (first | omega | (simp; done) | (simp; omega))) | (with_reducible refine Keep.alloc ?_ _) | (with_reducible refine Keep.drewN ?_ _) | (with_reducible refine Keep.drew ?_) | (with_reducible exact Keep.refl _) | refine Keep.trans ?_ (by with_reducible assumption) | exact Keep.refl _ | assumption))))
      clear hk1 hd
      (go_wp2_with fail); (go_at_call 75); (refine (hwn.out _ (hS.keep hW)).mono ?_); rintro e wY ⟨rfl, hk2⟩
      replace hZ := hZ.keep hk2
      have hZs := hZ.two
      replace hW := hW.trans hk2
      clear hk2
      go_wp2
      (apply bodyPost_ret; rotate_left; rfl; exact ⟨rfl, (by ((repeat (first | (with_reducible assumption) | ((with_reducible refine Keep.setCell ?_ ?_ _); rotate_left; focus (first | omega | (simp; done) | (simp; omega))) | (with_reducible refine Keep.alloc ?_ _) | (with_reducible refine Keep.drewN ?_ _) | (with_reducible refine Keep.drew ?_) | (with_reducible exact Keep.refl _) | refine Keep.trans ?_ (by with_reducible assumption) | exact Keep.refl _ | assumption))))⟩; simp [results, Tryd.results21, go_sem, U_zero, *])
    · rw [h2] at hwn
      have hin := Aside.mk (wn_in h2)
      have HF := Aside.mk (show fwA l wd = fnA (fwR l wd) ∧ fwB l wd = fnB (fwR l wd) ∧ fwE l wd = fnE (fwR l wd) by simp only [fwA, fwB, fwE, h1, h2, cond_true]; exact ⟨trivial, trivial, trivial⟩)
      have hml := Aside.mk (fun (k : Nat) (W : World) h1 h2 h3 => spec_l02More A B l wd c d (mtLo l wd) (mtHi l wd) hm (by omega) k 0 0#64 0#64 W h1 (by omega) h2 h3)
      have hno := Aside.mk (fun W h => spec_l02Nothing A l c W hm h)
      have HMT := Aside.mk (fwR_mt l wd)
      have HNL : Aside (wd = [] → fwR l wd = fnR (freeB l) yes) := Aside.mk (fun e => by rw [e]; exact fwR_nil l)
      have HL0 := Aside.mk (show mtLo l (wd.take 0) = allLo ∧ mtHi l (wd.take 0) = allHi from ⟨rfl, rfl⟩)
      have U0 : U allLo = 18446744073709551615 := by decide
      have U1 : U allHi = 4294967295 := by decide
      go_enter Tryd.func21, Tryd.ntmps21
      (go_wp2_with fail); (go_at_call 67); (refine (hd.out _ (hR.keep ((Keep.refl _).alloc _))).mono ?_); rintro e w1 ⟨rfl, hk1⟩
      have hZ : Bx w1 w.heap.size #[.int .u64 0, .int .u64 0] 33 := (Bx.new _ _ _).keep hk1
      have hW : Keep w w1 := (by ((repeat (first | (with_reducible assumption) | ((with_reducible refine Keep.setCell ?_ ?_ _); rotate_left; focus (first | omega | (simp; done) | (simp; omega))) | (with_reducible refine Keep.alloc ?_ _) | (with_reducible refine Keep.drewN ?_ _) | (with_reducible refine Keep.drew ?_) | (with_reducible exact Keep.refl _) | refine Keep.trans ?_ (by with_reducible assumption) | exact Keep.refl _ | assumption))))
      clear hk1 hd
      (go_wp2_with fail); (go_at_call 75); (refine (hwn.out _ (hS.keep hW)).mono ?_); rintro e wY ⟨rfl, hk2⟩
      replace hZ := hZ.keep hk2
      replace hW := hW.trans hk2
      have zW := hW.size
      have zZ := hZ.lt
      clear hk2 hwn
      go_wp2_with fail
      go_loopg [7] wd.length (fun n s7 wr => ∃ i : Nat, i + n = wd.length ∧ s7 = .int .i64 i ∧ Bx wr w.heap.size #[.int .u64 0, .int .u64 0] 33 ∧ Bx wr wY.heap.size #[.int .u64 (U (mtLo l (wd.take i))), .int .u64 (U (mtHi l (wd.take i)))] 33 ∧ Keep w wr)
      case atStart =>
        have hY : Bx _ wY.heap.size #[.int .u64 18446744073709551615, .int .u64 4294967295] 33 := Bx.new wY #[.int .u64 18446744073709551615, .int .u64 4294967295] 33
        refine ⟨0, by omega, rfl, ?_, ?_, ?_⟩
        · first | exact hZ.alloc _ | exact hZ.keep (by ((repeat (first | (with_reducible assumption) | ((with_reducible refine Keep.setCell ?_ ?_ _); rotate_left; focus (first | omega | (simp; done) | (simp; omega))) | (with_reducible refine Keep.alloc ?_ _) | (with_reducible refine Keep.drewN ?_ _) | (with_reducible refine Keep.drew ?_) | (with_reducible exact Keep.refl _) | refine Keep.trans ?_ (by with_reducible assumption) | exact Keep.refl _ | assumption))))
        · rw [HL0.out.1, HL0.out.2, U0, U1]; first | exact hY | exact Bx.new _ _ _
        · exact (by ((repeat (first | (with_reducible assumption) | ((with_reducible refine Keep.setCell ?_ ?_ _); rotate_left; focus (first | omega | (simp; done) | (simp; omega))) | (with_reducible refine Keep.alloc ?_ _) | (with_reducible refine Keep.drewN ?_ _) | (with_reducible refine Keep.drew ?_) | (with_reducible exact Keep.refl _) | refine Keep.trans ?_ (by with_reducible assumption) | exact Keep.refl _ | assumption))))
      case round =>
        obtain ⟨i, hi, rfl, hZ, hY, hk0⟩ := hrel
        by_cases hlt : i < wd.length
        · obtain ⟨bb, o, rfl, hc⟩ := (hS.keep hk0).at (k := i) (by rw [ints_len]; omega)
          have p1 := hc _ _ (ints_at wd i hlt)
          obtain ⟨x0, x1⟩ := hin.out wd[i] (List.getElem_mem hlt)
          have HM := Aside.mk (show mtLo l (wd.take (i + 1)) = mtLo l (wd.take i) &&& cdLo l wd[i] ∧ mtHi l (wd.take (i + 1)) = mtHi l (wd.take i) &&& cdHi l wd[i] from ⟨mtLo_succ hlt, mtHi_succ hlt⟩)
          clear hc
          generalize wd[i] = x at *
          obtain ⟨n, rfl⟩ : ∃ n : Nat, x = n := ⟨x.toNat, by omega⟩
          have hnl : n < l.length := by omega
          obtain ⟨b2, o2, rfl, hc2⟩ := (hR.keep hk0).at (k := n) (by rw [cds_len]; omega)
          obtain ⟨r1, r2, r3⟩ := cds_at l n hnl
          have q2 := hc2 _ _ r2
          have q3 := hc2 _ _ r3
          rw [← Nat.add_assoc] at q2 q3
          obtain ⟨ca, cb⟩ := cd_at hnl
          rw [ca, cb] at HM
          clear hc2 r1 r2 r3 ca cb HL0 U0 U1 HNL HMT hno hml HF hin
          generalize mtLo l (wd.take i) = ya at *
          generalize mtHi l (wd.take i) = yb at *
          generalize l[n] = z at *
          obtain ⟨zs, za, zb⟩ := z
          simp only at q2 q3 HM
          have hYs := hY.two
          have zY := hY.lt
          go_wp2_with fail
          apply wp_region_mono 10 [Fx _, Fx _, Fx _, Fx _, Fx _, Fx _, Fx _, Fx _, Fx _, Fx _] (by kernel_rfl) (by kernel_rfl) (mono_of ⟨Fx.mono _, Fx.mono _, Fx.mono _, Fx.mono _, Fx.mono _, Fx.mono _, Fx.mono _, Fx.mono _, Fx.mono _, Fx.mono _, trivial⟩) ?st5 ?tl5
          case st5 =>
            simp only [List.take_succ_cons, List.take_zero, List.drop_succ_cons, List.drop_zero, putAll, Act.put, List.setIfInBounds_toArray, List.set_cons_succ, List.set_cons_zero, Nat.zero_add, Nat.reduceAdd]
            refine steps_cons ?_ (steps_cons ?_ (steps_cons ?_ (steps_cons ?_ (steps_cons ?_ (steps_cons ?_ (steps_cons ?_ (steps_cons ?_ (steps_cons ?_ (steps_cons ?_ steps_nil)))))))))
            all_goals
              intro v w2 hk hd
              obtain ⟨hY_0, hY_1, hY_2, hY_3, hY_4⟩ := (hY.keep hk).two
              have p1' := hk.cell p1
              have q2' := hk.cell q2
              have q3' := hk.cell q3
              have hkz := hk.size
              simp [DepsOf, factAt, Fx, Region.binds] at hd
              simp only [factAt, List.getD_cons_zero, List.getD_cons_succ]
              refine Gives.mk ?_
              go_simp
              first | exact ⟨Keep.refl _, Fx.self _ _⟩ | exact ⟨(Keep.refl _).alloc _, _, rfl, Bx.new _ _ _, by first | omega | (simp; omega)⟩ | (go_at_call 76; exact gives_fx (spec_l01Meet _ _ _ _ _))
          simp only [List.take_succ_cons, List.take_zero, List.drop_succ_cons, List.drop_zero, putAll, Act.put, List.setIfInBounds_toArray, List.set_cons_succ, List.set_cons_zero, Nat.zero_add, Nat.reduceAdd]
          intro v w2 hk hh
          obtain ⟨hY_0, hY_1, hY_2, hY_3, hY_4⟩ := (hY.keep hk).two
          have p1' := hk.cell p1
          have q2' := hk.cell q2
          have q3' := hk.cell q3
          have hkz := hk.size
          simp only [Held, factAt, List.getD_cons_zero, List.getD_cons_succ, Fx, true_and] at hh
          obtain ⟨⟨⟨⟨⟨⟨⟨⟨⟨v_0, v_1⟩, v_2⟩, v_3⟩, v_4⟩, v_5⟩, v_6⟩, v_7⟩, v_8⟩, v_9⟩ := hh
          simp only [v_0, v_1, v_2, v_3, v_4, v_5, v_6, v_7, v_8, v_9]
          replace hZ := hZ.keep hk
          replace hY := hY.keep hk
          replace hk0 := hk0.trans hk
          have hZ2 := hZ.lt
          go_wp2
          go_roundg (wd.length - (i + 1))
          case measure => omega
          case rel =>
            refine ⟨i + 1, by omega, by go_num, ?_, ?_, ?_⟩
            · exact ((hZ.set' (by simp; omega) _).set' (by simp; omega) _)
            · rw [HM.out.1, HM.out.2]; simpa using (hY.set (i := 0) (.int .u64 (U (ya &&& za)))).set (i := 1) (.int .u64 (U (yb &&& zb)))
            · exact (by ((repeat (first | (with_reducible assumption) | ((with_reducible refine Keep.setCell ?_ ?_ _); rotate_left; focus (first | omega | (simp; done) | (simp; omega))) | (with_reducible refine Keep.alloc ?_ _) | (with_reducible refine Keep.drewN ?_ _) | (with_reducible refine Keep.drew ?_) | (with_reducible exact Keep.refl _) | refine Keep.trans ?_ (by with_reducible assumption) | exact Keep.refl _ | assumption))))
        · obtain rfl : i = wd.length := by omega
          rw [List.take_length] at hY
          have hYs := hY.two
          have hZs := hZ.two
          by_cases h0 : wd.length = 0
          · have HE := Aside.mk (show fwR l wd = fnR (freeB l) yes from HNL.out (List.eq_nil_of_length_eq_zero h0))
            have HG := Aside.mk (show fwA l wd = fnA (fnR (freeB l) yes) ∧ fwB l wd = fnB (fnR (freeB l) yes) ∧ fwE l wd = fnE (fnR (freeB l) yes) by
              rw [← HE.out]; exact HF.out)
            clear HE HF HNL HMT hml HL0 hin
            have hb : ((wd.length : Int) == 0) = true := by simpa using h0
            generalize fnR (freeB l) yes = R at *
            clear h0
            (go_wp2_with fail)
            try simp only [hb]
            (go_wp2_with fail); (go_at_call 77); (refine (hno.out _ (hR.keep hk0)).mono ?_); rintro e w3 ⟨rfl, hk3⟩
            replace hZ := hZ.keep hk3
            have hZs := hZ.two
            go_wp2
            (apply bodyPost_ret; rotate_left; rfl; exact ⟨rfl, (by ((repeat (first | (with_reducible assumption) | ((with_reducible refine Keep.setCell ?_ ?_ _); rotate_left; focus (first | omega | (simp; done) | (simp; omega))) | (with_reducible refine Keep.alloc ?_ _) | (with_reducible refine Keep.drewN ?_ _) | (with_reducible refine Keep.drew ?_) | (with_reducible exact Keep.refl _) | refine Keep.trans ?_ (by with_reducible assumption) | exact Keep.refl _ | assumption))))⟩; simp [results, Tryd.results21, go_sem, U_zero, *])
            exact ⟨⟨by rw [HG.out.1], by rw [HG.out.2.1]⟩, by rw [HG.out.2.2]⟩
          · have hb : ((wd.length : Int) == 0) = false := by simpa using h0
            clear HNL hno HL0 hin
            obtain ⟨may, hmay⟩ : ∃ may : Nat → Bool, (fun h : Nat => hasB (mtLo l wd) (mtHi l wd) (h : Int)) = may := ⟨_, rfl⟩
            simp only [hmay] at hml
            rw [hmay] at HMT
            simp only [U_zero] at hml
            clear hmay
            (go_wp2_with fail)
            try simp only [hb]
            go_loopg [8] 4 (fun n s8 wr => ∃ k : Nat, k + n = 4 ∧ s8 = .int .i64 k ∧ (∀ j, j < k → srch (fitB l wd) may j 0 0#64 0#64 = none) ∧ Bx wr w.heap.size #[.int .u64 0, .int .u64 0] 33 ∧ Bx wr wY.heap.size #[.int .u64 (U (mtLo l wd)), .int .u64 (U (mtHi l wd))] 33 ∧ Keep w wr)
            case atStart => exact ⟨0, by omega, rfl, (fun j hj => by omega), hZ, hY, (by ((repeat (first | (with_reducible assumption) | ((with_reducible refine Keep.setCell ?_ ?_ _); rotate_left; focus (first | omega | (simp; done) | (simp; omega))) | (with_reducible refine Keep.alloc ?_ _) | (with_reducible refine Keep.drewN ?_ _) | (with_reducible refine Keep.drew ?_) | (with_reducible exact Keep.refl _) | refine Keep.trans ?_ (by with_reducible assumption) | exact Keep.refl _ | assumption))))⟩
            case round =>
              obtain ⟨k, hk, rfl, hno, hZ, hY, hk0⟩ := hrel
              have HNO := Aside.mk hno
              have hYs := hY.two
              have hZs := hZ.two
              clear hno
              by_cases hk4 : k ≤ 3
              · have hr := fun W h3 h4 => hml.out k W hk4 h3 h4
                obtain ⟨r, hr2⟩ : ∃ r, srch (fitB l wd) may k 0 0#64 0#64 = r := ⟨_, rfl⟩
                have hs2 := fun z (e : r = some z) => srV_some (hr2.trans e)
                have HS2 := Aside.mk hs2
                clear hs2
                rw [hr2] at hr
                generalize srV (fitB l wd) may k 0 0#64 0#64 = V at *
                have HR2 := Aside.mk hr2
                clear hr2
                (go_wp2_with fail); (go_at_call 78); (refine (hr _ (hR.keep (by ((repeat (first | (with_reducible assumption) | ((with_reducible refine Keep.setCell ?_ ?_ _); rotate_left; focus (first | omega | (simp; done) | (simp; omega))) | (with_reducible refine Keep.alloc ?_ _) | (with_reducible refine Keep.drewN ?_ _) | (with_reducible refine Keep.drew ?_) | (with_reducible exact Keep.refl _) | refine Keep.trans ?_ (by with_reducible assumption) | exact Keep.refl _ | assumption))))) (hS.keep (by ((repeat (first | (with_reducible assumption) | ((with_reducible refine Keep.setCell ?_ ?_ _); rotate_left; focus (first | omega | (simp; done) | (simp; omega))) | (with_reducible refine Keep.alloc ?_ _) | (with_reducible refine Keep.drewN ?_ _) | (with_reducible refine Keep.drew ?_) | (with_reducible exact Keep.refl _) | refine Keep.trans ?_ (by with_reducible assumption) | exact Keep.refl _ | assumption)))))).mono ?_); rintro e w3 ⟨rfl, hkn⟩
                have k3 := hk0.trans hkn
                replace hZ := hZ.keep hkn
                replace hY := hY.keep hkn
                have hYs := hY.two
                have hZs := hZ.two
                have zz := hZ.lt
                have zy := hY.lt
                clear hkn hr hk0
                cases r with
                | none =>
                  have HN2 : Aside (∀ j, j < k + 1 → srch (fitB l wd) may j 0 0#64 0#64 = none) := Aside.mk (fun j hj => by
                    by_cases e : j = k
                    · rw [e]; exact HR2.out
                    · exact HNO.out j (by omega))
                  clear HNO HR2 HS2
                  go_wp2
                  go_roundg (4 - (k + 1))
                  case measure => omega
                  case rel =>
                    refine ⟨k + 1, by omega, by go_num, HN2.out, ?_, ?_, ?_⟩
                    · first | exact hZ.alloc _ | exact (hZ.alloc _).alloc _
                    · first | exact hY.alloc _ | exact (hY.alloc _).alloc _
                    · exact (by ((repeat (first | (with_reducible assumption) | ((with_reducible refine Keep.setCell ?_ ?_ _); rotate_left; focus (first | omega | (simp; done) | (simp; omega))) | (with_reducible refine Keep.alloc ?_ _) | (with_reducible refine Keep.drewN ?_ _) | (with_reducible refine Keep.drew ?_) | (with_reducible exact Keep.refl _) | refine Keep.trans ?_ (by with_reducible assumption) | exact Keep.refl _ | assumption))))
                | some z =>
                  have HZ := Aside.mk (show fwA l wd = V.1 ∧ fwB l wd = V.2 ∧ fwE l wd = 0 by
                    have e : fwR l wd = some z := by rw [HMT.out]; exact fnR_some (by omega) HNO.out HR2.out
                    have e2 := HS2.out z rfl
                    rw [HF.out.1, HF.out.2.1, HF.out.2.2, e, e2]; exact ⟨rfl, rfl, rfl⟩)
                  clear HNO HR2 HS2 HF HMT
                  go_wp2
                  (apply bodyPost_ret; rotate_left; rfl; exact ⟨rfl, (by ((repeat (first | (with_reducible assumption) | ((with_reducible refine Keep.setCell ?_ ?_ _); rotate_left; focus (first | omega | (simp; done) | (simp; omega))) | (with_reducible refine Keep.alloc ?_ _) | (with_reducible refine Keep.drewN ?_ _) | (with_reducible refine Keep.drew ?_) | (with_reducible exact Keep.refl _) | refine Keep.trans ?_ (by with_reducible assumption) | exact Keep.refl _ | assumption))))⟩; simp [results, Tryd.results21, go_sem, U_zero, *])
                  exact ⟨⟨by rw [HZ.out.1], by rw [HZ.out.2.1]⟩, by rw [HZ.out.2.2]⟩
              · have HZ := Aside.mk (show fwA l wd = 0#64 ∧ fwB l wd = 0#64 ∧ fwE l wd = 6 by
                  have e : fwR l wd = none := by rw [HMT.out]; exact fnR_none (fun j hj => HNO.out j (by omega))
                  rw [HF.out.1, HF.out.2.1, HF.out.2.2, e]; exact ⟨rfl, rfl, rfl⟩)
                clear HNO HF HMT hml
                go_wp2
                (apply bodyPost_ret; rotate_left; rfl; exact ⟨rfl, (by ((repeat (first | (with_reducible assumption) | ((with_reducible refine Keep.setCell ?_ ?_ _); rotate_left; focus (first | omega | (simp; done) | (simp; omega))) | (with_reducible refine Keep.alloc ?_ _) | (with_reducible refine Keep.drewN ?_ _) | (with_reducible refine Keep.drew ?_) | (with_reducible exact Keep.refl _) | refine Keep.trans ?_ (by with_reducible assumption) | exact Keep.refl _ | assumption))))⟩; simp [results, Tryd.results21, go_sem, U_zero, *])
                exact ⟨⟨by rw [HZ.out.1]; rfl, by rw [HZ.out.2.1]; rfl⟩, by rw [HZ.out.2.2]⟩
end Go.Proofs.YtpmilcfppcmodaaDoor
namespace Go.Proofs.YtpmilcfppcmodaaDoor
open Go.RowKit
set_option maxHeartbeats 2000000
set_option maxRecDepth 20000
theorem laws_FnExactFewestNeedles (A : Option Addr) (l : List Cd) (c : Nat) (B : Option Addr) (hs : List Int) (d : Nat) (w : World) (hl : l.length ≤ 9223372036854775807 ∧ CSz l ∧ Rd w A (cds l)) (hh : hs.length ≤ 9223372036854775807 ∧ Rd w B (ints hs)) :
    Calls Tryd.prog 14 #[.slice A l.length c, .slice B hs.length d] w fun e w' => e = .returned (.bool true) ∧ Keep w w' := by
  obtain ⟨hl1, hlz, hR⟩ := hl
  obtain ⟨hm2, hS⟩ := hh
  by_cases hsn : hs.length ≤ 1048576
  · by_cases hn : (1048576 : Int) < (l.length + cSum l : Nat)
    · have e1 := szD_gt hn
      go_enter Tryd.func14, Tryd.ntmps14
      (go_wp2_with fail); (go_at_call 26); (refine (laws_szCardS _ _ _ 1048576 _ (by decide) hl1 hlz hR).mono ?_); rintro e w1 ⟨rfl, hk1⟩
      rw [e1]
      go_wp2
      go_ret; exact ⟨rfl, (by ((repeat (first | (with_reducible assumption) | ((with_reducible refine Keep.setCell ?_ ?_ _); rotate_left; focus (first | omega | (simp; done) | (simp; omega))) | (with_reducible refine Keep.alloc ?_ _) | (with_reducible refine Keep.drewN ?_ _) | (with_reducible refine Keep.drew ?_) | (with_reducible exact Keep.refl _) | refine Keep.trans ?_ (by with_reducible assumption) | exact Keep.refl _ | assumption))))⟩
    · obtain ⟨left, hleft⟩ : ∃ x, szD 1048576 l = x := ⟨_, rfl⟩
      have e1 : left = 1048576 - (l.length + cSum l : Nat) := by rw [← hleft]; exact szD_le hn
      have hl0 : ¬ left < 0 := by omega
      have hln : l.length ≤ 1048576 := by omega
      have hI := Aside.mk (fun A B c d W hc hr hq => impl_FewestNeedles A B l hs c d W hln hc hsn hlz hr hq)
      have hJ := Aside.mk (fun A B c d W hr hq => spec_FewestNeedles A B l hs c d W hln hsn hlz hr hq)
      generalize fwA l hs = fa at *
      generalize fwB l hs = fb at *
      generalize fwE l hs = E at *
      clear hn e1
      go_enter Tryd.func14, Tryd.ntmps14
      (go_wp2_with fail); (go_at_call 26); (refine (laws_szCardS _ _ _ 1048576 _ (by decide) hl1 hlz hR).mono ?_); rintro e w1 ⟨rfl, hW⟩
      rw [hleft]
      clear hleft
      (go_wp2_with fail); (go_at_call 28); (refine (laws_toCardS _ _ _ _ hln (hR.keep hW)).mono ?_); rintro e w2 ⟨g2, rfl, ho2, hk⟩
      have kk : Keep w1 w2 := (by ((repeat (first | (with_reducible assumption) | ((with_reducible refine Keep.setCell ?_ ?_ _); rotate_left; focus (first | omega | (simp; done) | (simp; omega))) | (with_reducible refine Keep.alloc ?_ _) | (with_reducible refine Keep.drewN ?_ _) | (with_reducible refine Keep.drew ?_) | (with_reducible exact Keep.refl _) | refine Keep.trans ?_ (by with_reducible assumption) | exact Keep.refl _ | assumption))))
      replace hW := hW.trans kk
      clear hk kk
      have hx0 := Own.new ho2
      clear ho2
      (go_wp2_with fail); (go_at_call 51); (refine (laws_toInt64S _ _ _ _ hsn (hS.keep hW)).mono ?_); rintro e x2 ⟨j2, rfl, ho2, hk⟩
      have kk : Keep w2 x2 := (by ((repeat (first | (with_reducible assumption) | ((with_reducible refine Keep.setCell ?_ ?_ _); rotate_left; focus (first | omega | (simp; done) | (simp; omega))) | (with_reducible refine Keep.alloc ?_ _) | (with_reducible refine Keep.drewN ?_ _) | (with_reducible refine Keep.drew ?_) | (with_reducible exact Keep.refl _) | refine Keep.trans ?_ (by with_reducible assumption) | exact Keep.refl _ | assumption))))
      replace hx0 := hx0.keep kk
      replace hW := hW.trans kk
      clear hk kk
      have hy0 := Own.new ho2
      clear ho2
      (go_wp2_with fail); (go_at_call 21); (refine (hJ.out _ _ _ _ _ hx0.rd hy0.rd).mono ?_); rintro e w3 ⟨rfl, hk⟩
      have kk : Keep x2 w3 := (by ((repeat (first | (with_reducible assumption) | ((with_reducible refine Keep.setCell ?_ ?_ _); rotate_left; focus (first | omega | (simp; done) | (simp; omega))) | (with_reducible refine Keep.alloc ?_ _) | (with_reducible refine Keep.drewN ?_ _) | (with_reducible refine Keep.drew ?_) | (with_reducible exact Keep.refl _) | refine Keep.trans ?_ (by with_reducible assumption) | exact Keep.refl _ | assumption))))
      replace hW := hW.trans kk
      clear hk kk
      clear hx0 hy0
      have z3 := hW.size
      (go_wp2_with fail); (go_at_call 28); (refine (laws_toCardS _ _ _ _ hln (hR.keep (by ((repeat (first | (with_reducible assumption) | ((with_reducible refine Keep.setCell ?_ ?_ _); rotate_left; focus (first | omega | (simp; done) | (simp; omega))) | (with_reducible refine Keep.alloc ?_ _) | (with_reducible refine Keep.drewN ?_ _) | (with_reducible refine Keep.drew ?_) | (with_reducible exact Keep.refl _) | refine Keep.trans ?_ (by with_reducible assumption) | exact Keep.refl _ | assumption)))))).mono ?_); rintro e w4 ⟨g4, rfl, ho4, hk⟩
      have h6 : Bx w4 w3.heap.size #[.int .u64 (U fa), .int .u64 (U fb)] 33 := (Bx.new _ _ _).keep hk
      have kk : Keep w3 w4 := (by ((repeat (first | (with_reducible assumption) | ((with_reducible refine Keep.setCell ?_ ?_ _); rotate_left; focus (first | omega | (simp; done) | (simp; omega))) | (with_reducible refine Keep.alloc ?_ _) | (with_reducible refine Keep.drewN ?_ _) | (with_reducible refine Keep.drew ?_) | (with_reducible exact Keep.refl _) | refine Keep.trans ?_ (by with_reducible assumption) | exact Keep.refl _ | assumption))))
      replace hW := hW.trans kk
      have hx := Own.new ho4
      clear ho4 hk kk
      (go_wp2_with fail); (go_at_call 51); (refine (laws_toInt64S _ _ _ _ hsn (hS.keep hW)).mono ?_); rintro e x4 ⟨j4, rfl, ho4, hk⟩
      have kk : Keep w4 x4 := (by ((repeat (first | (with_reducible assumption) | ((with_reducible refine Keep.setCell ?_ ?_ _); rotate_left; focus (first | omega | (simp; done) | (simp; omega))) | (with_reducible refine Keep.alloc ?_ _) | (with_reducible refine Keep.drewN ?_ _) | (with_reducible refine Keep.drew ?_) | (with_reducible exact Keep.refl _) | refine Keep.trans ?_ (by with_reducible assumption) | exact Keep.refl _ | assumption))))
      replace h6 := h6.keep kk
      replace hx := hx.keep kk
      replace hW := hW.trans kk
      clear hk kk
      have hy := Own.new ho4
      clear ho4
      (go_wp2_with fail); (go_at_call 20); (refine (hI.out _ _ _ _ _ (Nat.le_refl _) hx.rd hy.rd).mono ?_); rintro e w5 ⟨rfl, hk⟩
      have kk : Keep x4 w5 := (by ((repeat (first | (with_reducible assumption) | ((with_reducible refine Keep.setCell ?_ ?_ _); rotate_left; focus (first | omega | (simp; done) | (simp; omega))) | (with_reducible refine Keep.alloc ?_ _) | (with_reducible refine Keep.drewN ?_ _) | (with_reducible refine Keep.drew ?_) | (with_reducible exact Keep.refl _) | refine Keep.trans ?_ (by with_reducible assumption) | exact Keep.refl _ | assumption))))
      replace h6 := h6.keep kk
      replace hx := hx.keep kk
      replace hy := hy.keep kk
      replace hW := hW.trans kk
      clear hk kk
      have h6s := h6.two
      have z5 := hW.size
      (go_wp2_with fail); (go_at_call 63); (refine (laws_eqMask_self _ _ _).mono ?_); rintro e w6 ⟨rfl, hk⟩
      have kk : Keep w5 w6 := (by ((repeat (first | (with_reducible assumption) | ((with_reducible refine Keep.setCell ?_ ?_ _); rotate_left; focus (first | omega | (simp; done) | (simp; omega))) | (with_reducible refine Keep.alloc ?_ _) | (with_reducible refine Keep.drewN ?_ _) | (with_reducible refine Keep.drew ?_) | (with_reducible exact Keep.refl _) | refine Keep.trans ?_ (by with_reducible assumption) | exact Keep.refl _ | assumption))))
      replace hW := hW.trans kk
      replace hx := hx.keep kk
      replace hy := hy.keep kk
      clear hk kk h6 h6s
      (go_wp2_with fail); (go_at_call 28); (refine (laws_toCardS _ _ _ _ hln (hR.keep hW)).mono ?_); rintro e w7 ⟨g7, rfl, ho7, hk⟩
      have kk : Keep w6 w7 := (by ((repeat (first | (with_reducible assumption) | ((with_reducible refine Keep.setCell ?_ ?_ _); rotate_left; focus (first | omega | (simp; done) | (simp; omega))) | (with_reducible refine Keep.alloc ?_ _) | (with_reducible refine Keep.drewN ?_ _) | (with_reducible refine Keep.drew ?_) | (with_reducible exact Keep.refl _) | refine Keep.trans ?_ (by with_reducible assumption) | exact Keep.refl _ | assumption))))
      replace hx := hx.keep kk
      replace hy := hy.keep kk
      replace hW := hW.trans kk
      clear hk kk
      (go_wp2_with fail); (go_at_call 30); (refine (laws_eqCardS _ _ _ _ _ _ hln hx.rd (own_rdc ho7)).mono ?_); rintro e w8 ⟨rfl, hk⟩
      have kk : Keep w7 w8 := (by ((repeat (first | (with_reducible assumption) | ((with_reducible refine Keep.setCell ?_ ?_ _); rotate_left; focus (first | omega | (simp; done) | (simp; omega))) | (with_reducible refine Keep.alloc ?_ _) | (with_reducible refine Keep.drewN ?_ _) | (with_reducible refine Keep.drew ?_) | (with_reducible exact Keep.refl _) | refine Keep.trans ?_ (by with_reducible assumption) | exact Keep.refl _ | assumption))))
      replace hx := hx.keep kk
      replace hy := hy.keep kk
      replace hW := hW.trans kk
      clear hk kk
      clear ho7
      (go_wp2_with fail); (go_at_call 51); (refine (laws_toInt64S _ _ _ _ hsn (hS.keep hW)).mono ?_); rintro e x7 ⟨g7, rfl, ho7, hk⟩
      have kk : Keep w8 x7 := (by ((repeat (first | (with_reducible assumption) | ((with_reducible refine Keep.setCell ?_ ?_ _); rotate_left; focus (first | omega | (simp; done) | (simp; omega))) | (with_reducible refine Keep.alloc ?_ _) | (with_reducible refine Keep.drewN ?_ _) | (with_reducible refine Keep.drew ?_) | (with_reducible exact Keep.refl _) | refine Keep.trans ?_ (by with_reducible assumption) | exact Keep.refl _ | assumption))))
      replace hx := hx.keep kk
      replace hy := hy.keep kk
      replace hW := hW.trans kk
      clear hk kk
      (go_wp2_with fail); (go_at_call 47); (refine (laws_eqInt64S _ _ _ _ _ _ hsn hy.rd (Own.new ho7).rd).mono ?_); rintro e x8 ⟨rfl, hk⟩
      have kk : Keep x7 x8 := (by ((repeat (first | (with_reducible assumption) | ((with_reducible refine Keep.setCell ?_ ?_ _); rotate_left; focus (first | omega | (simp; done) | (simp; omega))) | (with_reducible refine Keep.alloc ?_ _) | (with_reducible refine Keep.drewN ?_ _) | (with_reducible refine Keep.drew ?_) | (with_reducible exact Keep.refl _) | refine Keep.trans ?_ (by with_reducible assumption) | exact Keep.refl _ | assumption))))
      replace hx := hx.keep kk
      replace hy := hy.keep kk
      replace hW := hW.trans kk
      clear hk kk
      go_wp2
      go_ret; exact ⟨rfl, hW⟩
  · have hsn2 : (1048576 : Int) < hs.length := by omega
    go_enter Tryd.func14, Tryd.ntmps14
    go_wp2
    go_ret; exact ⟨rfl, (by ((repeat (first | (with_reducible assumption) | ((with_reducible refine Keep.setCell ?_ ?_ _); rotate_left; focus (first | omega | (simp; done) | (simp; omega))) | (with_reducible refine Keep.alloc ?_ _) | (with_reducible refine Keep.drewN ?_ _) | (with_reducible refine Keep.drew ?_) | (with_reducible exact Keep.refl _) | refine Keep.trans ?_ (by with_reducible assumption) | exact Keep.refl _ | assumption))))⟩
end Go.Proofs.YtpmilcfppcmodaaDoor

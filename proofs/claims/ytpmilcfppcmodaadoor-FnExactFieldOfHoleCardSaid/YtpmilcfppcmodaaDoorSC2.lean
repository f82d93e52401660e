/- Is a scheme valid: the reference; the field of a hole. -/
import Derived.Test.YtpmilcfppcmodaaDoorSC
import Derived.Test.YtpmilcfppcmodaaDoorFS
set_option linter.unusedVariables false
set_option linter.unusedSimpArgs false
namespace Go.Proofs.YtpmilcfppcmodaaDoor
open Go.RowKit Go.Shelf
set_option maxHeartbeats 2000000
set_option maxRecDepth 20000
theorem spec_l01Scheme (A : Option Addr) (l : List Fd) (c : Nat) (w : World) (hm : l.length ≤ 9223372036854775807) (hz : FdW l) (hR : Rd w A (fds l)) :
    Calls Tryd.prog 90 #[.slice A l.length c] w fun e w' => e = .returned (.bool (schB l)) ∧ Keep w w' := by
  by_cases h12 : l.length ≤ 12
  · go_enter Tryd.func90, Tryd.ntmps90
    go_wp2_with fail
    go_loopg [4] l.length (fun k s4 wr => ∃ i : Nat, i + k = l.length ∧ s4 = .int .i64 i ∧ (List.range i).all (fineF l) = true ∧ Bx wr w.heap.size #[.int .u64 (U (lpLo l i)), .int .u64 (U (lpHi l i))] 33 ∧ Keep w wr)
    case atStart => exact ⟨0, by omega, rfl, rfl, by simpa [lpLo, lpHi, U_zero] using Bx.new w #[.int .u64 (U (0#64)), .int .u64 (U (0#64))] 33, (by ((repeat (first | (with_reducible assumption) | ((with_reducible refine Keep.setCell ?_ ?_ _); rotate_left; focus (first | omega | (simp; done) | (simp; omega))) | (with_reducible refine Keep.alloc ?_ _) | (with_reducible refine Keep.drewN ?_ _) | (with_reducible refine Keep.drew ?_) | (with_reducible exact Keep.refl _) | refine Keep.trans ?_ (by with_reducible assumption) | exact Keep.refl _ | assumption))))⟩
    case round =>
      obtain ⟨i, hi, rfl, hal, hM, hk0⟩ := hrel
      have HL := Aside.mk hal
      clear hal
      by_cases hlt : i < l.length
      · obtain ⟨bb, o, rfl, hc⟩ := (hR.keep hk0).at (k := i) (by rw [fds_len]; omega)
        obtain ⟨r1, r2, r3, r4⟩ := fds_at l i hlt
        have p1 := hc _ _ r1
        have p2 := hc _ _ r2
        have p3 := hc _ _ r3
        have p4 := hc _ _ r4
        rw [← Nat.add_assoc] at p2 p3 p4
        have hzs := hz l[i] (List.getElem_mem hlt)
        have HF := Aside.mk (fineF_at hlt)
        have HN := Aside.mk (fun h => schB_no hlt h)
        have HS := Aside.mk (rall_succ (fineF l) i)
        have HP := Aside.mk (And.intro (lpLo_succ hlt) (lpHi_succ hlt))
        clear hc r1 r2 r3 r4
        obtain ⟨x, hx⟩ : ∃ x, l[i] = x := ⟨_, rfl⟩
        rw [hx] at p1 p2 p3 p4 hzs HF HP
        obtain ⟨s, kd, st, sz⟩ := x
        simp only at p1 p2 p3 p4 hzs HF HP
        generalize lpLo l i = lo at *
        generalize lpHi l i = hi' at *
        (go_wp2_with fail); (go_at_call 110); (refine (spec_l01Field s kd st sz _ _ _ hzs.1 hzs.2.1 hzs.2.2.1 hzs.2.2.2 p1 p2 p3 p4).mono ?_); rintro e w1 ⟨rfl, hk1⟩
        replace p1 := hk1.cell p1
        replace p2 := hk1.cell p2
        replace p3 := hk1.cell p3
        replace p4 := hk1.cell p4
        replace hM := hM.keep hk1
        have k1 := hk0.trans hk1
        clear hk1 hk0
        cases h1 : fieldB s kd st sz
        · have hf : fineF l i = false := by rw [HF.out, h1]; rfl
          have HA := Aside.mk (HN.out hf)
          clear hf HP HS HF HN
          go_wp2
          go_ret; exact ⟨rb HA.out.symm, (by ((repeat (first | (with_reducible assumption) | ((with_reducible refine Keep.setCell ?_ ?_ _); rotate_left; focus (first | omega | (simp; done) | (simp; omega))) | (with_reducible refine Keep.alloc ?_ _) | (with_reducible refine Keep.drewN ?_ _) | (with_reducible refine Keep.drew ?_) | (with_reducible exact Keep.refl _) | refine Keep.trans ?_ (by with_reducible assumption) | exact Keep.refl _ | assumption))))⟩
        · obtain ⟨u1, u2, u3, u4, u5⟩ := fieldB_use h1
          obtain ⟨pl, hpl⟩ : ∃ x, paLo kd st sz = x := ⟨_, rfl⟩
          obtain ⟨ph, hph⟩ : ∃ x, paHi kd st sz = x := ⟨_, rfl⟩
          have hPT := fun W c0 c1 c2 c3 => spec_l01Part s kd st sz bb (o + i * 4) W hzs.2.2.2 hzs.2.2.1 u2 u4 u3 c0 c1 c2 c3
          rw [hpl, hph] at hPT HF HP
          clear hpl hph u1 u2 u3 u4 u5
          (go_wp2_with fail); (go_at_call 99); (refine (hPT _ p1 p2 p3 p4).mono ?_); rintro e w2 ⟨rfl, hk2⟩
          replace p1 := hk2.cell p1
          replace hM := hM.keep hk2
          have k2 := k1.trans hk2
          clear hk2 k1 p2 p3 p4 hPT
          have hMs := (hM.keep ((Keep.refl _).alloc (.cells #[.int .u64 (U pl), .int .u64 (U ph)] 33))).two
          (go_wp2_with fail); (go_at_call 76); (refine (spec_l01Meet _ _ _ _ _).mono ?_); rintro e w3 ⟨rfl, hk3⟩
          have hP : Bx w3 w2.heap.size #[.int .u64 (U pl), .int .u64 (U ph)] 33 := (Bx.new _ _ _).keep hk3
          have kk : Keep w2 w3 := (by ((repeat (first | (with_reducible assumption) | ((with_reducible refine Keep.setCell ?_ ?_ _); rotate_left; focus (first | omega | (simp; done) | (simp; omega))) | (with_reducible refine Keep.alloc ?_ _) | (with_reducible refine Keep.drewN ?_ _) | (with_reducible refine Keep.drew ?_) | (with_reducible exact Keep.refl _) | refine Keep.trans ?_ (by with_reducible assumption) | exact Keep.refl _ | assumption))))
          replace p1 := kk.cell p1
          replace hM := hM.keep kk
          have k3 := k2.trans kk
          clear hk3 k2 kk hMs
          cases h2 : meetB lo hi' pl ph
          · have hf : fineF l i = false := by rw [HF.out, h1, h2]; rfl
            have HA := Aside.mk (HN.out hf)
            have h2' : ((lo &&& pl) == 0#64 && (hi' &&& ph) == 0#64) = false := h2
            clear hf HP HS HF HN
            go_wp2
            go_ret; exact ⟨rb HA.out.symm, (by ((repeat (first | (with_reducible assumption) | ((with_reducible refine Keep.setCell ?_ ?_ _); rotate_left; focus (first | omega | (simp; done) | (simp; omega))) | (with_reducible refine Keep.alloc ?_ _) | (with_reducible refine Keep.drewN ?_ _) | (with_reducible refine Keep.drew ?_) | (with_reducible exact Keep.refl _) | refine Keep.trans ?_ (by with_reducible assumption) | exact Keep.refl _ | assumption))))⟩
          · have h2' : ((lo &&& pl) == 0#64 && (hi' &&& ph) == 0#64) = true := h2
            have hMs := hM.two
            have hPs := hP.two
            (go_wp2_with fail); (go_at_call 120); (refine (spec_l01Join _ _ _ _ _).mono ?_); rintro e w4 ⟨rfl, hk4⟩
            replace p1 := hk4.cell p1
            replace hM := hM.keep hk4
            have k4 := k3.trans hk4
            clear hk4 k3 hMs hPs h2' hP
            have hMs := hM.two
            have HM := Aside.mk ((hM.set (i := 0) (.int .u64 (U (lo ||| pl)))).set (i := 1) (.int .u64 (U (hi' ||| ph))))
            have K4 : Aside (Keep w ((w4.setCell ⟨w.heap.size, 0, none⟩ (.int .u64 (U (lo ||| pl)))).setCell ⟨w.heap.size, 1, none⟩ (.int .u64 (U (hi' ||| ph))))) := Aside.mk ((k4.setCell (by simp) _).setCell (by simp) _)
            have hbw : bb < w.heap.size ∨ l = [] := by
              rcases hR with h | ⟨b', o', h, hc'⟩
              · right; cases l with
                | nil => rfl
                | cons y ys => simp [fds_cons, fdV] at h
              · simp only [Option.some.injEq, Addr.mk.injEq, and_true] at h
                obtain ⟨rfl, rfl⟩ := h
                left
                have h0 := (fds_at l 0 (by omega)).1
                have := World.block_lt_of_cell? w _ (hc' _ _ h0)
                simpa using this
            have hbw2 : bb < w.heap.size := by
              rcases hbw with h | h
              · exact h
              · subst h; simp at hlt
            have p1' : ((w4.setCell ⟨w.heap.size, 0, none⟩ (.int .u64 (U (lo ||| pl)))).setCell ⟨w.heap.size, 1, none⟩ (.int .u64 (U (hi' ||| ph)))).cell? ⟨bb, o + i * 4, none⟩ = some (.string s) := by
              rw [← p1]
              refine (World.cell?_of_block (Below.heap_setCell _ _ _ _ (by simp; omega))).trans (World.cell?_of_block (Below.heap_setCell _ _ _ _ (by simp; omega)))
            clear hbw
            go_wp2_with fail
            go_loopg [6] i (fun k2 s6 wq => ∃ j : Nat, j + k2 = i ∧ s6 = .int .i64 j ∧ (l.take j).any (fun x => decide (x.s = s)) = false ∧ Bx wq w.heap.size #[.int .u64 (U (lo ||| pl)), .int .u64 (U (hi' ||| ph))] 33 ∧ Keep w wq ∧ wq.cell? ⟨bb, o + i * 4, none⟩ = some (.string s))
            case atStart => exact ⟨0, by omega, rfl, rfl, HM.out, K4.out, p1'⟩
            case round =>
              clear p1 hM hMs p1'
              obtain ⟨j, hj, rfl, haj, hM, hk2, q1⟩ := hrel
              have HJ := Aside.mk haj
              clear haj
              by_cases hjl : j < i
              · have hjl2 : j < l.length := by omega
                obtain ⟨b2, o2, hbo, hc2⟩ := (hR.keep hk2).at (k := j) (by rw [fds_len]; omega)
                simp only [Option.some.injEq, Addr.mk.injEq, and_true] at hbo
                obtain ⟨rfl, rfl⟩ := hbo
                have t1 := hc2 _ _ (fds_at l j hjl2).1
                have hT := any_takeD (q := fun x => decide (x.s = s)) hjl2
                rw [HJ.out, Bool.false_or] at hT
                have HT := Aside.mk hT
                have HQ := Aside.mk (fun (h : decide (l[j].s = s) = true) => (show clashF (l.take i) s = true from any_ofD (l := l.take i) (i := j) (by rw [List.length_take]; omega) (by rw [List.getElem_take]; exact h)))
                clear hc2 hT
                generalize l[j].s = y at *
                by_cases hy : y = s
                · subst hy
                  have h3 := HQ.out (by simp)
                  have hf : fineF l i = false := by rw [HF.out, h1, h2, h3]; rfl
                  have HA := Aside.mk (HN.out hf)
                  clear hf h3
                  go_wp2_with fail
                  refine wp_region_keep (by kernel_rfl) (by kernel_rfl) ?_
                  repeat
                    first
                      | (apply QuietL.run
                         focus go_simp
                         focus
                           intro w2 hk
                           have t1' := hk.cell t1
                           have q1' := hk.cell q1
                           apply QAt.mk
                           go_simp
                           first
                             | done
                             | exact rfl
                         simp only [Act.put, List.setIfInBounds_toArray, List.set_cons_succ, List.set_cons_zero])
                      | (apply QuietL.skip
                         focus go_simp
                         simp only [Act.put, List.setIfInBounds_toArray, List.set_cons_succ, List.set_cons_zero])
                  apply QuietL.nil
                  intro w2 hk
                  have t1' := hk.cell t1
                  have q1' := hk.cell q1
                  go_wp2
                  go_ret; exact ⟨rb HA.out.symm, (by ((repeat (first | (with_reducible assumption) | ((with_reducible refine Keep.setCell ?_ ?_ _); rotate_left; focus (first | omega | (simp; done) | (simp; omega))) | (with_reducible refine Keep.alloc ?_ _) | (with_reducible refine Keep.drewN ?_ _) | (with_reducible refine Keep.drew ?_) | (with_reducible exact Keep.refl _) | refine Keep.trans ?_ (by with_reducible assumption) | exact Keep.refl _ | assumption))))⟩
                · have hy' : ¬ y.toList = s.toList := fun k => hy (toList_eq.1 k)
                  have hy2 : (y.toList == s.toList) = false := by simpa using hy'
                  have HT2 := Aside.mk (HT.out.trans (decide_eq_false hy))
                  clear HT HQ
                  go_wp2_with fail
                  refine wp_region_keep (by kernel_rfl) (by kernel_rfl) ?_
                  repeat
                    first
                      | (apply QuietL.run
                         focus go_simp
                         focus
                           intro w2 hk
                           have t1' := hk.cell t1
                           have q1' := hk.cell q1
                           apply QAt.mk
                           go_simp
                           first
                             | done
                             | exact rfl
                         simp only [Act.put, List.setIfInBounds_toArray, List.set_cons_succ, List.set_cons_zero])
                      | (apply QuietL.skip
                         focus go_simp
                         simp only [Act.put, List.setIfInBounds_toArray, List.set_cons_succ, List.set_cons_zero])
                  apply QuietL.nil
                  intro w2 hk
                  have t1' := hk.cell t1
                  have q1' := hk.cell q1
                  go_wp2
                  go_roundg (i - (j + 1))
                  case measure => omega
                  case rel => exact ⟨j + 1, by omega, by go_num, HT2.out, hM.keep hk, (by ((repeat (first | (with_reducible assumption) | ((with_reducible refine Keep.setCell ?_ ?_ _); rotate_left; focus (first | omega | (simp; done) | (simp; omega))) | (with_reducible refine Keep.alloc ?_ _) | (with_reducible refine Keep.drewN ?_ _) | (with_reducible refine Keep.drew ?_) | (with_reducible exact Keep.refl _) | refine Keep.trans ?_ (by with_reducible assumption) | exact Keep.refl _ | assumption)))), q1'⟩
              · have e3 : j = i := by omega
                subst e3
                have h3 : clashF (l.take j) s = false := HJ.out
                have hf : (List.range (j + 1)).all (fineF l) = true := by rw [HS.out, HL.out, HF.out, h1, h2, h3]; rfl
                have HA := Aside.mk hf
                clear hf h3
                go_wp2
                go_roundg (l.length - (j + 1))
                case measure => omega
                case rel => exact ⟨j + 1, by omega, by go_num, HA.out, by rw [HP.out.1, HP.out.2]; exact hM, (by ((repeat (first | (with_reducible assumption) | ((with_reducible refine Keep.setCell ?_ ?_ _); rotate_left; focus (first | omega | (simp; done) | (simp; omega))) | (with_reducible refine Keep.alloc ?_ _) | (with_reducible refine Keep.drewN ?_ _) | (with_reducible refine Keep.drew ?_) | (with_reducible exact Keep.refl _) | refine Keep.trans ?_ (by with_reducible assumption) | exact Keep.refl _ | assumption))))⟩
      · have e2 : i = l.length := by omega
        subst e2
        have HA := Aside.mk (schB_yes h12 HL.out)
        go_wp2
        go_ret; exact ⟨rb HA.out.symm, (by ((repeat (first | (with_reducible assumption) | ((with_reducible refine Keep.setCell ?_ ?_ _); rotate_left; focus (first | omega | (simp; done) | (simp; omega))) | (with_reducible refine Keep.alloc ?_ _) | (with_reducible refine Keep.drewN ?_ _) | (with_reducible refine Keep.drew ?_) | (with_reducible exact Keep.refl _) | refine Keep.trans ?_ (by with_reducible assumption) | exact Keep.refl _ | assumption))))⟩
  · have e : schB l = false := by unfold schB; simp [h12]
    rw [e]
    go_enter Tryd.func90, Tryd.ntmps90
    go_wp2
    go_ret; exact ⟨rfl, (by ((repeat (first | (with_reducible assumption) | ((with_reducible refine Keep.setCell ?_ ?_ _); rotate_left; focus (first | omega | (simp; done) | (simp; omega))) | (with_reducible refine Keep.alloc ?_ _) | (with_reducible refine Keep.drewN ?_ _) | (with_reducible refine Keep.drew ?_) | (with_reducible exact Keep.refl _) | refine Keep.trans ?_ (by with_reducible assumption) | exact Keep.refl _ | assumption))))⟩
end Go.Proofs.YtpmilcfppcmodaaDoor

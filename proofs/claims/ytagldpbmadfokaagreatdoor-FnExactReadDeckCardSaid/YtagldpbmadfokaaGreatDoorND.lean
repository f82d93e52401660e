/- Cards read out of texts: the reference's walk. -/
import Derived.Test.YtagldpbmadfokaaGreatDoorNC
import Derived.Test.YtagldpbmadfokaaGreatDoorCT3
import Derived.Test.YtagldpbmadfokaaGreatDoorM2
set_option linter.unusedVariables false
set_option linter.unusedSimpArgs false
namespace Go.Proofs.YtagldpbmadfokaaGreatDoor
open Go.RowKit Go.Shelf
set_option maxHeartbeats 2000000
set_option maxRecDepth 20000
theorem spec_l01ReadCard (s : ByteArray) (w : World) (hs : s.size ≤ 1048576) :
    Calls Tryz.prog 10 #[.string s] w fun e w' => ∃ n a b, e = .returned (.tuple #[.agg #[.string n, .int .u64 (U a), .int .u64 (U b)], .bool (rcO s)]) ∧ rdC s n a b ∧ Keep w w' := by
  have hlen := rcT_len s
  have hlw := (wds_len 32 s).2
  have HSP := Aside.mk (fun W => spec_l01Split s 32 W hs)
  have hn0 := rcN_size s
  have HWA := Aside.mk (fun W A (h : Rd W A (strs (wds 32 s))) => words_at h)
  have HTZ := Aside.mk (fun (i : Nat) (h : i < (rcT s).length) => rcT_size h)
  have HOT := Aside.mk (fun (i : Nat) (h : i < (rcT s).length) => okW_take h)
  have HNO := Aside.mk (fun (i : Nat) (h : i < (rcT s).length) n a b hb => (⟨rcO_no h hb, rdC_no (rcO_no h hb)⟩ : rcO s = false ∧ rdC s n a b))
  have HFIN : Aside ((rcT s).all okW = true → rcO s = (cardB (rcN s) (rcB s) && ((ctT (rcN s) (rcA s) (rcB s)).toList == s.toList))) := Aside.mk (fun h => by
    unfold rcO; rw [h, Bool.true_and]; congr 1
    by_cases e : ctT (rcN s) (rcA s) (rcB s) = s
    · simp [e]
    · have : ¬ (ctT (rcN s) (rcA s) (rcB s)).toList = s.toList := fun h => e (bytes_eq h)
      simp [e, this])
  have HFR : Aside (rcN s = rcN s ∧ orA ((rcT s).take (rcT s).length) = rcA s ∧ orB ((rcT s).take (rcT s).length) = rcB s) := Aside.mk ⟨rfl, by rw [List.take_length]; rfl, by rw [List.take_length]; rfl⟩
  obtain ⟨m, hm⟩ : ∃ m, (wds 32 s).length = m := ⟨_, rfl⟩
  rw [hm] at HSP hlw hlen
  go_enter Tryz.func10, Tryz.ntmps10
  (go_wp2_with fail); (go_at_call 9); (refine (HSP.out _).mono ?_); rintro e w1 ⟨v, rfl, ho, hk1⟩
  have hg := Own.new ho
  obtain ⟨A, c, rfl⟩ := hg.form
  have hRd := hg.rd
  have hZ : Bx w1 w.heap.size #[.string ByteArray.empty, .int .u64 0, .int .u64 0] 34 := (Bx.new _ _ _).keep hk1
  have k1 : Keep w w1 := (by ((repeat (first | (with_reducible assumption) | ((with_reducible refine Keep.setCell ?_ ?_ _); rotate_left; focus (first | omega | (simp; done) | (simp; omega))) | (with_reducible refine Keep.alloc ?_ _) | (with_reducible refine Keep.drewN ?_ _) | (with_reducible refine Keep.drew ?_) | (with_reducible exact Keep.refl _) | refine Keep.trans ?_ (by with_reducible assumption) | exact Keep.refl _ | assumption))))
  obtain ⟨b, o, rfl, hc0, hcT⟩ := HWA.out _ _ hRd
  have HCT := Aside.mk hcT
  have zW := k1.size
  have zZ := hZ.lt
  have hm1 : 1 ≤ m := by omega
  clear hRd hcT hk1 HWA HSP ho hg hm
  go_wp2_with fail
  go_loopg [6] (m - 1) (fun n s6 wr => ∃ k : Nat, 1 ≤ k ∧ k + n = m ∧ s6 = .int .i64 k ∧ ((rcT s).take (k - 1)).all okW = true ∧ Bx wr w.heap.size #[.string ByteArray.empty, .int .u64 0, .int .u64 0] 34 ∧ Bx wr w1.heap.size #[.string (rcN s), .int .u64 (U (orA ((rcT s).take (k - 1)))), .int .u64 (U (orB ((rcT s).take (k - 1))))] 34 ∧ Keep w1 wr)
  case atStart =>
    refine ⟨1, by omega, by omega, rfl, rfl, ?_, ?_, ?_⟩
    · first | exact hZ.alloc _ | exact hZ.keep (by ((repeat (first | (with_reducible assumption) | ((with_reducible refine Keep.setCell ?_ ?_ _); rotate_left; focus (first | omega | (simp; done) | (simp; omega))) | (with_reducible refine Keep.alloc ?_ _) | (with_reducible refine Keep.drewN ?_ _) | (with_reducible refine Keep.drew ?_) | (with_reducible exact Keep.refl _) | refine Keep.trans ?_ (by with_reducible assumption) | exact Keep.refl _ | assumption))))
    · exact Bx.new _ _ _
    · exact (by ((repeat (first | (with_reducible assumption) | ((with_reducible refine Keep.setCell ?_ ?_ _); rotate_left; focus (first | omega | (simp; done) | (simp; omega))) | (with_reducible refine Keep.alloc ?_ _) | (with_reducible refine Keep.drewN ?_ _) | (with_reducible refine Keep.drew ?_) | (with_reducible exact Keep.refl _) | refine Keep.trans ?_ (by with_reducible assumption) | exact Keep.refl _ | assumption))))
  case round =>
    obtain ⟨k, hk1, hi, rfl, hall, hZ, hC, hk⟩ := hrel
    obtain ⟨i, hki⟩ : ∃ i, k = i + 1 := ⟨k - 1, by omega⟩
    rw [show k - 1 = i by omega] at hall hC
    have HL := Aside.mk hall
    clear hall
    have kg := k1.trans hk
    have hCs := hC.three
    have hZs := hZ.three
    by_cases hlt : i < (rcT s).length
    · have p1 := hk.cell (HCT.out i hlt)
      rw [show o + (1 + i) = o + k by omega] at p1
      have hkm : k < m := by omega
      have HK := Aside.mk hki
      have HM := Aside.mk hlen
      have HI := Aside.mk hi
      clear hki hlen hi
      have hz := HTZ.out i hlt
      have HS := Aside.mk (HOT.out i hlt)
      have HA := Aside.mk (And.intro (orA_succ hlt) (orB_succ hlt))
      have HN := Aside.mk (HNO.out i hlt)
      have hr := Aside.mk (nm_rdN (rcT s)[i])
      generalize (rcT s)[i] = x at *
      have hnb := Aside.mk (fun W => spec_l01Number x W (by omega))
      obtain ⟨nv, hv⟩ : ∃ nv : Int, ((nmV x.data.toList : Nat) : Int) = nv := ⟨_, rfl⟩
      simp only [hv] at hnb
      rw [hv] at hr
      clear hv
      generalize nmB x.data.toList = q at *
      generalize orA ((rcT s).take i) = ma at *
      generalize orB ((rcT s).take i) = mb at *
      (go_wp2_with fail); (go_at_call 17); (refine (hnb.out _).mono ?_); rintro e w3 ⟨rfl, hk3⟩
      replace hZ := hZ.keep hk3
      replace hC := hC.keep hk3
      have hCs := hC.three
      have hZs := hZ.three
      have zC := hC.lt
      have zZ3 := hZ.lt
      replace kg := kg.trans hk3
      replace hk := hk.trans hk3
      clear hk3 p1 hnb
      cases q
      · have ho : okW x = false := by rw [← rdN_ok hr.out]; rfl
        obtain ⟨e1, e2⟩ := HN.out (rcN s) ma mb ho
        have E2 := Aside.mk e2
        clear e2 HN HS HA hr ho
        go_wp2
        (apply bodyPost_ret; rotate_left; rfl; exact ⟨rcN s, ma, mb, rfl, E2.out, (by ((repeat (first | (with_reducible assumption) | ((with_reducible refine Keep.setCell ?_ ?_ _); rotate_left; focus (first | omega | (simp; done) | (simp; omega))) | (with_reducible refine Keep.alloc ?_ _) | (with_reducible refine Keep.drewN ?_ _) | (with_reducible refine Keep.drew ?_) | (with_reducible exact Keep.refl _) | refine Keep.trans ?_ (by with_reducible assumption) | exact Keep.refl _ | assumption))))⟩; simp [results, Tryz.results10, go_sem, U_zero, e1, *])
      · (go_wp2_with fail); (go_at_call 18); (refine (spec_l01Hole _ _).mono ?_); rintro e w4 ⟨rfl, hk4⟩
        replace hZ := hZ.keep hk4
        replace hC := hC.keep hk4
        have hCs := hC.three
        have hZs := hZ.three
        have zC := hC.lt
        have zZ3 := hZ.lt
        replace kg := kg.trans hk4
        replace hk := hk.trans hk4
        clear hk4
        cases hh : holeB nv
        · have ho : okW x = false := by rw [← rdN_ok hr.out, hh]; rfl
          obtain ⟨e1, e2⟩ := HN.out (rcN s) ma mb ho
          have E2 := Aside.mk e2
          clear e2 HN HS HA hr ho
          go_wp2
          (apply bodyPost_ret; rotate_left; rfl; exact ⟨rcN s, ma, mb, rfl, E2.out, (by ((repeat (first | (with_reducible assumption) | ((with_reducible refine Keep.setCell ?_ ?_ _); rotate_left; focus (first | omega | (simp; done) | (simp; omega))) | (with_reducible refine Keep.alloc ?_ _) | (with_reducible refine Keep.drewN ?_ _) | (with_reducible refine Keep.drew ?_) | (with_reducible exact Keep.refl _) | refine Keep.trans ?_ (by with_reducible assumption) | exact Keep.refl _ | assumption))))⟩; simp [results, Tryz.results10, go_sem, U_zero, e1, *])
        · have ho : okW x = true := by rw [← rdN_ok hr.out, hh]; rfl
          have hv := rdN_num hr.out ho
          obtain ⟨x0, x1⟩ := holeB_iff.1 hh
          have HS2 : Aside (((rcT s).take (i + 1)).all okW = true) := Aside.mk (by rw [HS.out, HL.out, ho]; rfl)
          rw [hv] at HA
          clear hv ho HN HS hr hh
          (go_wp2_with fail)
          have hko := hk
          apply wp_region_mono 6 [Fx _, Fx _, Fx _, Fx _, Fx _, Fx _] (by kernel_rfl) (by kernel_rfl) (mono_of ⟨Fx.mono _, Fx.mono _, Fx.mono _, Fx.mono _, Fx.mono _, Fx.mono _, trivial⟩) ?st8 ?tl8
          case st8 =>
            simp only [List.take_succ_cons, List.take_zero, List.drop_succ_cons, List.drop_zero, putAll, Act.put, List.setIfInBounds_toArray, List.set_cons_succ, List.set_cons_zero, Nat.zero_add, Nat.reduceAdd]
            refine steps_cons ?_ (steps_cons ?_ (steps_cons ?_ (steps_cons ?_ (steps_cons ?_ (steps_cons ?_ steps_nil)))))
            all_goals
              intro v w2 hk hd
              obtain ⟨hC_0, hC_1, hC_2, hC_3, hC_4, hC_5, hC_6⟩ := (hC.keep hk).three
              have hkz := hk.size
              simp [DepsOf, factAt, Fx, Region.binds] at hd
              simp only [factAt, List.getD_cons_zero, List.getD_cons_succ]
              refine Gives.mk ?_
              go_simp
              first | exact ⟨Keep.refl _, Fx.self _ _⟩ | exact ⟨(Keep.refl _).alloc _, _, rfl, Bx.new _ _ _, by first | omega | (simp; omega)⟩ | (go_at_call 20; exact gives_fx (spec_l01Bit _ (by omega) (by omega) _)) | (go_at_call 19; exact gives_fx (spec_l01Join _ _ _ _ _))
          simp only [List.take_succ_cons, List.take_zero, List.drop_succ_cons, List.drop_zero, putAll, Act.put, List.setIfInBounds_toArray, List.set_cons_succ, List.set_cons_zero, Nat.zero_add, Nat.reduceAdd]
          intro v w2 hk hh
          obtain ⟨hC_0, hC_1, hC_2, hC_3, hC_4, hC_5, hC_6⟩ := (hC.keep hk).three
          have hkz := hk.size
          simp only [Held, factAt, List.getD_cons_zero, List.getD_cons_succ, Fx, true_and] at hh
          obtain ⟨⟨⟨⟨⟨v_0, v_1⟩, v_2⟩, v_3⟩, v_4⟩, v_5⟩ := hh
          simp only [v_0, v_1, v_2, v_3, v_4, v_5]
          replace hZ := hZ.keep hk
          replace hC := hC.keep hk
          replace kg := kg.trans hk
          have kk := hko.trans hk
          have hCs := hC.three
          have hZs := hZ.three
          have zC := hC.lt
          have zZ3 := hZ.lt
          clear hk hko
          go_wp2
          go_roundg (m - (k + 1))
          case measure => have := HI.out; omega
          case rel =>
            refine ⟨k + 1, by omega, by omega, by go_num, ?_⟩
            rw [show k + 1 - 1 = i + 1 by have := HK.out; omega]
            refine ⟨HS2.out, ?_, ?_, ?_⟩
            · exact ((hZ.set' (by simp; omega) _).set' (by simp; omega) _)
            · rw [HA.out.1, HA.out.2]; simpa using (hC.set (i := 1) (.int .u64 (U (ma ||| bitLo nv)))).set (i := 2) (.int .u64 (U (mb ||| bitHi nv)))
            · exact (by ((repeat (first | (with_reducible assumption) | ((with_reducible refine Keep.setCell ?_ ?_ _); rotate_left; focus (first | omega | (simp; done) | (simp; omega))) | (with_reducible refine Keep.alloc ?_ _) | (with_reducible refine Keep.drewN ?_ _) | (with_reducible refine Keep.drew ?_) | (with_reducible exact Keep.refl _) | refine Keep.trans ?_ (by with_reducible assumption) | exact Keep.refl _ | assumption))))
    · have hki2 : k = m := by omega
      obtain rfl : i = (rcT s).length := by omega
      have hal : (rcT s).all okW = true := by have := HL.out; rwa [List.take_length] at this
      rw [HFR.out.2.1, HFR.out.2.2] at hC
      have hfin := HFIN.out hal
      have hCs := hC.three
      clear HL hal HFIN HFR HNO HOT HTZ HCT hlen hki
      subst hki2
      have hcz := ctT_size (rcN s) (rcA s) (rcB s)
      have HID := Aside.mk (show rdC s (rcN s) (rcA s) (rcB s) from fun _ => ⟨rfl, rfl, rfl⟩)
      have hic := Aside.mk (fun g W c0 c1 c2 => spec_l01Ok (rcN s) (rcA s) (rcB s) g 0 W (by omega) c0 c1 c2)
      have htx := Aside.mk (fun g W c0 c1 c2 => spec_l01Text (rcN s) (rcA s) (rcB s) g 0 W (by omega) c0 c1 c2)
      generalize rcN s = n at *
      generalize rcA s = a at *
      generalize rcB s = b at *
      generalize ctT n a b = d at *
      cases hq : cardB n b
      · rw [hq, Bool.false_and] at hfin
        rw [hq] at hic
        clear hcz htx
        (go_wp2_with fail)
        apply wp_region_store [Fx _, Fx _, Fx _, Fx _, Fx _, Fx _, Fx _, Fx undef, Fx _] 7 w.heap.size (JB _ w.heap.size 34 (#[.string ByteArray.empty, .int .u64 0, .int .u64 0]) (#[.string n, .int .u64 (U a), .int .u64 (U b)])) (by kernel_rfl) (by kernel_rfl) (growS_of ⟨fx_grow _ _, fx_grow _ _, fx_grow _ _, fx_grow _ _, fx_grow _ _, fx_grow _ _, fx_grow _ _, fx_grow _ _, fx_grow _ _, trivial⟩) jb_keep (fun _ => rfl) ⟨grown_refl _ _, hZ⟩ ?st9 ?tl9
        case st9 =>
          simp only [List.take_succ_cons, List.take_zero, List.drop_succ_cons, List.drop_zero, putAll, Act.put, List.setIfInBounds_toArray, List.set_cons_succ, List.set_cons_zero, Nat.zero_add, Nat.reduceAdd]
          first
            | (apply StepsG.run
               focus
                 intro v w2 b hb hJ hd
                 have hgw := hJ.1
                 have hgz := hgw.size
                 obtain ⟨hC_0, hC_1, hC_2, hC_3, hC_4, hC_5, hC_6⟩ := (hC.grownBy hgw (by first | (simp; omega) | (simp; done) | (intro hcx; simp at hcx; omega))).three
                 simp [DepsOf, factAt, Fx, Region.binds] at hd
                 refine ⟨?_, ?_⟩
                 focus (go_simp; done)
                 simp only [factAt, List.getD_cons_zero, List.getD_cons_succ]
                 refine Gives.mk ?_
                 go_simp
                 first | exact ⟨jb_other (by decide) (Keep.refl _), Fx.self _ _⟩ | (go_at_call 21; exact jb_call (by decide) (hic.out _ _ hC_0 hC_1 hC_2)))
            | (refine StepsG.skip _ _ _ (by decide) (fun v w2 hd => ⟨?_, fun _ => rfl⟩) ?_
               focus
                 simp [DepsOf, factAt, Fx, Region.binds] at hd
                 go_simp; done)
          first
            | (apply StepsG.run
               focus
                 intro v w2 b hb hJ hd
                 have hgw := hJ.1
                 have hgz := hgw.size
                 obtain ⟨hC_0, hC_1, hC_2, hC_3, hC_4, hC_5, hC_6⟩ := (hC.grownBy hgw (by first | (simp; omega) | (simp; done) | (intro hcx; simp at hcx; omega))).three
                 simp [DepsOf, factAt, Fx, Region.binds] at hd
                 refine ⟨?_, ?_⟩
                 focus (go_simp; done)
                 simp only [factAt, List.getD_cons_zero, List.getD_cons_succ]
                 refine Gives.mk ?_
                 go_simp
                 first | exact ⟨jb_other (by decide) (Keep.refl _), Fx.self _ _⟩ | (go_at_call 21; exact jb_call (by decide) (hic.out _ _ hC_0 hC_1 hC_2)))
            | (refine StepsG.skip _ _ _ (by decide) (fun v w2 hd => ⟨?_, fun _ => rfl⟩) ?_
               focus
                 simp [DepsOf, factAt, Fx, Region.binds] at hd
                 go_simp; done)
          first
            | (apply StepsG.run
               focus
                 intro v w2 b hb hJ hd
                 have hgw := hJ.1
                 have hgz := hgw.size
                 obtain ⟨hC_0, hC_1, hC_2, hC_3, hC_4, hC_5, hC_6⟩ := (hC.grownBy hgw (by first | (simp; omega) | (simp; done) | (intro hcx; simp at hcx; omega))).three
                 simp [DepsOf, factAt, Fx, Region.binds] at hd
                 refine ⟨?_, ?_⟩
                 focus (go_simp; done)
                 simp only [factAt, List.getD_cons_zero, List.getD_cons_succ]
                 refine Gives.mk ?_
                 go_simp
                 first | exact ⟨jb_other (by decide) (Keep.refl _), Fx.self _ _⟩ | (go_at_call 21; exact jb_call (by decide) (hic.out _ _ hC_0 hC_1 hC_2)))
            | (refine StepsG.skip _ _ _ (by decide) (fun v w2 hd => ⟨?_, fun _ => rfl⟩) ?_
               focus
                 simp [DepsOf, factAt, Fx, Region.binds] at hd
                 go_simp; done)
          first
            | (apply StepsG.run
               focus
                 intro v w2 b hb hJ hd
                 have hgw := hJ.1
                 have hgz := hgw.size
                 obtain ⟨hC_0, hC_1, hC_2, hC_3, hC_4, hC_5, hC_6⟩ := (hC.grownBy hgw (by first | (simp; omega) | (simp; done) | (intro hcx; simp at hcx; omega))).three
                 simp [DepsOf, factAt, Fx, Region.binds] at hd
                 refine ⟨?_, ?_⟩
                 focus (go_simp; done)
                 simp only [factAt, List.getD_cons_zero, List.getD_cons_succ]
                 refine Gives.mk ?_
                 go_simp
                 first | exact ⟨jb_other (by decide) (Keep.refl _), Fx.self _ _⟩ | (go_at_call 21; exact jb_call (by decide) (hic.out _ _ hC_0 hC_1 hC_2)))
            | (refine StepsG.skip _ _ _ (by decide) (fun v w2 hd => ⟨?_, fun _ => rfl⟩) ?_
               focus
                 simp [DepsOf, factAt, Fx, Region.binds] at hd
                 go_simp; done)
          first
            | (apply StepsG.run
               focus
                 intro v w2 b hb hJ hd
                 have hgw := hJ.1
                 have hgz := hgw.size
                 obtain ⟨hC_0, hC_1, hC_2, hC_3, hC_4, hC_5, hC_6⟩ := (hC.grownBy hgw (by first | (simp; omega) | (simp; done) | (intro hcx; simp at hcx; omega))).three
                 simp [DepsOf, factAt, Fx, Region.binds] at hd
                 refine ⟨?_, ?_⟩
                 focus (go_simp; done)
                 simp only [factAt, List.getD_cons_zero, List.getD_cons_succ]
                 refine Gives.mk ?_
                 go_simp
                 first | exact ⟨jb_other (by decide) (Keep.refl _), Fx.self _ _⟩ | (go_at_call 21; exact jb_call (by decide) (hic.out _ _ hC_0 hC_1 hC_2)))
            | (refine StepsG.skip _ _ _ (by decide) (fun v w2 hd => ⟨?_, fun _ => rfl⟩) ?_
               focus
                 simp [DepsOf, factAt, Fx, Region.binds] at hd
                 go_simp; done)
          first
            | (apply StepsG.run
               focus
                 intro v w2 b hb hJ hd
                 have hgw := hJ.1
                 have hgz := hgw.size
                 obtain ⟨hC_0, hC_1, hC_2, hC_3, hC_4, hC_5, hC_6⟩ := (hC.grownBy hgw (by first | (simp; omega) | (simp; done) | (intro hcx; simp at hcx; omega))).three
                 simp [DepsOf, factAt, Fx, Region.binds] at hd
                 refine ⟨?_, ?_⟩
                 focus (go_simp; done)
                 simp only [factAt, List.getD_cons_zero, List.getD_cons_succ]
                 refine Gives.mk ?_
                 go_simp
                 first | exact ⟨jb_other (by decide) (Keep.refl _), Fx.self _ _⟩ | (go_at_call 21; exact jb_call (by decide) (hic.out _ _ hC_0 hC_1 hC_2)))
            | (refine StepsG.skip _ _ _ (by decide) (fun v w2 hd => ⟨?_, fun _ => rfl⟩) ?_
               focus
                 simp [DepsOf, factAt, Fx, Region.binds] at hd
                 go_simp; done)
          first
            | (apply StepsG.run
               focus
                 intro v w2 b hb hJ hd
                 have hgw := hJ.1
                 have hgz := hgw.size
                 obtain ⟨hC_0, hC_1, hC_2, hC_3, hC_4, hC_5, hC_6⟩ := (hC.grownBy hgw (by first | (simp; omega) | (simp; done) | (intro hcx; simp at hcx; omega))).three
                 simp [DepsOf, factAt, Fx, Region.binds] at hd
                 refine ⟨?_, ?_⟩
                 focus (go_simp; done)
                 simp only [factAt, List.getD_cons_zero, List.getD_cons_succ]
                 refine Gives.mk ?_
                 go_simp
                 first | exact ⟨jb_other (by decide) (Keep.refl _), Fx.self _ _⟩ | (go_at_call 21; exact jb_call (by decide) (hic.out _ _ hC_0 hC_1 hC_2)))
            | (refine StepsG.skip _ _ _ (by decide) (fun v w2 hd => ⟨?_, fun _ => rfl⟩) ?_
               focus
                 simp [DepsOf, factAt, Fx, Region.binds] at hd
                 go_simp; done)
          first
            | (apply StepsG.run
               focus
                 intro v w2 b hb hJ hd
                 have hgw := hJ.1
                 have hgz := hgw.size
                 obtain ⟨hC_0, hC_1, hC_2, hC_3, hC_4, hC_5, hC_6⟩ := (hC.grownBy hgw (by first | (simp; omega) | (simp; done) | (intro hcx; simp at hcx; omega))).three
                 obtain rfl := hb rfl
                 have hJ2 := hJ.2
                 simp only [Bool.false_eq_true, if_false] at hJ2
                 have hJs := hJ2.three
                 simp [DepsOf, factAt, Fx, Region.binds] at hd
                 refine ⟨?_, ?_⟩
                 focus (go_simp; done)
                 simp only [factAt, List.getD_cons_zero, List.getD_cons_succ]
                 refine Gives.mk ?_
                 go_simp
                 exact ⟨jb_store hgw (grown_trans (grown_trans (grown_set1 _ _ _ _) (grown_set1 _ _ _ _)) (grown_set1 _ _ _ _)) (Bx.set (Bx.set (Bx.set hJ2 _) _) _), rfl⟩)
          first
            | (apply StepsG.run
               focus
                 intro v w2 b hb hJ hd
                 have hgw := hJ.1
                 have hgz := hgw.size
                 obtain ⟨hC_0, hC_1, hC_2, hC_3, hC_4, hC_5, hC_6⟩ := (hC.grownBy hgw (by first | (simp; omega) | (simp; done) | (intro hcx; simp at hcx; omega))).three
                 simp [DepsOf, factAt, Fx, Region.binds] at hd
                 refine ⟨?_, ?_⟩
                 focus (go_simp; done)
                 simp only [factAt, List.getD_cons_zero, List.getD_cons_succ]
                 refine Gives.mk ?_
                 go_simp
                 first | exact ⟨jb_other (by decide) (Keep.refl _), Fx.self _ _⟩ | (go_at_call 21; exact jb_call (by decide) (hic.out _ _ hC_0 hC_1 hC_2)))
            | (refine StepsG.skip _ _ _ (by decide) (fun v w2 hd => ⟨?_, fun _ => rfl⟩) ?_
               focus
                 simp [DepsOf, factAt, Fx, Region.binds] at hd
                 go_simp; done)
          exact StepsG.nil _
        simp only [List.take_succ_cons, List.take_zero, List.drop_succ_cons, List.drop_zero, putAll, Act.put, List.setIfInBounds_toArray, List.set_cons_succ, List.set_cons_zero, Nat.zero_add, Nat.reduceAdd]
        intro v w2 hJ hh
        have hgw := hJ.1
        have hgz := hgw.size
        have hB2 := hJ.2
        simp only [if_true] at hB2
        obtain ⟨hC_0, hC_1, hC_2, hC_3, hC_4, hC_5, hC_6⟩ := (hC.grownBy hgw (by first | (simp; omega) | (simp; done) | (intro hcx; simp at hcx; omega))).three
        simp only [List.length_cons, List.length_nil, Nat.zero_add, Nat.reduceAdd, Held, factAt, List.getD_cons_zero, List.getD_cons_succ, Fx, true_and] at hh
        obtain ⟨⟨⟨⟨⟨⟨⟨⟨v_0, v_1⟩, v_2⟩, v_3⟩, v_4⟩, v_5⟩, v_6⟩, v_7⟩, v_8⟩ := hh
        simp only [v_0, v_1, v_2, v_3, v_4, v_5, v_6, v_8]
        have hBs := hB2.three
        have kk : Keep w w2 := kg.grown hgw (fun k hk => by simp at hk; omega)
        go_wp2
        (apply bodyPost_ret; rotate_left; rfl; exact ⟨n, a, b, rfl, HID.out, (by ((repeat (first | (with_reducible assumption) | ((with_reducible refine Keep.setCell ?_ ?_ _); rotate_left; focus (first | omega | (simp; done) | (simp; omega))) | (with_reducible refine Keep.alloc ?_ _) | (with_reducible refine Keep.drewN ?_ _) | (with_reducible refine Keep.drew ?_) | (with_reducible exact Keep.refl _) | refine Keep.trans ?_ (by with_reducible assumption) | exact Keep.refl _ | assumption))))⟩; simp [results, Tryz.results10, go_sem, U_zero, hfin, *])
      · rw [hq, Bool.true_and] at hfin
        rw [hq] at hic
        clear hcz
        (go_wp2_with fail)
        apply wp_region_store [Fx _, Fx _, Fx _, Fx _, Fx _, Fx _, Fx _, Fx undef, Fx _] 7 w.heap.size (JB _ w.heap.size 34 (#[.string ByteArray.empty, .int .u64 0, .int .u64 0]) (#[.string n, .int .u64 (U a), .int .u64 (U b)])) (by kernel_rfl) (by kernel_rfl) (growS_of ⟨fx_grow _ _, fx_grow _ _, fx_grow _ _, fx_grow _ _, fx_grow _ _, fx_grow _ _, fx_grow _ _, fx_grow _ _, fx_grow _ _, trivial⟩) jb_keep (fun _ => rfl) ⟨grown_refl _ _, hZ⟩ ?st10 ?tl10
        case st10 =>
          simp only [List.take_succ_cons, List.take_zero, List.drop_succ_cons, List.drop_zero, putAll, Act.put, List.setIfInBounds_toArray, List.set_cons_succ, List.set_cons_zero, Nat.zero_add, Nat.reduceAdd]
          first
            | (apply StepsG.run
               focus
                 intro v w2 b hb hJ hd
                 have hgw := hJ.1
                 have hgz := hgw.size
                 obtain ⟨hC_0, hC_1, hC_2, hC_3, hC_4, hC_5, hC_6⟩ := (hC.grownBy hgw (by first | (simp; omega) | (simp; done) | (intro hcx; simp at hcx; omega))).three
                 simp [DepsOf, factAt, Fx, Region.binds] at hd
                 refine ⟨?_, ?_⟩
                 focus (go_simp; done)
                 simp only [factAt, List.getD_cons_zero, List.getD_cons_succ]
                 refine Gives.mk ?_
                 go_simp
                 first | exact ⟨jb_other (by decide) (Keep.refl _), Fx.self _ _⟩ | (go_at_call 21; exact jb_call (by decide) (hic.out _ _ hC_0 hC_1 hC_2)) | (go_at_call 22; exact jb_call (by decide) (htx.out _ _ hC_0 hC_1 hC_2)))
            | (refine StepsG.skip _ _ _ (by decide) (fun v w2 hd => ⟨?_, fun _ => rfl⟩) ?_
               focus
                 simp [DepsOf, factAt, Fx, Region.binds] at hd
                 go_simp; done)
          first
            | (apply StepsG.run
               focus
                 intro v w2 b hb hJ hd
                 have hgw := hJ.1
                 have hgz := hgw.size
                 obtain ⟨hC_0, hC_1, hC_2, hC_3, hC_4, hC_5, hC_6⟩ := (hC.grownBy hgw (by first | (simp; omega) | (simp; done) | (intro hcx; simp at hcx; omega))).three
                 simp [DepsOf, factAt, Fx, Region.binds] at hd
                 refine ⟨?_, ?_⟩
                 focus (go_simp; done)
                 simp only [factAt, List.getD_cons_zero, List.getD_cons_succ]
                 refine Gives.mk ?_
                 go_simp
                 first | exact ⟨jb_other (by decide) (Keep.refl _), Fx.self _ _⟩ | (go_at_call 21; exact jb_call (by decide) (hic.out _ _ hC_0 hC_1 hC_2)) | (go_at_call 22; exact jb_call (by decide) (htx.out _ _ hC_0 hC_1 hC_2)))
            | (refine StepsG.skip _ _ _ (by decide) (fun v w2 hd => ⟨?_, fun _ => rfl⟩) ?_
               focus
                 simp [DepsOf, factAt, Fx, Region.binds] at hd
                 go_simp; done)
          first
            | (apply StepsG.run
               focus
                 intro v w2 b hb hJ hd
                 have hgw := hJ.1
                 have hgz := hgw.size
                 obtain ⟨hC_0, hC_1, hC_2, hC_3, hC_4, hC_5, hC_6⟩ := (hC.grownBy hgw (by first | (simp; omega) | (simp; done) | (intro hcx; simp at hcx; omega))).three
                 simp [DepsOf, factAt, Fx, Region.binds] at hd
                 refine ⟨?_, ?_⟩
                 focus (go_simp; done)
                 simp only [factAt, List.getD_cons_zero, List.getD_cons_succ]
                 refine Gives.mk ?_
                 go_simp
                 first | exact ⟨jb_other (by decide) (Keep.refl _), Fx.self _ _⟩ | (go_at_call 21; exact jb_call (by decide) (hic.out _ _ hC_0 hC_1 hC_2)) | (go_at_call 22; exact jb_call (by decide) (htx.out _ _ hC_0 hC_1 hC_2)))
            | (refine StepsG.skip _ _ _ (by decide) (fun v w2 hd => ⟨?_, fun _ => rfl⟩) ?_
               focus
                 simp [DepsOf, factAt, Fx, Region.binds] at hd
                 go_simp; done)
          first
            | (apply StepsG.run
               focus
                 intro v w2 b hb hJ hd
                 have hgw := hJ.1
                 have hgz := hgw.size
                 obtain ⟨hC_0, hC_1, hC_2, hC_3, hC_4, hC_5, hC_6⟩ := (hC.grownBy hgw (by first | (simp; omega) | (simp; done) | (intro hcx; simp at hcx; omega))).three
                 simp [DepsOf, factAt, Fx, Region.binds] at hd
                 refine ⟨?_, ?_⟩
                 focus (go_simp; done)
                 simp only [factAt, List.getD_cons_zero, List.getD_cons_succ]
                 refine Gives.mk ?_
                 go_simp
                 first | exact ⟨jb_other (by decide) (Keep.refl _), Fx.self _ _⟩ | (go_at_call 21; exact jb_call (by decide) (hic.out _ _ hC_0 hC_1 hC_2)) | (go_at_call 22; exact jb_call (by decide) (htx.out _ _ hC_0 hC_1 hC_2)))
            | (refine StepsG.skip _ _ _ (by decide) (fun v w2 hd => ⟨?_, fun _ => rfl⟩) ?_
               focus
                 simp [DepsOf, factAt, Fx, Region.binds] at hd
                 go_simp; done)
          first
            | (apply StepsG.run
               focus
                 intro v w2 b hb hJ hd
                 have hgw := hJ.1
                 have hgz := hgw.size
                 obtain ⟨hC_0, hC_1, hC_2, hC_3, hC_4, hC_5, hC_6⟩ := (hC.grownBy hgw (by first | (simp; omega) | (simp; done) | (intro hcx; simp at hcx; omega))).three
                 simp [DepsOf, factAt, Fx, Region.binds] at hd
                 refine ⟨?_, ?_⟩
                 focus (go_simp; done)
                 simp only [factAt, List.getD_cons_zero, List.getD_cons_succ]
                 refine Gives.mk ?_
                 go_simp
                 first | exact ⟨jb_other (by decide) (Keep.refl _), Fx.self _ _⟩ | (go_at_call 21; exact jb_call (by decide) (hic.out _ _ hC_0 hC_1 hC_2)) | (go_at_call 22; exact jb_call (by decide) (htx.out _ _ hC_0 hC_1 hC_2)))
            | (refine StepsG.skip _ _ _ (by decide) (fun v w2 hd => ⟨?_, fun _ => rfl⟩) ?_
               focus
                 simp [DepsOf, factAt, Fx, Region.binds] at hd
                 go_simp; done)
          first
            | (apply StepsG.run
               focus
                 intro v w2 b hb hJ hd
                 have hgw := hJ.1
                 have hgz := hgw.size
                 obtain ⟨hC_0, hC_1, hC_2, hC_3, hC_4, hC_5, hC_6⟩ := (hC.grownBy hgw (by first | (simp; omega) | (simp; done) | (intro hcx; simp at hcx; omega))).three
                 simp [DepsOf, factAt, Fx, Region.binds] at hd
                 refine ⟨?_, ?_⟩
                 focus (go_simp; done)
                 simp only [factAt, List.getD_cons_zero, List.getD_cons_succ]
                 refine Gives.mk ?_
                 go_simp
                 first | exact ⟨jb_other (by decide) (Keep.refl _), Fx.self _ _⟩ | (go_at_call 21; exact jb_call (by decide) (hic.out _ _ hC_0 hC_1 hC_2)) | (go_at_call 22; exact jb_call (by decide) (htx.out _ _ hC_0 hC_1 hC_2)))
            | (refine StepsG.skip _ _ _ (by decide) (fun v w2 hd => ⟨?_, fun _ => rfl⟩) ?_
               focus
                 simp [DepsOf, factAt, Fx, Region.binds] at hd
                 go_simp; done)
          first
            | (apply StepsG.run
               focus
                 intro v w2 b hb hJ hd
                 have hgw := hJ.1
                 have hgz := hgw.size
                 obtain ⟨hC_0, hC_1, hC_2, hC_3, hC_4, hC_5, hC_6⟩ := (hC.grownBy hgw (by first | (simp; omega) | (simp; done) | (intro hcx; simp at hcx; omega))).three
                 simp [DepsOf, factAt, Fx, Region.binds] at hd
                 refine ⟨?_, ?_⟩
                 focus (go_simp; done)
                 simp only [factAt, List.getD_cons_zero, List.getD_cons_succ]
                 refine Gives.mk ?_
                 go_simp
                 first | exact ⟨jb_other (by decide) (Keep.refl _), Fx.self _ _⟩ | (go_at_call 21; exact jb_call (by decide) (hic.out _ _ hC_0 hC_1 hC_2)) | (go_at_call 22; exact jb_call (by decide) (htx.out _ _ hC_0 hC_1 hC_2)))
            | (refine StepsG.skip _ _ _ (by decide) (fun v w2 hd => ⟨?_, fun _ => rfl⟩) ?_
               focus
                 simp [DepsOf, factAt, Fx, Region.binds] at hd
                 go_simp; done)
          first
            | (apply StepsG.run
               focus
                 intro v w2 b hb hJ hd
                 have hgw := hJ.1
                 have hgz := hgw.size
                 obtain ⟨hC_0, hC_1, hC_2, hC_3, hC_4, hC_5, hC_6⟩ := (hC.grownBy hgw (by first | (simp; omega) | (simp; done) | (intro hcx; simp at hcx; omega))).three
                 obtain rfl := hb rfl
                 have hJ2 := hJ.2
                 simp only [Bool.false_eq_true, if_false] at hJ2
                 have hJs := hJ2.three
                 simp [DepsOf, factAt, Fx, Region.binds] at hd
                 refine ⟨?_, ?_⟩
                 focus (go_simp; done)
                 simp only [factAt, List.getD_cons_zero, List.getD_cons_succ]
                 refine Gives.mk ?_
                 go_simp
                 exact ⟨jb_store hgw (grown_trans (grown_trans (grown_set1 _ _ _ _) (grown_set1 _ _ _ _)) (grown_set1 _ _ _ _)) (Bx.set (Bx.set (Bx.set hJ2 _) _) _), rfl⟩)
          first
            | (apply StepsG.run
               focus
                 intro v w2 b hb hJ hd
                 have hgw := hJ.1
                 have hgz := hgw.size
                 obtain ⟨hC_0, hC_1, hC_2, hC_3, hC_4, hC_5, hC_6⟩ := (hC.grownBy hgw (by first | (simp; omega) | (simp; done) | (intro hcx; simp at hcx; omega))).three
                 simp [DepsOf, factAt, Fx, Region.binds] at hd
                 refine ⟨?_, ?_⟩
                 focus (go_simp; done)
                 simp only [factAt, List.getD_cons_zero, List.getD_cons_succ]
                 refine Gives.mk ?_
                 go_simp
                 first | exact ⟨jb_other (by decide) (Keep.refl _), Fx.self _ _⟩ | (go_at_call 21; exact jb_call (by decide) (hic.out _ _ hC_0 hC_1 hC_2)) | (go_at_call 22; exact jb_call (by decide) (htx.out _ _ hC_0 hC_1 hC_2)))
            | (refine StepsG.skip _ _ _ (by decide) (fun v w2 hd => ⟨?_, fun _ => rfl⟩) ?_
               focus
                 simp [DepsOf, factAt, Fx, Region.binds] at hd
                 go_simp; done)
          exact StepsG.nil _
        simp only [List.take_succ_cons, List.take_zero, List.drop_succ_cons, List.drop_zero, putAll, Act.put, List.setIfInBounds_toArray, List.set_cons_succ, List.set_cons_zero, Nat.zero_add, Nat.reduceAdd]
        intro v w2 hJ hh
        have hgw := hJ.1
        have hgz := hgw.size
        have hB2 := hJ.2
        simp only [if_true] at hB2
        obtain ⟨hC_0, hC_1, hC_2, hC_3, hC_4, hC_5, hC_6⟩ := (hC.grownBy hgw (by first | (simp; omega) | (simp; done) | (intro hcx; simp at hcx; omega))).three
        simp only [List.length_cons, List.length_nil, Nat.zero_add, Nat.reduceAdd, Held, factAt, List.getD_cons_zero, List.getD_cons_succ, Fx, true_and] at hh
        obtain ⟨⟨⟨⟨⟨⟨⟨⟨v_0, v_1⟩, v_2⟩, v_3⟩, v_4⟩, v_5⟩, v_6⟩, v_7⟩, v_8⟩ := hh
        simp only [v_0, v_1, v_2, v_3, v_4, v_5, v_6, v_8]
        have hBs := hB2.three
        have kk : Keep w w2 := kg.grown hgw (fun k hk => by simp at hk; omega)
        go_wp2
        (apply bodyPost_ret; rotate_left; rfl; exact ⟨n, a, b, rfl, HID.out, (by ((repeat (first | (with_reducible assumption) | ((with_reducible refine Keep.setCell ?_ ?_ _); rotate_left; focus (first | omega | (simp; done) | (simp; omega))) | (with_reducible refine Keep.alloc ?_ _) | (with_reducible refine Keep.drewN ?_ _) | (with_reducible refine Keep.drew ?_) | (with_reducible exact Keep.refl _) | refine Keep.trans ?_ (by with_reducible assumption) | exact Keep.refl _ | assumption))))⟩; simp [results, Tryz.results10, go_sem, U_zero, hfin, *])
end Go.Proofs.YtagldpbmadfokaaGreatDoor

/- The fewest needles drop just the wanted cards, and none of them can be left out: the law over the model. -/
import Derived.Test.YtpmilcfppcmodaaDoorFZZ
import Derived.Test.YtpmilcfppcmodaaDoorFZ1
import Derived.Test.YtpmilcfppcmodaaDoorFWZ
import Derived.Test.YtpmilcfppcmodaaDoorGM
import Derived.Test.YtpmilcfppcmodaaDoorS2
import Derived.Test.YtpmilcfppcmodaaDoorP1
import Derived.Test.YtpmilcfppcmodaaDoorLate
import Derived.Test.YtpmilcfppcmodaaDoorAu
set_option linter.unusedVariables false
set_option linter.unusedSimpArgs false
namespace Go.Proofs.YtpmilcfppcmodaaDoor
open Go.RowKit
set_option maxHeartbeats 8000000
set_option maxRecDepth 20000
@[go_sem] theorem fieldQuery0 (a b c d : Wd) (w : World) : (Instr.field 35 (.agg #[.int .u64 (U a), .int .u64 (U b), .int .u64 (U c), .int .u64 (U d)]) 0).run Tryd.prog w = .ok (.agg #[.int .u64 (U a), .int .u64 (U b)]) w := by
  have u3 := Tryd.underlying35
  have a3 := Tryd.isAgg33
  have z3 := Tryd.sizeOf33
  unfold Instr.field
  simp only [Sem.run_bind, run_underlying Tryd.underlying35, Result.andThen_ok]
  go_simp
  simp [asAgg, Result.andThen]
theorem laws_FnFewest (A : Option Addr) (l : List UInt8) (ca : Nat) (B : Option Addr) (m : List UInt8) (cb : Nat) (w : World) (hl : l.length ≤ 9223372036854775807 ∧ Rd w A (bys l)) (hm : m.length ≤ 9223372036854775807 ∧ Rd w B (bys m)) :
    Calls Tryd.prog 3 #[.slice A l.length ca, .slice B m.length cb] w fun e w' => e = .returned (.bool true) ∧ Keep w w' := by
  obtain ⟨hl1, hR⟩ := hl
  obtain ⟨hm1, hS⟩ := hm
  cases hb : (decide (3000 < l.length) || decide (3000 < m.length))
  · go_enter Tryd.func3, Tryd.ntmps3
    (go_wp2_with fail); (go_at_call 15); (refine (laws_a2Long _ _ _ _ _ _ _).mono ?_); rintro e w1 ⟨rfl, hk1⟩
    rw [hb]
    clear hb
    (go_wp2_with fail); (go_at_call 16); (refine (spec_A2Scheme _ _ _ _ hl1 (hR.keep (by ((repeat (first | (with_reducible assumption) | ((with_reducible refine Keep.setCell ?_ ?_ _); rotate_left; focus (first | omega | (simp; done) | (simp; omega))) | (with_reducible refine Keep.alloc ?_ _) | (with_reducible refine Keep.drewN ?_ _) | (with_reducible refine Keep.drew ?_) | (with_reducible exact Keep.refl _) | refine Keep.trans ?_ (by with_reducible assumption) | exact Keep.refl _ | assumption)))))).mono ?_); rintro e w2 ⟨v, fs, rfl, f1, f5, hfo, hO, hk2⟩
    have hF := Own.new hO
    obtain ⟨FA, fc, rfl⟩ := hF.form
    have hW : Keep w w2 := (by ((repeat (first | (with_reducible assumption) | ((with_reducible refine Keep.setCell ?_ ?_ _); rotate_left; focus (first | omega | (simp; done) | (simp; omega))) | (with_reducible refine Keep.alloc ?_ _) | (with_reducible refine Keep.drewN ?_ _) | (with_reducible refine Keep.drew ?_) | (with_reducible exact Keep.refl _) | refine Keep.trans ?_ (by with_reducible assumption) | exact Keep.refl _ | assumption))))
    clear hk1 hk2 hO
    (go_wp2_with fail); (go_at_call 17); (refine (spec_A2Deck _ _ _ _ _ _ _ hm1 (hS.keep hW) ⟨f1, f5⟩ hfo hF.rd).mono ?_); rintro e w3 ⟨gd, cd, ds, rfl, d8, hsz, hO, hk3⟩
    have hD := Own.new hO
    replace hF := hF.keep hk3
    replace hW := hW.trans hk3
    clear hk3 hO
    (go_wp2_with fail); (go_at_call 19); (refine (spec_A2Query _ _ _ _ _ _ _ hl1 (hR.keep hW) ⟨f1, f5⟩ hfo hF.rd).mono ?_); rintro e w4 ⟨qa, qb, qc, qd, rfl, hk4⟩
    replace hD := hD.keep hk4
    replace hW := hW.trans hk4
    clear hk4 hF hfo
    have hcz : CSz ds := fun x hx => by have := hsz x hx; omega
    have hAn := Aside.mk (fun W h => spec_AnswerOf (some ⟨gd, 0, none⟩) ds cd ⟨qa, qb, 0#64, 0#64⟩ W (by omega) hcz h)
    simp only [U_zero] at hAn
    cases hq : (dkB ds && queryB qa qb 0#64 0#64)
    · have eE : aoE ds ⟨qa, qb, 0#64, 0#64⟩ = 1 := by simp only [aoE, hq, cond_false]
      rw [eE] at hAn
      clear hq eE
      (go_wp2_with fail); (go_at_call 18); (refine (hAn.out _ hD.rd).mono ?_); rintro e w5 ⟨v5, rfl, ho5, hk5⟩
      obtain ⟨A5, c5, rfl⟩ := (Own.new ho5).form
      clear ho5
      go_wp2
      go_ret; exact ⟨rfl, (by ((repeat (first | (with_reducible assumption) | ((with_reducible refine Keep.setCell ?_ ?_ _); rotate_left; focus (first | omega | (simp; done) | (simp; omega))) | (with_reducible refine Keep.alloc ?_ _) | (with_reducible refine Keep.drewN ?_ _) | (with_reducible refine Keep.drew ?_) | (with_reducible exact Keep.refl _) | refine Keep.trans ?_ (by with_reducible assumption) | exact Keep.refl _ | assumption))))⟩
    · have eE : aoE ds ⟨qa, qb, 0#64, 0#64⟩ = 0 := by simp only [aoE, hq, cond_true]
      have eL : aoL ds ⟨qa, qb, 0#64, 0#64⟩ = ansL ds [⟨qa, qb, 0#64, 0#64⟩] := by simp only [aoL, hq, cond_true]
      have hdk : dkB ds = true := by revert hq; cases dkB ds <;> simp
      have hwn := an_wanted ds [⟨qa, qb, 0#64, 0#64⟩]
      have hwl : (ansL ds [⟨qa, qb, 0#64, 0#64⟩]).length ≤ 8 := by have := anN_len ds [⟨qa, qb, 0#64, 0#64⟩] ds.length; unfold ansL; omega
      rw [eE, eL] at hAn
      clear hq eE eL
      generalize ansL ds [⟨qa, qb, 0#64, 0#64⟩] = wd at *
      (go_wp2_with fail); (go_at_call 18); (refine (hAn.out _ hD.rd).mono ?_); rintro e w5 ⟨v5, rfl, ho5, hk5⟩
      have hN := Own.new ho5
      obtain ⟨A5, c5, rfl⟩ := hN.form
      replace hD := hD.keep hk5
      replace hW := hW.trans hk5
      clear ho5 hk5 hAn
      by_cases h0 : wd.length = 0
      · go_wp2
        go_ret; exact ⟨rfl, (by ((repeat (first | (with_reducible assumption) | ((with_reducible refine Keep.setCell ?_ ?_ _); rotate_left; focus (first | omega | (simp; done) | (simp; omega))) | (with_reducible refine Keep.alloc ?_ _) | (with_reducible refine Keep.drewN ?_ _) | (with_reducible refine Keep.drew ?_) | (with_reducible exact Keep.refl _) | refine Keep.trans ?_ (by with_reducible assumption) | exact Keep.refl _ | assumption))))⟩
      · have hcp : ds.length ≤ cd := rd_len hD
        have hE : fwE ds wd = fnE (fwR ds wd) := by unfold fwE; rw [hdk, hwn]; rfl
        have hA1 : fwA ds wd = fnA (fwR ds wd) := by unfold fwA; rw [hdk, hwn]; rfl
        have hB1 : fwB ds wd = fnB (fwR ds wd) := by unfold fwB; rw [hdk, hwn]; rfl
        have hI := Aside.mk (fun W h1 h2 => impl_FewestNeedles (some ⟨gd, 0, none⟩) A5 ds wd cd c5 W (by omega) hcp (by omega) hcz h1 h2)
        have hJ := Aside.mk (fun W h1 h2 => spec_FewestNeedles (some ⟨gd, 0, none⟩) A5 ds wd cd c5 W (by omega) (by omega) hcz h1 h2)
        rw [hE, hA1, hB1] at hI hJ
        clear hE hA1 hB1
        cases hr : fwR ds wd with
        | none =>
          rw [hr] at hI hJ
          simp only [fnE, fnA, fnB] at hI hJ
          (go_wp2_with fail); (go_at_call 20); (refine (hI.out _ hD.rd hN.rd).mono ?_); rintro e w6 ⟨rfl, hk6⟩
          have hMA : Bx (w6.alloc (.cells #[.int .u64 (U (0#64)), .int .u64 (U (0#64))] 33)) w6.heap.size #[.int .u64 (U (0#64)), .int .u64 (U (0#64))] 33 := Bx.new _ _ _
          have kk : Keep w5 (w6.alloc (.cells #[.int .u64 (U (0#64)), .int .u64 (U (0#64))] 33)) := hk6.alloc _
          (go_wp2_with fail); (go_at_call 21); (refine (hJ.out _ (hD.rd.keep kk) (hN.rd.keep kk)).mono ?_); rintro e w7 ⟨rfl, hk7⟩
          have hAs := ((hMA.keep hk7).alloc (.cells #[.int .u64 (U (0#64)), .int .u64 (U (0#64))] 33)).two
          have hBs := (Bx.new w7 #[.int .u64 (U (0#64)), .int .u64 (U (0#64))] 33).two
          have hWz : Keep w w7 := (hW.trans kk).trans hk7
          clear hMA hk6 kk hk7
          go_wp2
          go_ret; exact ⟨rfl, (by ((repeat (first | (with_reducible assumption) | ((with_reducible refine Keep.setCell ?_ ?_ _); rotate_left; focus (first | omega | (simp; done) | (simp; omega))) | (with_reducible refine Keep.alloc ?_ _) | (with_reducible refine Keep.drewN ?_ _) | (with_reducible refine Keep.drew ?_) | (with_reducible exact Keep.refl _) | refine Keep.trans ?_ (by with_reducible assumption) | exact Keep.refl _ | assumption))))⟩
        | some z =>
          rw [hr] at hI hJ
          simp only [fnE, fnA, fnB] at hI hJ
          obtain ⟨y1, y2, y3, y4⟩ := few_less (P := fitB ds wd) (may := mayI ds wd) hr
          obtain ⟨za, zb⟩ := z
          simp only at y1 y2 y3 y4 hI hJ
          have hwz : ansL ds [⟨za, zb, 0#64, 0#64⟩] = wd := by unfold fitB at y2; exact of_decide_eq_true y2
          have hqz : ∀ a b : Wd, okB b = true → queryB a b 0#64 0#64 = true := fun a b h => by unfold queryB; rw [h]; simp [okB]
          have hAZ := Aside.mk (fun W h => impl_AnswerOf (some ⟨gd, 0, none⟩) ds cd ⟨za, zb, 0#64, 0#64⟩ W (by omega) hcp hcz h)
          have eE : aoE ds ⟨za, zb, 0#64, 0#64⟩ = 0 := by simp only [aoE, hdk, hqz _ _ y1, Bool.and_self, cond_true]
          have eL : aoL ds ⟨za, zb, 0#64, 0#64⟩ = wd := by simp only [aoL, hdk, hqz _ _ y1, Bool.and_self, cond_true]; exact hwz
          rw [eE, eL] at hAZ
          simp only [U_zero] at hAZ
          have hLess : Aside (∀ x ∈ hs za zb 96, ∀ W (h : Rd W (some ⟨gd, 0, none⟩) (cds ds)), ∃ L : List Int, wd.length < L.length ∧ L.length ≤ 8 ∧ Calls Tryd.prog 22 #[.slice (some ⟨gd, 0, none⟩) ds.length cd, .agg #[.int .u64 (U (za &&& ~~~bitLo x)), .int .u64 (U (zb &&& ~~~bitHi x)), .int .u64 0, .int .u64 0]] W fun e w' => ∃ v, e = .returned (.tuple #[v, .int .i64 0]) ∧ w'.ownsRow W.heap.size 2 1 v L.length (ints L) ∧ Keep W w') := Aside.mk (fun x hx W h => by
            have h1 := impl_AnswerOf (some ⟨gd, 0, none⟩) ds cd ⟨za &&& ~~~bitLo x, zb &&& ~~~bitHi x, 0#64, 0#64⟩ W (by omega) hcp hcz h
            have h2 := hqz (za &&& ~~~bitLo x) _ (okB_less (bitHi x) y1)
            have e1 : aoE ds ⟨za &&& ~~~bitLo x, zb &&& ~~~bitHi x, 0#64, 0#64⟩ = 0 := by simp only [aoE, hdk, h2, Bool.and_self, cond_true]
            have e2 : aoL ds ⟨za &&& ~~~bitLo x, zb &&& ~~~bitHi x, 0#64, 0#64⟩ = ansL ds [⟨za &&& ~~~bitLo x, zb &&& ~~~bitHi x, 0#64, 0#64⟩] := by simp only [aoL, hdk, h2, Bool.and_self, cond_true]
            rw [e1, e2] at h1
            simp only [U_zero] at h1
            refine ⟨_, more_drops hwz (y4 x hx), ?_, h1⟩
            have := anN_len ds [⟨za &&& ~~~bitLo x, zb &&& ~~~bitHi x, 0#64, 0#64⟩] ds.length
            unfold ansL; omega)
          have hHI := Aside.mk (fun W => impl_HolesIn za zb W)
          have eh : holesE zb = 0 := by unfold holesE; rw [y1]; rfl
          have el : holesL za zb = hs za zb 96 := by unfold holesL; rw [y1]; rfl
          rw [eh, el] at hHI
          have hWH : Aside (∀ x ∈ hs za zb 96, ∀ W, Calls Tryd.prog 25 #[.agg #[.int .u64 (U za), .int .u64 (U zb)], .int .i64 x, .bool false] W fun e w' => e = .returned (.tuple #[.agg #[.int .u64 (U (za &&& ~~~bitLo x)), .int .u64 (U (zb &&& ~~~bitHi x))], .int .i64 0]) ∧ Keep W w') := Aside.mk (fun x hx W => by
            have h1 := impl_WithHole za zb x false W
            obtain ⟨x0, x1, x2⟩ := (hs_mem _ _ 96 _).1 hx
            have h2 : holeB x = true := holeB_iff.2 ⟨x0, by omega⟩
            simp only [withLo, withHi, askedM, y1, h2, cond_true, cond_false] at h1
            exact h1)
          clear eh el eE eL hqz hwz hwn y1 y2 y4 hr hdk
          generalize hs za zb 96 = ks at *
          (go_wp2_with fail); (go_at_call 20); (refine (hI.out _ hD.rd hN.rd).mono ?_); rintro e w6 ⟨rfl, hk6⟩
          have hMA : Bx (w6.alloc (.cells #[.int .u64 (U za), .int .u64 (U zb)] 33)) w6.heap.size #[.int .u64 (U za), .int .u64 (U zb)] 33 := Bx.new _ _ _
          have kk : Keep w5 (w6.alloc (.cells #[.int .u64 (U za), .int .u64 (U zb)] 33)) := hk6.alloc _
          replace hD := hD.keep kk
          replace hN := hN.keep kk
          replace hW := hW.trans kk
          clear kk hk6 hI
          (go_wp2_with fail); (go_at_call 21); (refine (hJ.out _ hD.rd hN.rd).mono ?_); rintro e w7 ⟨rfl, hk7⟩
          replace hMA := hMA.keep hk7
          replace hD := hD.keep hk7
          replace hN := hN.keep hk7
          replace hW := hW.trans hk7
          clear hk7 hJ
          have hAs := (hMA.alloc (.cells #[.int .u64 (U za), .int .u64 (U zb)] 33)).two
          have hBs := (Bx.new w7 #[.int .u64 (U za), .int .u64 (U zb)] 33).two
          (go_wp2_with fail); (go_at_call 22); (refine (hAZ.out _ (hD.rd.keep (by ((repeat (first | (with_reducible assumption) | ((with_reducible refine Keep.setCell ?_ ?_ _); rotate_left; focus (first | omega | (simp; done) | (simp; omega))) | (with_reducible refine Keep.alloc ?_ _) | (with_reducible refine Keep.drewN ?_ _) | (with_reducible refine Keep.drew ?_) | (with_reducible exact Keep.refl _) | refine Keep.trans ?_ (by with_reducible assumption) | exact Keep.refl _ | assumption)))))).mono ?_); rintro e w8 ⟨v8, rfl, ho8, hk8⟩
          have hMB : Bx w8 w7.heap.size #[.int .u64 (U za), .int .u64 (U zb)] 33 := (Bx.new _ _ _).keep hk8
          have kk : Keep w7 w8 := (by ((repeat (first | (with_reducible assumption) | ((with_reducible refine Keep.setCell ?_ ?_ _); rotate_left; focus (first | omega | (simp; done) | (simp; omega))) | (with_reducible refine Keep.alloc ?_ _) | (with_reducible refine Keep.drewN ?_ _) | (with_reducible refine Keep.drew ?_) | (with_reducible exact Keep.refl _) | refine Keep.trans ?_ (by with_reducible assumption) | exact Keep.refl _ | assumption))))
          have hO := Own.new ho8
          obtain ⟨A8, c8, rfl⟩ := hO.form
          replace hD := hD.keep kk
          replace hN := hN.keep kk
          replace hW := hW.trans kk
          clear kk hk8 hAZ ho8 hAs hBs hMA
          have hBs := hMB.two
          (go_wp2_with fail); (go_at_call 23); (refine (hHI.out _).mono ?_); rintro e w9 ⟨v9, rfl, ho9, hk9⟩
          have hH := Own.new ho9
          obtain ⟨A9, c9, rfl⟩ := hH.form
          replace hMB := hMB.keep hk9
          replace hD := hD.keep hk9
          replace hN := hN.keep hk9
          replace hO := hO.keep hk9
          replace hW := hW.trans hk9
          clear hk9 hHI ho9 hBs
          (go_wp2_with fail); (go_at_call 24); (refine (spec_A2Same _ _ _ _ _ _ _ (by omega) (by omega) hO.rd hN.rd).mono ?_); rintro e w10 ⟨rfl, hk10⟩
          replace hMB := hMB.keep hk10
          have hDr := hD.rd.keep hk10
          have hHr := hH.rd.keep hk10
          replace hW := hW.trans hk10
          clear hk10 hO hN hD hH
          have hself : decide (wd = wd) = true := decide_eq_true rfl
          rw [hself]
          go_wp2_with fail
          go_loopg [17] ks.length (fun n s17 wr => ∃ k : Nat, k + n = ks.length ∧ s17 = .int .i64 k ∧ Bx wr w7.heap.size #[.int .u64 (U za), .int .u64 (U zb)] 33 ∧ Rd wr (some ⟨gd, 0, none⟩) (cds ds) ∧ Rd wr A9 (ints ks) ∧ Keep w wr)
          case atStart => exact ⟨0, by omega, rfl, hMB, hDr, hHr, hW⟩
          case round =>
            obtain ⟨k, hkn, rfl, hM, hd, hh, hW⟩ := hrel
            clear hMB hDr hHr
            by_cases hlt : k < ks.length
            · obtain ⟨bb, o, rfl, hc⟩ := hh.at (k := k) (by rw [ints_len]; omega)
              have p1 := hc _ _ (ints_at ks k hlt)
              have hx := List.getElem_mem hlt
              have hwi := Aside.mk (fun W => hWH.out ks[k] hx W)
              have hle := Aside.mk (fun W h => hLess.out ks[k] hx W h)
              clear hc hx
              generalize ks[k] = x at *
              generalize za &&& ~~~bitLo x = xl at *
              generalize zb &&& ~~~bitHi x = xh at *
              have zW := hW.size
              have zM := hM.lt
              go_wp2_with fail
              apply wp_region_late 10 8 [Fx _, Fx _, Fx _, Fx _, Fx _, Fx _, Fx _, Fx _, Fx _] (Al (wr.heap.size) #[.int .u64 0, .int .u64 0] 33) (Al (wr.heap.size) #[.int .u64 (U xl), .int .u64 (U xh)] 33) (by kernel_rfl) (by kernel_rfl) rfl (by simp) ⟨Fx.free _, Fx.free _, Fx.free _, Fx.free _, Fx.free _, Fx.free _, Fx.free _, Fx.free _, Fx.free _, trivial⟩ (Al.mono _ _ _) (Al.mono _ _ _) ?st16 ?so16 ?la16 ?tl16
              case st16 =>
                simp only [List.take_succ_cons, List.take_zero, List.drop_succ_cons, List.drop_zero, putAll, Act.put, List.setIfInBounds_toArray, List.set_cons_succ, List.set_cons_zero, Nat.zero_add, Nat.reduceAdd]
                simp only [List.cons_append, List.nil_append]
                refine steps_cons ?_ (steps_cons ?_ (steps_cons ?_ (steps_cons ?_ (steps_cons ?_ (steps_cons ?_ (steps_cons ?_ (steps_cons ?_ (steps_cons ?_ (steps_cons ?_ steps_nil)))))))))
                all_goals
                  intro v w2 hk hd
                  obtain ⟨hM_0, hM_1, hM_2, hM_3, hM_4⟩ := (hM.keep hk).two
                  have p1' := hk.cell p1
                  have hkz := hk.size
                  simp [DepsOf, factAt, Fx, Region.binds] at hd
                  simp only [factAt, List.getD_cons_zero, List.getD_cons_succ]
                  refine Gives.mk ?_
                  go_simp
                  first | exact ⟨Keep.refl _, Fx.self _ _⟩ | exact ⟨(Keep.refl _).alloc _, _, rfl, Bx.new _ _ _, by first | omega | (simp; omega)⟩ | (go_at_call 25; exact gives_fx (hwi.out _))
              case so16 =>
                intro v w2 hk hd o ho
                obtain ⟨hM_0, hM_1, hM_2, hM_3, hM_4⟩ := (hM.keep hk).two
                have p1' := hk.cell p1
                have hkz := hk.size
                have v_0 := hd 0 (by decide) (by decide)
                have v_1 := hd 1 (by decide) (by decide)
                have v_2 := hd 2 (by decide) (by decide)
                have v_3 := hd 3 (by decide) (by decide)
                have v_4 := hd 4 (by decide) (by decide)
                have v_5 := hd 5 (by decide) (by decide)
                have v_6 := hd 6 (by decide) (by decide)
                have v_7 := hd 7 (by decide) (by decide)
                simp only [List.cons_append, List.nil_append, factAt, List.getD_cons_zero, List.getD_cons_succ, Fx] at v_0 v_1 v_2 v_3 v_4 v_5 v_6 v_7
                obtain ⟨g, v_9, hG, hg⟩ := hd 9 (by decide) (by decide)
                obtain ⟨hG_0, hG_1, hG_2, hG_3, hG_4⟩ := hG.two
                obtain rfl := Option.some.inj ho
                simp only [List.take_succ_cons, List.take_zero, List.drop_succ_cons, List.drop_zero, putAll, Act.put, List.setIfInBounds_toArray, List.set_cons_succ, List.set_cons_zero, Nat.zero_add, Nat.reduceAdd]
                refine Gives.mk ?_
                go_simp
                exact ⟨(by ((repeat (first | (with_reducible assumption) | ((with_reducible refine Keep.setCell ?_ ?_ _); rotate_left; focus (first | omega | (simp; done) | (simp; omega))) | (with_reducible refine Keep.alloc ?_ _) | (with_reducible refine Keep.drewN ?_ _) | (with_reducible refine Keep.drew ?_) | (with_reducible exact Keep.refl _) | refine Keep.trans ?_ (by with_reducible assumption) | exact Keep.refl _ | assumption)))), g, (by first | rfl | assumption), ((hG).set _).set _, hg⟩
              case la16 =>
                intro v w2 hk hd o ho
                obtain ⟨hM_0, hM_1, hM_2, hM_3, hM_4⟩ := (hM.keep hk).two
                have p1' := hk.cell p1
                have hkz := hk.size
                have v_0 := hd 0 (by decide) (by decide)
                have v_1 := hd 1 (by decide) (by decide)
                have v_2 := hd 2 (by decide) (by decide)
                have v_3 := hd 3 (by decide) (by decide)
                have v_4 := hd 4 (by decide) (by decide)
                have v_5 := hd 5 (by decide) (by decide)
                have v_6 := hd 6 (by decide) (by decide)
                have v_7 := hd 7 (by decide) (by decide)
                simp only [List.cons_append, List.nil_append, factAt, List.getD_cons_zero, List.getD_cons_succ, Fx] at v_0 v_1 v_2 v_3 v_4 v_5 v_6 v_7
                obtain ⟨g, v_9, hG, hg⟩ := hd 9 (by decide) (by decide)
                obtain ⟨hG_0, hG_1, hG_2, hG_3, hG_4⟩ := hG.two
                obtain rfl := Option.some.inj ho
                simp only [List.take_succ_cons, List.take_zero, List.drop_succ_cons, List.drop_zero, putAll, Act.put, List.setIfInBounds_toArray, List.set_cons_succ, List.set_cons_zero, Nat.zero_add, Nat.reduceAdd]
                refine Gives.mk ?_
                go_simp
                exact ⟨Keep.refl _, rfl⟩
              simp only [List.take_succ_cons, List.take_zero, List.drop_succ_cons, List.drop_zero, putAll, Act.put, List.setIfInBounds_toArray, List.set_cons_succ, List.set_cons_zero, Nat.zero_add, Nat.reduceAdd]
              simp only [List.cons_append, List.nil_append]
              intro v w2 hk hh
              obtain ⟨hM_0, hM_1, hM_2, hM_3, hM_4⟩ := (hM.keep hk).two
              have p1' := hk.cell p1
              have hkz := hk.size
              simp only [Held, factAt, List.getD_cons_zero, List.getD_cons_succ, Fx, true_and] at hh
              obtain ⟨⟨⟨⟨⟨⟨⟨⟨⟨v_0, v_1⟩, v_2⟩, v_3⟩, v_4⟩, v_5⟩, v_6⟩, v_7⟩, v_8⟩, g, v_9, hG, hg⟩ := hh
              obtain ⟨hG_0, hG_1, hG_2, hG_3, hG_4⟩ := hG.two
              simp only [v_0, v_1, v_2, v_3, v_4, v_5, v_6, v_7, v_8, v_9]
              replace hW := hW.trans hk
              replace hM := hM.keep hk
              replace hd := hd.keep hk
              replace hh := hh.keep hk
              clear hk p1 p1' hkz hM_0 hM_1 hM_2 hM_3 hM_4
              generalize w2 = wa at *
              generalize g = g1 at *
              have hD1 := hG
              clear hG hg hG_0 hG_1 hG_2 hG_3 hG_4 v_0 v_1 v_2 v_3 v_4 v_5 v_6 v_7 v_8 v_9 hwi
              have hDs := hD1.two
              obtain ⟨L, l1, l2, hl3⟩ := hle.out wa hd
              (go_wp2_with fail); (go_at_call 22); (refine hl3.mono ?_); rintro e wb ⟨vb, rfl, ob, hkb⟩
              obtain ⟨AL, cL, rfl⟩ := (Own.new ob).form
              have hn : ¬ ((L.length : Int) ≤ (wd.length : Int)) := by omega
              replace hW := hW.trans hkb
              replace hM := hM.keep hkb
              replace hd := hd.keep hkb
              replace hh := hh.keep hkb
              clear hkb ob hDs hD1 hl3 hle
              go_wp2
              go_roundg (ks.length - (k + 1))
              case measure => omega
              case rel => exact ⟨k + 1, by omega, by go_num, hM, hd, hh, hW⟩
            · have hkl : k = ks.length := by omega
              subst hkl
              go_wp2
              go_ret; exact ⟨rfl, (by ((repeat (first | (with_reducible assumption) | ((with_reducible refine Keep.setCell ?_ ?_ _); rotate_left; focus (first | omega | (simp; done) | (simp; omega))) | (with_reducible refine Keep.alloc ?_ _) | (with_reducible refine Keep.drewN ?_ _) | (with_reducible refine Keep.drew ?_) | (with_reducible exact Keep.refl _) | refine Keep.trans ?_ (by with_reducible assumption) | exact Keep.refl _ | assumption))))⟩
  · go_enter Tryd.func3, Tryd.ntmps3
    (go_wp2_with fail); (go_at_call 15); (refine (laws_a2Long _ _ _ _ _ _ _).mono ?_); rintro e w1 ⟨rfl, hk1⟩
    rw [hb]
    go_wp2
    go_ret; exact ⟨rfl, (by ((repeat (first | (with_reducible assumption) | ((with_reducible refine Keep.setCell ?_ ?_ _); rotate_left; focus (first | omega | (simp; done) | (simp; omega))) | (with_reducible refine Keep.alloc ?_ _) | (with_reducible refine Keep.drewN ?_ _) | (with_reducible refine Keep.drew ?_) | (with_reducible exact Keep.refl _) | refine Keep.trans ?_ (by with_reducible assumption) | exact Keep.refl _ | assumption))))⟩
end Go.Proofs.YtpmilcfppcmodaaDoor

/- The words of a mix: the law. -/
import Derived.Test.YtbbnhbfofdhnbaaDoorFVZ
import Derived.Test.YtbbnhbfofdhnbaaDoorLate
import Derived.Test.YtbbnhbfofdhnbaaDoorAu
set_option linter.unusedVariables false
set_option linter.unusedSimpArgs false
namespace Go.Proofs.YtbbnhbfofdhnbaaDoor
open Go.RowKit
set_option maxHeartbeats 8000000
set_option maxRecDepth 20000
@[go_sem] theorem eqPairIn (a b c d : Int) (w : World) : (Op.equalIn 10000 70 (.agg #[.int .i64 a, .int .i64 b]) (.agg #[.int .i64 c, .int .i64 d])).run Tryd.prog w = .ok (a == c && b == d) w := by
  have u3 := Tryd.underlying2
  have a3 := Tryd.isAgg2
  have z3 := Tryd.sizeOf2
  rw [show (10000 : Nat) = 9999 + 1 from rfl, Op.equalIn]
  simp only [Sem.run_bind, run_underlying Tryd.underlying70, Result.andThen_ok]
  simp only [Std.Legacy.Range.forIn_eq_forIn_range', Std.Legacy.Range.size, Nat.sub_zero, Nat.add_sub_cancel, Nat.div_one, List.range'_succ, List.range'_zero, List.forIn_cons, List.forIn_nil]
  go_simp
  by_cases h1 : a = c <;> by_cases h2 : b = d <;> simp [h1, h2]
theorem laws_FnWords (A : Option Addr) (l : List UInt8) (ca : Nat) (B : Option Addr) (m : List UInt8) (cb : Nat) (w : World) (hl : l.length ≤ 9223372036854775807 ∧ Rd w A (bys l)) (hm : m.length ≤ 9223372036854775807 ∧ Rd w B (bys m)) :
    Calls Tryd.prog 6 #[.slice A l.length ca, .slice B m.length cb] w fun e w' => e = .returned (.bool true) ∧ Keep w w' := by
  obtain ⟨hl1, hR⟩ := hl
  obtain ⟨hm1, hS⟩ := hm
  by_cases hb1 : (4096 : Int) < l.length
  · have e1 : decide ((4096 : Int) < l.length) = true := decide_eq_true hb1
    go_enter Tryd.func6, Tryd.ntmps6
    (go_wp2_with fail); (go_at_call 29); (refine (laws_f6big _ _ _ _).mono ?_); rintro e w1 ⟨rfl, hk1⟩
    rw [e1]
    go_wp2
    go_ret; exact ⟨rfl, (by ((repeat (first | (with_reducible assumption) | ((with_reducible refine Keep.setCell ?_ ?_ _); rotate_left; focus (first | omega | (simp; done) | (simp; omega))) | (with_reducible refine Keep.alloc ?_ _) | (with_reducible refine Keep.drewN ?_ _) | (with_reducible refine Keep.drew ?_) | (with_reducible exact Keep.refl _) | refine Keep.trans ?_ (by with_reducible assumption) | exact Keep.refl _ | assumption))))⟩
  · have e1 : decide ((4096 : Int) < l.length) = false := decide_eq_false hb1
    by_cases hb2 : (4096 : Int) < m.length
    · have e2 : decide ((4096 : Int) < m.length) = true := decide_eq_true hb2
      go_enter Tryd.func6, Tryd.ntmps6
      (go_wp2_with fail); (go_at_call 29); (refine (laws_f6big _ _ _ _).mono ?_); rintro e w1 ⟨rfl, hk1⟩
      rw [e1]
      (go_wp2_with fail); (go_at_call 29); (refine (laws_f6big _ _ _ _).mono ?_); rintro e w2 ⟨rfl, hk2⟩
      rw [e2]
      go_wp2
      go_ret; exact ⟨rfl, (by ((repeat (first | (with_reducible assumption) | ((with_reducible refine Keep.setCell ?_ ?_ _); rotate_left; focus (first | omega | (simp; done) | (simp; omega))) | (with_reducible refine Keep.alloc ?_ _) | (with_reducible refine Keep.drewN ?_ _) | (with_reducible refine Keep.drew ?_) | (with_reducible exact Keep.refl _) | refine Keep.trans ?_ (by with_reducible assumption) | exact Keep.refl _ | assumption))))⟩
    · have e2 : decide ((4096 : Int) < m.length) = false := decide_eq_false hb2
      go_enter Tryd.func6, Tryd.ntmps6
      (go_wp2_with fail); (go_at_call 29); (refine (laws_f6big _ _ _ _).mono ?_); rintro e w1 ⟨rfl, hk1⟩
      rw [e1]
      (go_wp2_with fail); (go_at_call 29); (refine (laws_f6big _ _ _ _).mono ?_); rintro e w2 ⟨rfl, hk2⟩
      rw [e2]
      have k2 : Keep w w2 := (by ((repeat (first | (with_reducible assumption) | ((with_reducible refine Keep.setCell ?_ ?_ _); rotate_left; focus (first | omega | (simp; done) | (simp; omega))) | (with_reducible refine Keep.alloc ?_ _) | (with_reducible refine Keep.drewN ?_ _) | (with_reducible refine Keep.drew ?_) | (with_reducible exact Keep.refl _) | refine Keep.trans ?_ (by with_reducible assumption) | exact Keep.refl _ | assumption))))
      clear hk1 hk2 e1 e2 hb1 hb2
      (go_wp2_with fail); (go_at_call 30); (refine (spec_P6Mix _ _ _ _ hl1 (hR.keep k2)).mono ?_); rintro e w3 ⟨s, z, p, rfl, hmx, hk3⟩
      have hW : Keep w w3 := (by ((repeat (first | (with_reducible assumption) | ((with_reducible refine Keep.setCell ?_ ?_ _); rotate_left; focus (first | omega | (simp; done) | (simp; omega))) | (with_reducible refine Keep.alloc ?_ _) | (with_reducible refine Keep.drewN ?_ _) | (with_reducible refine Keep.drew ?_) | (with_reducible exact Keep.refl _) | refine Keep.trans ?_ (by with_reducible assumption) | exact Keep.refl _ | assumption))))
      clear hk3 k2
      have z3 := hW.size
      (go_wp2_with fail); (go_at_call 31); (refine (spec_P6Words _ _ _ _ hm1 (hS.keep (by ((repeat (first | (with_reducible assumption) | ((with_reducible refine Keep.setCell ?_ ?_ _); rotate_left; focus (first | omega | (simp; done) | (simp; omega))) | (with_reducible refine Keep.alloc ?_ _) | (with_reducible refine Keep.drewN ?_ _) | (with_reducible refine Keep.drew ?_) | (with_reducible exact Keep.refl _) | refine Keep.trans ?_ (by with_reducible assumption) | exact Keep.refl _ | assumption)))))).mono ?_); rintro e w4 ⟨v, ws, rfl, hwl, hwv, how, hk4⟩
      have hX : Bx w4 w3.heap.size #[.int .i16 s, .int .i16 z, .int .i16 p] 42 := (Bx.new _ _ _).keep hk4
      have hw := Own.new (own_base (base' := w3.heap.size) how (by simp))
      obtain ⟨WA, wc, rfl⟩ := hw.form
      have kk : Keep w3 w4 := (by ((repeat (first | (with_reducible assumption) | ((with_reducible refine Keep.setCell ?_ ?_ _); rotate_left; focus (first | omega | (simp; done) | (simp; omega))) | (with_reducible refine Keep.alloc ?_ _) | (with_reducible refine Keep.drewN ?_ _) | (with_reducible refine Keep.drew ?_) | (with_reducible exact Keep.refl _) | refine Keep.trans ?_ (by with_reducible assumption) | exact Keep.refl _ | assumption))))
      replace hW := hW.trans kk
      clear hk4 kk how
      obtain ⟨T, hT⟩ := exMTim s z p
      obtain ⟨x1, x2, x3, x4, x5⟩ : 4 ≤ z ∧ z ≤ 96 ∧ 1 ≤ p ∧ p ≤ 8 ∧ 0 ≤ s := by have := mixB_iff.1 hmx; omega
      have hmp := Aside.mk (fun W => impl_MixPart s z p W (mix_16 hmx))
      have hme : mpE s z p = 0 := by unfold mpE; rw [hmx]; rfl
      rw [hme] at hmp
      have hcp := Aside.mk (fun W => impl_CountHoles (mpLo s z p) (mpHi s z p) W)
      rw [mp_count hmx] at hcp
      have HIN := Aside.mk (fun x W => impl_IsWithin (wLo s z T x) (wHi s z T x) (mpLo s z p) (mpHi s z p) W)
      have HIN2 : Aside (∀ x W, Calls Tryd.prog 38 #[.agg #[.int .u64 (U (wLo s z T x)), .int .u64 (U (wHi s z T x))], .agg #[.int .u64 (U (mpLo s z p)), .int .u64 (U (mpHi s z p))]] W fun e w' => e = .returned (.bool true) ∧ Keep W w') := Aside.mk (fun x W => by have h := HIN.out x W; rw [wd_in T hmx x] at h; exact h)
      have HWC : Aside (∀ x W, Calls Tryd.prog 33 #[.agg #[.int .u64 (U (wLo s z T x)), .int .u64 (U (wHi s z T x))]] W fun e w' => e = .returned (.int .i64 p) ∧ Keep W w') := Aside.mk (fun x W => by have h := impl_CountHoles (wLo s z T x) (wHi s z T x) W; rw [wd_count hmx hT x] at h; exact h)
      clear HIN hme
      generalize mpLo s z p = pa at *
      generalize mpHi s z p = pb at *
      have hXs := hX.three
      (go_wp2_with fail); (go_at_call 32); (refine (hmp.out _).mono ?_); rintro e w5 ⟨rfl, hk5⟩
      have kk : Keep w4 w5 := (by ((repeat (first | (with_reducible assumption) | ((with_reducible refine Keep.setCell ?_ ?_ _); rotate_left; focus (first | omega | (simp; done) | (simp; omega))) | (with_reducible refine Keep.alloc ?_ _) | (with_reducible refine Keep.drewN ?_ _) | (with_reducible refine Keep.drew ?_) | (with_reducible exact Keep.refl _) | refine Keep.trans ?_ (by with_reducible assumption) | exact Keep.refl _ | assumption))))
      have hz4 := kk.size
      replace hX := hX.keep kk
      replace hw := hw.keep kk
      replace hW := hW.trans kk
      clear hk5 kk hmp hXs
      go_wp2_with fail
      refine wp_gen (fun W => Bx W w3.heap.size #[.int .i16 s, .int .i16 z, .int .i16 p] 42 ∧ Bx W w5.heap.size #[.int .u64 (U pa), .int .u64 (U pb)] 50 ∧ Own W w3.heap.size w4.heap.size 9 1 (.slice WA ws.length wc) ws.length (strs ws) ∧ Keep w W) ?_ ?_
      · exact ⟨hX.alloc _, Bx.new _ _ _, hw.keep ((Keep.refl _).alloc _), hW.alloc _⟩
      · rintro W ⟨hX, hP, hw, hW⟩
        have q1 : IntKind.i64.wrap z = z := wrapI64 ⟨by omega, by omega⟩
        have q2 : IntKind.i64.wrap p = p := wrapI64 ⟨by omega, by omega⟩
        refine wp_region_keep (by kernel_rfl) (by kernel_rfl) ?_
        repeat
          first
            | (apply QuietL.run
               focus go_simp
               focus
                 intro w2 hk
                 obtain ⟨hX_0, hX_1, hX_2, hX_3, hX_4, hX_5, hX_6⟩ := (hX.keep hk).three
                 obtain ⟨hP_0, hP_1, hP_2, hP_3, hP_4⟩ := (hP.keep hk).two
                 apply QAt.mk
                 go_simp
                 first
                   | done
                   | exact rfl
                   | (go_at_call 33; exact quiet_call hk (hcp.out _))
               simp only [Act.put, List.setIfInBounds_toArray, List.set_cons_succ, List.set_cons_zero])
            | (apply QuietL.skip
               focus (first | (go_simp; done) | (simp only [undef]; go_simp))
               simp only [Act.put, List.setIfInBounds_toArray, List.set_cons_succ, List.set_cons_zero])
        apply QuietL.nil
        intro w2 hk
        have hX := hX.keep hk
        obtain ⟨hX_0, hX_1, hX_2, hX_3, hX_4, hX_5, hX_6⟩ := hX.three
        have hP := hP.keep hk
        obtain ⟨hP_0, hP_1, hP_2, hP_3, hP_4⟩ := hP.two
        replace hw := hw.keep hk
        replace hW := hW.trans hk
        clear hk hX_0 hX_1 hX_2 hX_3 hX_4 hX_5 hX_6 hP_0 hP_1 hP_2 hP_3 hP_4 hcp
        generalize w2 = WQ at *
        have zQ := hW.size
        have zX := hX.lt
        have zP := hP.lt
        have HL0 := Aside.mk (show aLo s z T (ws.take 0) = 0#64 ∧ aHi s z T (ws.take 0) = 0#64 from ⟨rfl, rfl⟩)
        go_wp2_with fail
        go_loopg [10] ws.length (fun n s10 wr => ∃ k : Nat, k + n = ws.length ∧ s10 = .int .i64 k ∧ Bx wr w3.heap.size #[.int .i16 s, .int .i16 z, .int .i16 p] 42 ∧ Bx wr w5.heap.size #[.int .u64 (U pa), .int .u64 (U pb)] 50 ∧ Bx wr WQ.heap.size #[.int .u64 (U (aLo s z T (ws.take k))), .int .u64 (U (aHi s z T (ws.take k)))] 50 ∧ Own wr w3.heap.size w4.heap.size 9 1 (.slice WA ws.length wc) ws.length (strs ws) ∧ Keep w wr)
        case atStart => exact ⟨0, by omega, rfl, hX.alloc _, hP.alloc _, by rw [HL0.out.1, HL0.out.2, U_zero]; exact Bx.new _ _ _, hw.keep ((Keep.refl _).alloc _), hW.alloc _⟩
        case round =>
          obtain ⟨k, hkn, rfl, hX, hP, hM, hw, hW⟩ := hrel
          clear HL0
          by_cases hlt : k < ws.length
          · obtain ⟨bb, o, rfl, hc⟩ := hw.rd.at (k := k) (by rw [strs_len]; omega)
            have p1 := hc _ _ (strs_at ws k hlt)
            have hx := hwv ws[k] (List.getElem_mem hlt)
            have HA := Aside.mk (And.intro (aLo_take s z T ws k hlt) (aHi_take s z T ws k hlt))
            clear hc
            generalize ws[k] = x at *
            have hwi := Aside.mk (fun W => impl_WordHoles_drawn hmx hT hx W)
            have hwj := Aside.mk (fun W => spec_WordHoles_drawn hmx hT hx W)
            have hxs := (vocab_ok x hx).2
            have hc1 := Aside.mk (fun W => impl_WordCheck x W (by omega))
            have hc2 := Aside.mk (fun W => spec_WordCheck x W (by omega))
            have e3 : wcE x = 0 := by unfold wcE; rw [(vocab_ok x hx).1]; rfl
            rw [e3] at hc1 hc2
            have hcn := Aside.mk (fun W => HWC.out x W)
            have hin := Aside.mk (fun W => HIN2.out x W)
            generalize wLo s z T x = xl at *
            generalize wHi s z T x = xh at *
            generalize aLo s z T (ws.take k) = al at *
            generalize aHi s z T (ws.take k) = ah at *
            have zW := hW.size
            have zM := hM.lt
            go_wp2_with fail
            apply wp_region_late 10 8 [Fx _, Fx _, Fx _, Fx _, Fx _, Fx _, Fx _, Fx _, Fx _] (Al (wr.heap.size) #[.int .u64 0, .int .u64 0] 50) (Al (wr.heap.size) #[.int .u64 (U xl), .int .u64 (U xh)] 50) (by kernel_rfl) (by kernel_rfl) rfl (by simp) ⟨Fx.free _, Fx.free _, Fx.free _, Fx.free _, Fx.free _, Fx.free _, Fx.free _, Fx.free _, Fx.free _, trivial⟩ (Al.mono _ _ _) (Al.mono _ _ _) ?st14 ?so14 ?la14 ?tl14
            case st14 =>
              simp only [List.take_succ_cons, List.take_zero, List.drop_succ_cons, List.drop_zero, putAll, Act.put, List.setIfInBounds_toArray, List.set_cons_succ, List.set_cons_zero, Nat.zero_add, Nat.reduceAdd]
              simp only [List.cons_append, List.nil_append]
              refine steps_cons ?_ (steps_cons ?_ (steps_cons ?_ (steps_cons ?_ (steps_cons ?_ (steps_cons ?_ (steps_cons ?_ (steps_cons ?_ (steps_cons ?_ (steps_cons ?_ steps_nil)))))))))
              all_goals
                intro v w2 hk hd
                obtain ⟨hX_0, hX_1, hX_2, hX_3, hX_4, hX_5, hX_6⟩ := (hX.keep hk).three
                have p1' := hk.cell p1
                have hkz := hk.size
                simp [DepsOf, factAt, Fx, Region.binds] at hd
                simp only [factAt, List.getD_cons_zero, List.getD_cons_succ]
                refine Gives.mk ?_
                go_simp
                first | exact ⟨Keep.refl _, Fx.self _ _⟩ | exact ⟨(Keep.refl _).alloc _, _, rfl, Bx.new _ _ _, by first | omega | (simp; omega)⟩ | (go_at_call 34; exact gives_fx (hwi.out _))
            case so14 =>
              intro v w2 hk hd o ho
              obtain ⟨hX_0, hX_1, hX_2, hX_3, hX_4, hX_5, hX_6⟩ := (hX.keep hk).three
              have p1' := hk.cell p1
              have hkz := hk.size
              have v_0 := hd 0 (by decide) (by decide)
              have v_1 := hd 1 (by decide) (by decide)
              have v_2 := hd 2 (by decide) (by decide)
              have v_3 := hd 3 (by decide) (by decide)
              have v_4 := hd 4 (by decide) (by decide)
              have v_5 := hd 5 (by decide) (by decide)
              have v_6 := hd 6 (by decide) (by decide)
              have v_7 := hd 7 (by decide) (by decide)
              simp only [List.cons_append, List.nil_append, factAt, List.getD_cons_zero, List.getD_cons_succ, Fx] at v_0 v_1 v_2 v_3 v_4 v_5 v_6 v_7
              obtain ⟨g, v_9, hG, hg⟩ := hd 9 (by decide) (by decide)
              obtain ⟨hG_0, hG_1, hG_2, hG_3, hG_4⟩ := hG.two
              obtain rfl := Option.some.inj ho
              simp only [List.take_succ_cons, List.take_zero, List.drop_succ_cons, List.drop_zero, putAll, Act.put, List.setIfInBounds_toArray, List.set_cons_succ, List.set_cons_zero, Nat.zero_add, Nat.reduceAdd]
              refine Gives.mk ?_
              go_simp
              exact ⟨(by ((repeat (first | (with_reducible assumption) | ((with_reducible refine Keep.setCell ?_ ?_ _); rotate_left; focus (first | omega | (simp; done) | (simp; omega))) | (with_reducible refine Keep.alloc ?_ _) | (with_reducible refine Keep.drewN ?_ _) | (with_reducible refine Keep.drew ?_) | (with_reducible exact Keep.refl _) | refine Keep.trans ?_ (by with_reducible assumption) | exact Keep.refl _ | assumption)))), g, (by first | rfl | assumption), ((hG).set _).set _, hg⟩
            case la14 =>
              intro v w2 hk hd o ho
              obtain ⟨hX_0, hX_1, hX_2, hX_3, hX_4, hX_5, hX_6⟩ := (hX.keep hk).three
              have p1' := hk.cell p1
              have hkz := hk.size
              have v_0 := hd 0 (by decide) (by decide)
              have v_1 := hd 1 (by decide) (by decide)
              have v_2 := hd 2 (by decide) (by decide)
              have v_3 := hd 3 (by decide) (by decide)
              have v_4 := hd 4 (by decide) (by decide)
              have v_5 := hd 5 (by decide) (by decide)
              have v_6 := hd 6 (by decide) (by decide)
              have v_7 := hd 7 (by decide) (by decide)
              simp only [List.cons_append, List.nil_append, factAt, List.getD_cons_zero, List.getD_cons_succ, Fx] at v_0 v_1 v_2 v_3 v_4 v_5 v_6 v_7
              obtain ⟨g, v_9, hG, hg⟩ := hd 9 (by decide) (by decide)
              obtain ⟨hG_0, hG_1, hG_2, hG_3, hG_4⟩ := hG.two
              obtain rfl := Option.some.inj ho
              simp only [List.take_succ_cons, List.take_zero, List.drop_succ_cons, List.drop_zero, putAll, Act.put, List.setIfInBounds_toArray, List.set_cons_succ, List.set_cons_zero, Nat.zero_add, Nat.reduceAdd]
              refine Gives.mk ?_
              go_simp
              exact ⟨Keep.refl _, rfl⟩
            simp only [List.take_succ_cons, List.take_zero, List.drop_succ_cons, List.drop_zero, putAll, Act.put, List.setIfInBounds_toArray, List.set_cons_succ, List.set_cons_zero, Nat.zero_add, Nat.reduceAdd]
            simp only [List.cons_append, List.nil_append]
            intro v w2 hk hh
            obtain ⟨hX_0, hX_1, hX_2, hX_3, hX_4, hX_5, hX_6⟩ := (hX.keep hk).three
            have p1' := hk.cell p1
            have hkz := hk.size
            simp only [Held, factAt, List.getD_cons_zero, List.getD_cons_succ, Fx, true_and] at hh
            obtain ⟨⟨⟨⟨⟨⟨⟨⟨⟨v_0, v_1⟩, v_2⟩, v_3⟩, v_4⟩, v_5⟩, v_6⟩, v_7⟩, v_8⟩, g, v_9, hG, hg⟩ := hh
            obtain ⟨hG_0, hG_1, hG_2, hG_3, hG_4⟩ := hG.two
            simp only [v_0, v_1, v_2, v_3, v_4, v_5, v_6, v_7, v_8, v_9]
            have hWa := hW.trans hk
            have hXa := hX.keep hk
            have hPa := hP.keep hk
            have hMa := hM.keep hk
            have hwa := hw.keep hk
            have pa1 := hk.cell p1
            clear hk hX hP hM hw hW p1 hX_0 hX_1 hX_2 hX_3 hX_4 hX_5 hX_6 p1' hkz
            generalize w2 = wa at *
            generalize g = g1 at *
            have hD1 := hG
            have hgg := hg
            clear hG hg hG_0 hG_1 hG_2 hG_3 hG_4 v_0 v_1 v_2 v_3 v_4 v_5 v_6 v_7 v_8 v_9 hwi
            have zg := hD1.lt
            go_wp2_with fail
            apply wp_region_late 10 8 [Fx _, Fx _, Fx _, Fx _, Fx _, Fx _, Fx _, Fx _, Fx _] (Al (wa.heap.size) #[.int .u64 0, .int .u64 0] 50) (Al (wa.heap.size) #[.int .u64 (U xl), .int .u64 (U xh)] 50) (by kernel_rfl) (by kernel_rfl) rfl (by simp) ⟨Fx.free _, Fx.free _, Fx.free _, Fx.free _, Fx.free _, Fx.free _, Fx.free _, Fx.free _, Fx.free _, trivial⟩ (Al.mono _ _ _) (Al.mono _ _ _) ?st15 ?so15 ?la15 ?tl15
            case st15 =>
              simp only [List.take_succ_cons, List.take_zero, List.drop_succ_cons, List.drop_zero, putAll, Act.put, List.setIfInBounds_toArray, List.set_cons_succ, List.set_cons_zero, Nat.zero_add, Nat.reduceAdd]
              simp only [List.cons_append, List.nil_append]
              refine steps_cons ?_ (steps_cons ?_ (steps_cons ?_ (steps_cons ?_ (steps_cons ?_ (steps_cons ?_ (steps_cons ?_ (steps_cons ?_ (steps_cons ?_ (steps_cons ?_ steps_nil)))))))))
              all_goals
                intro v w2 hk hd
                obtain ⟨hXa_0, hXa_1, hXa_2, hXa_3, hXa_4, hXa_5, hXa_6⟩ := (hXa.keep hk).three
                have pa1' := hk.cell pa1
                have hkz := hk.size
                simp [DepsOf, factAt, Fx, Region.binds] at hd
                simp only [factAt, List.getD_cons_zero, List.getD_cons_succ]
                refine Gives.mk ?_
                go_simp
                first | exact ⟨Keep.refl _, Fx.self _ _⟩ | exact ⟨(Keep.refl _).alloc _, _, rfl, Bx.new _ _ _, by first | omega | (simp; omega)⟩ | (go_at_call 35; exact gives_fx (hwj.out _))
            case so15 =>
              intro v w2 hk hd o ho
              obtain ⟨hXa_0, hXa_1, hXa_2, hXa_3, hXa_4, hXa_5, hXa_6⟩ := (hXa.keep hk).three
              have pa1' := hk.cell pa1
              have hkz := hk.size
              have v_0 := hd 0 (by decide) (by decide)
              have v_1 := hd 1 (by decide) (by decide)
              have v_2 := hd 2 (by decide) (by decide)
              have v_3 := hd 3 (by decide) (by decide)
              have v_4 := hd 4 (by decide) (by decide)
              have v_5 := hd 5 (by decide) (by decide)
              have v_6 := hd 6 (by decide) (by decide)
              have v_7 := hd 7 (by decide) (by decide)
              simp only [List.cons_append, List.nil_append, factAt, List.getD_cons_zero, List.getD_cons_succ, Fx] at v_0 v_1 v_2 v_3 v_4 v_5 v_6 v_7
              obtain ⟨g, v_9, hG, hg⟩ := hd 9 (by decide) (by decide)
              obtain ⟨hG_0, hG_1, hG_2, hG_3, hG_4⟩ := hG.two
              obtain rfl := Option.some.inj ho
              simp only [List.take_succ_cons, List.take_zero, List.drop_succ_cons, List.drop_zero, putAll, Act.put, List.setIfInBounds_toArray, List.set_cons_succ, List.set_cons_zero, Nat.zero_add, Nat.reduceAdd]
              refine Gives.mk ?_
              go_simp
              exact ⟨(by ((repeat (first | (with_reducible assumption) | ((with_reducible refine Keep.setCell ?_ ?_ _); rotate_left; focus (first | omega | (simp; done) | (simp; omega))) | (with_reducible refine Keep.alloc ?_ _) | (with_reducible refine Keep.drewN ?_ _) | (with_reducible refine Keep.drew ?_) | (with_reducible exact Keep.refl _) | refine Keep.trans ?_ (by with_reducible assumption) | exact Keep.refl _ | assumption)))), g, (by first | rfl | assumption), ((hG).set _).set _, hg⟩
            case la15 =>
              intro v w2 hk hd o ho
              obtain ⟨hXa_0, hXa_1, hXa_2, hXa_3, hXa_4, hXa_5, hXa_6⟩ := (hXa.keep hk).three
              have pa1' := hk.cell pa1
              have hkz := hk.size
              have v_0 := hd 0 (by decide) (by decide)
              have v_1 := hd 1 (by decide) (by decide)
              have v_2 := hd 2 (by decide) (by decide)
              have v_3 := hd 3 (by decide) (by decide)
              have v_4 := hd 4 (by decide) (by decide)
              have v_5 := hd 5 (by decide) (by decide)
              have v_6 := hd 6 (by decide) (by decide)
              have v_7 := hd 7 (by decide) (by decide)
              simp only [List.cons_append, List.nil_append, factAt, List.getD_cons_zero, List.getD_cons_succ, Fx] at v_0 v_1 v_2 v_3 v_4 v_5 v_6 v_7
              obtain ⟨g, v_9, hG, hg⟩ := hd 9 (by decide) (by decide)
              obtain ⟨hG_0, hG_1, hG_2, hG_3, hG_4⟩ := hG.two
              obtain rfl := Option.some.inj ho
              simp only [List.take_succ_cons, List.take_zero, List.drop_succ_cons, List.drop_zero, putAll, Act.put, List.setIfInBounds_toArray, List.set_cons_succ, List.set_cons_zero, Nat.zero_add, Nat.reduceAdd]
              refine Gives.mk ?_
              go_simp
              exact ⟨Keep.refl _, rfl⟩
            simp only [List.take_succ_cons, List.take_zero, List.drop_succ_cons, List.drop_zero, putAll, Act.put, List.setIfInBounds_toArray, List.set_cons_succ, List.set_cons_zero, Nat.zero_add, Nat.reduceAdd]
            simp only [List.cons_append, List.nil_append]
            intro v w2 hk hh
            obtain ⟨hXa_0, hXa_1, hXa_2, hXa_3, hXa_4, hXa_5, hXa_6⟩ := (hXa.keep hk).three
            have pa1' := hk.cell pa1
            have hkz := hk.size
            simp only [Held, factAt, List.getD_cons_zero, List.getD_cons_succ, Fx, true_and] at hh
            obtain ⟨⟨⟨⟨⟨⟨⟨⟨⟨v_0, v_1⟩, v_2⟩, v_3⟩, v_4⟩, v_5⟩, v_6⟩, v_7⟩, v_8⟩, g, v_9, hG, hg⟩ := hh
            obtain ⟨hG_0, hG_1, hG_2, hG_3, hG_4⟩ := hG.two
            simp only [v_0, v_1, v_2, v_3, v_4, v_5, v_6, v_7, v_8, v_9]
            replace hWa := hWa.trans hk
            replace hXa := hXa.keep hk
            replace hPa := hPa.keep hk
            replace hMa := hMa.keep hk
            replace hwa := hwa.keep hk
            replace hD1 := hD1.keep hk
            replace pa1 := hk.cell pa1
            clear hk hXa_0 hXa_1 hXa_2 hXa_3 hXa_4 hXa_5 hXa_6 pa1' hkz
            generalize w2 = wb at *
            generalize g = g2 at *
            have hD2 := hG
            clear hG hG_0 hG_1 hG_2 hG_3 hG_4 v_0 v_1 v_2 v_3 v_4 v_5 v_6 v_7 v_8 v_9 hwj
            (go_wp2_with fail); (go_at_call 36); (refine (hc1.out _).mono ?_); rintro e wc1 ⟨rfl, hk⟩
            have pa2 := hk.cell pa1
            (go_wp2_with fail); (go_at_call 37); (refine (hc2.out _).mono ?_); rintro e wd1 ⟨rfl, hk2⟩
            have kk := hk.trans hk2
            replace hWa := hWa.trans kk
            replace hXa := hXa.keep kk
            replace hPa := hPa.keep kk
            replace hMa := hMa.keep kk
            replace hwa := hwa.keep kk
            replace hD1 := hD1.keep kk
            replace hD2 := hD2.keep kk
            clear hk hk2 kk pa1 pa2 hc1 hc2 e3
            generalize ((wcM x : Nat) : Int) = wn at *
            have zM2 := hMa.lt
            have zW2 := hWa.size
            go_wp2_with fail
            refine wp_region_keep (by kernel_rfl) (by kernel_rfl) ?_
            repeat
              first
                | (apply QuietL.run
                   focus go_simp
                   focus
                     intro w2 hk
                     obtain ⟨hXa_0, hXa_1, hXa_2, hXa_3, hXa_4, hXa_5, hXa_6⟩ := (hXa.keep hk).three
                     obtain ⟨hPa_0, hPa_1, hPa_2, hPa_3, hPa_4⟩ := (hPa.keep hk).two
                     obtain ⟨hD1_0, hD1_1, hD1_2, hD1_3, hD1_4⟩ := (hD1.keep hk).two
                     obtain ⟨hD2_0, hD2_1, hD2_2, hD2_3, hD2_4⟩ := (hD2.keep hk).two
                     apply QAt.mk
                     go_simp
                     first
                       | done
                       | exact rfl
                       | (go_at_call 33; exact quiet_call hk (hcn.out _))
                       | (go_at_call 38; exact quiet_call hk (hin.out _))
                   simp only [Act.put, List.setIfInBounds_toArray, List.set_cons_succ, List.set_cons_zero])
                | (apply QuietL.skip
                   focus (first | (go_simp; done) | (simp only [undef]; go_simp))
                   simp only [Act.put, List.setIfInBounds_toArray, List.set_cons_succ, List.set_cons_zero])
            apply QuietL.nil
            intro w2 hk
            have hXa := hXa.keep hk
            obtain ⟨hXa_0, hXa_1, hXa_2, hXa_3, hXa_4, hXa_5, hXa_6⟩ := hXa.three
            have hPa := hPa.keep hk
            obtain ⟨hPa_0, hPa_1, hPa_2, hPa_3, hPa_4⟩ := hPa.two
            have hD1 := hD1.keep hk
            obtain ⟨hD1_0, hD1_1, hD1_2, hD1_3, hD1_4⟩ := hD1.two
            have hD2 := hD2.keep hk
            obtain ⟨hD2_0, hD2_1, hD2_2, hD2_3, hD2_4⟩ := hD2.two
            replace hWa := hWa.trans hk
            replace hMa := hMa.keep hk
            replace hwa := hwa.keep hk
            clear hk hXa_0 hXa_1 hXa_2 hXa_3 hXa_4 hXa_5 hXa_6 hPa_0 hPa_1 hPa_2 hPa_3 hPa_4 hD1_0 hD1_1 hD1_2 hD1_3 hD1_4 hD2_0 hD2_1 hD2_2 hD2_3 hD2_4 hD1 hcn hin
            generalize w2 = we at *
            have hMs := hMa.two
            have hDs := hD2.two
            (go_wp2_with fail); (go_at_call 39); (refine (impl_JoinMasks _ _ _ _ _).mono ?_); rintro e wf ⟨rfl, hk⟩
            replace hWa := hWa.trans hk
            replace hXa := hXa.keep hk
            replace hPa := hPa.keep hk
            replace hMa := hMa.keep hk
            replace hwa := hwa.keep hk
            have hMs := hMa.two
            have zMf := hMa.lt
            clear hk hD2 hDs
            go_wp2
            go_roundg (ws.length - (k + 1))
            case measure => omega
            case rel =>
              refine ⟨k + 1, by omega, by go_num, ?_, ?_, ?_, ?_, ?_⟩
              · exact (hXa.set' (by simp; omega) _).set' (by simp; omega) _
              · exact (hPa.set' (by simp; omega) _).set' (by simp; omega) _
              · rw [HA.out.1, HA.out.2]; simpa using (hMa.set (i := 0) (.int .u64 (U (al ||| xl)))).set (i := 1) (.int .u64 (U (ah ||| xh)))
              · exact (hwa.other (grown_set1 _ WQ.heap.size 0 _) (fun k hk => .inr (by cases hk; omega))).other (grown_set1 _ WQ.heap.size 1 _) (fun k hk => .inr (by cases hk; omega))
              · exact (by ((repeat (first | (with_reducible assumption) | ((with_reducible refine Keep.setCell ?_ ?_ _); rotate_left; focus (first | omega | (simp; done) | (simp; omega))) | (with_reducible refine Keep.alloc ?_ _) | (with_reducible refine Keep.drewN ?_ _) | (with_reducible refine Keep.drew ?_) | (with_reducible exact Keep.refl _) | refine Keep.trans ?_ (by with_reducible assumption) | exact Keep.refl _ | assumption))))
          · have hkl : k = ws.length := by omega
            rw [hkl, List.take_length] at hM
            subst hkl
            have zM := hM.lt
            clear hlt hkn
            (go_wp2_with fail); (go_at_call 40); (refine (spec_P6Mask _ _ _ _ hm1 (hS.keep hW)).mono ?_); rintro e wg ⟨ma, mb, rfl, hmo, hk⟩
            replace hX := hX.keep hk
            replace hP := hP.keep hk
            replace hM := hM.keep hk
            replace hw := hw.keep hk
            replace hW := hW.trans hk
            have zg := hW.size
            clear hk
            have hdr : drE s z p mb ws = 0 := by unfold drE; rw [hmo, cond_true]; exact ck_zero hmx hwv (by omega)
            have had : Aside (∀ W (h : Rd W WA (strs ws)), Calls Tryd.prog 41 #[.agg #[.int .i16 s, .int .i16 z, .int .i16 p], .agg #[.int .u64 (U ma), .int .u64 (U mb)], .slice WA ws.length wc] W fun e w' => e = .returned (.tuple #[.agg #[.int .u64 (U (ma ||| aLo s z T ws)), .int .u64 (U (mb ||| aHi s z T ws))], .int .i64 0]) ∧ Keep W w') := Aside.mk (fun W h => by
              have h1 := impl_AddWords s z p ma mb WA ws wc T W (mix_16 hmx) (by omega) (wsz_ok hwv) h hT
              unfold adLo adHi at h1
              rw [hdr] at h1
              exact h1)
            obtain ⟨N, hN⟩ : ∃ N : Int, ((pc (aLo s z T ws) + pc (aHi s z T ws) : Nat) : Int) = N := ⟨_, rfl⟩
            have hnd : Aside (∀ W (h : Rd W WA (strs ws)), Calls Tryd.prog 42 #[.agg #[.int .i16 s, .int .i16 z, .int .i16 p], .slice WA ws.length wc] W fun e w' => e = .returned (.tuple #[.int .i64 N, .int .i64 0]) ∧ Keep W w') := Aside.mk (fun W h => by
              have h1 := impl_NeedlesFor s z p WA ws wc T W (mix_16 hmx) (by omega) (wsz_ok hwv) h hT
              unfold ndM at h1
              rw [ck_zero hmx hwv (by omega), hN] at h1
              exact h1)
            have hcs : Aside (∀ W, Calls Tryd.prog 44 #[.agg #[.int .u64 (U (aLo s z T ws)), .int .u64 (U (aHi s z T ws))]] W fun e w' => e = .returned (.int .i64 N) ∧ Keep W w') := Aside.mk (fun W => by
              have h1 := spec_CountHoles (aLo s z T ws) (aHi s z T ws) W
              rw [hN] at h1; exact h1)
            have hNb : N ≤ p * (ws.length : Int) := by
              have h1 := all_count hmx hT ws ws.length (Nat.le_refl _)
              rw [List.take_length, hN] at h1; exact h1
            obtain ⟨pn, hpn⟩ : ∃ pn : Int, p * (ws.length : Int) = pn := ⟨_, rfl⟩
            have hpb : 0 ≤ pn ∧ pn ≤ 32 := by
              rw [← hpn]
              constructor
              · exact Int.mul_nonneg (by omega) (by omega)
              · have : p * (ws.length : Int) ≤ 8 * 4 := Int.mul_le_mul (by omega) (by omega) (by omega) (by omega)
                omega
            rw [hpn] at hNb
            have q3 : IntKind.i64.wrap pn = pn := wrapI64 ⟨by omega, by omega⟩
            have hjs := Aside.mk (fun W => spec_JoinMasks ma mb (aLo s z T ws) (aHi s z T ws) W)
            clear hdr hN hmo HWC HIN2
            generalize aLo s z T ws = AL at *
            generalize aHi s z T ws = AH at *
            generalize ma ||| AL = JA at *
            generalize mb ||| AH = JB2 at *
            have hXs := hX.three
            (go_wp2_with fail); (go_at_call 41); (refine (had.out _ (hw.rd.keep (by ((repeat (first | (with_reducible assumption) | ((with_reducible refine Keep.setCell ?_ ?_ _); rotate_left; focus (first | omega | (simp; done) | (simp; omega))) | (with_reducible refine Keep.alloc ?_ _) | (with_reducible refine Keep.drewN ?_ _) | (with_reducible refine Keep.drew ?_) | (with_reducible exact Keep.refl _) | refine Keep.trans ?_ (by with_reducible assumption) | exact Keep.refl _ | assumption)))))).mono ?_); rintro e wh ⟨rfl, hk⟩
            have hMA : Bx wh wg.heap.size #[.int .u64 (U ma), .int .u64 (U mb)] 50 := (Bx.new _ _ _).keep hk
            have kk : Keep wg wh := (by ((repeat (first | (with_reducible assumption) | ((with_reducible refine Keep.setCell ?_ ?_ _); rotate_left; focus (first | omega | (simp; done) | (simp; omega))) | (with_reducible refine Keep.alloc ?_ _) | (with_reducible refine Keep.drewN ?_ _) | (with_reducible refine Keep.drew ?_) | (with_reducible exact Keep.refl _) | refine Keep.trans ?_ (by with_reducible assumption) | exact Keep.refl _ | assumption))))
            replace hX := hX.keep kk
            replace hM := hM.keep kk
            replace hw := hw.keep kk
            replace hW := hW.trans kk
            clear hk kk hXs had hP
            have hXs := hX.three
            have zh := hW.size
            (go_wp2_with fail); (go_at_call 42); (refine (hnd.out _ (hw.rd.keep (by ((repeat (first | (with_reducible assumption) | ((with_reducible refine Keep.setCell ?_ ?_ _); rotate_left; focus (first | omega | (simp; done) | (simp; omega))) | (with_reducible refine Keep.alloc ?_ _) | (with_reducible refine Keep.drewN ?_ _) | (with_reducible refine Keep.drew ?_) | (with_reducible exact Keep.refl _) | refine Keep.trans ?_ (by with_reducible assumption) | exact Keep.refl _ | assumption)))))).mono ?_); rintro e wi ⟨rfl, hk⟩
            have hMB : Bx wi wh.heap.size #[.int .u64 (U JA), .int .u64 (U JB2)] 50 := (Bx.new _ _ _).keep hk
            have kk : Keep wh wi := (by ((repeat (first | (with_reducible assumption) | ((with_reducible refine Keep.setCell ?_ ?_ _); rotate_left; focus (first | omega | (simp; done) | (simp; omega))) | (with_reducible refine Keep.alloc ?_ _) | (with_reducible refine Keep.drewN ?_ _) | (with_reducible refine Keep.drew ?_) | (with_reducible exact Keep.refl _) | refine Keep.trans ?_ (by with_reducible assumption) | exact Keep.refl _ | assumption))))
            replace hX := hX.keep kk
            replace hM := hM.keep kk
            replace hw := hw.keep kk
            replace hMA := hMA.keep kk
            replace hW := hW.trans kk
            clear hk kk hXs hnd
            go_wp2_with fail
            try simp only [hpn]
            refine wp_region_keep (by kernel_rfl) (by kernel_rfl) ?_
            repeat
              first
                | (apply QuietL.run
                   focus go_simp
                   focus
                     intro w2 hk
                     obtain ⟨hX_0, hX_1, hX_2, hX_3, hX_4, hX_5, hX_6⟩ := (hX.keep hk).three
                     obtain ⟨hM_0, hM_1, hM_2, hM_3, hM_4⟩ := (hM.keep hk).two
                     obtain ⟨hMA_0, hMA_1, hMA_2, hMA_3, hMA_4⟩ := (hMA.keep hk).two
                     obtain ⟨hMB_0, hMB_1, hMB_2, hMB_3, hMB_4⟩ := (hMB.keep hk).two
                     apply QAt.mk
                     go_simp
                     first
                       | done
                       | exact rfl
                       | (go_at_call 43; exact quiet_call hk (hjs.out _))
                       | (go_at_call 44; exact quiet_call hk (hcs.out _))
                   simp only [Act.put, List.setIfInBounds_toArray, List.set_cons_succ, List.set_cons_zero])
                | (apply QuietL.skip
                   focus (first | (go_simp; done) | (simp only [undef]; go_simp))
                   simp only [Act.put, List.setIfInBounds_toArray, List.set_cons_succ, List.set_cons_zero])
            apply QuietL.nil
            intro w2 hk
            have hX := hX.keep hk
            obtain ⟨hX_0, hX_1, hX_2, hX_3, hX_4, hX_5, hX_6⟩ := hX.three
            have hM := hM.keep hk
            obtain ⟨hM_0, hM_1, hM_2, hM_3, hM_4⟩ := hM.two
            have hMA := hMA.keep hk
            obtain ⟨hMA_0, hMA_1, hMA_2, hMA_3, hMA_4⟩ := hMA.two
            have hMB := hMB.keep hk
            obtain ⟨hMB_0, hMB_1, hMB_2, hMB_3, hMB_4⟩ := hMB.two
            replace hw := hw.keep hk
            replace hW := hW.trans hk
            clear hk hX_0 hX_1 hX_2 hX_3 hX_4 hX_5 hX_6 hM_0 hM_1 hM_2 hM_3 hM_4 hMA_0 hMA_1 hMA_2 hMA_3 hMA_4 hMB_0 hMB_1 hMB_2 hMB_3 hMB_4 hM hMA hMB hjs hcs hpb q1 q2 q3 hpn
            generalize w2 = wj at *
            have hI := Aside.mk (fun W h => impl_AlikeWords s z p WA ws wc T W (mix_16 hmx) (by omega) (wsz_ok hwv) h hT)
            have hJ := Aside.mk (fun W h => spec_AlikeWords s z p WA ws wc T W (mix_16 hmx) (by omega) (wsz_ok hwv) h hT)
            have he : alE s z p ws = 0 := ck_zero hmx hwv (by omega)
            rw [he] at hI hJ
            have hal := Aside.mk (fun (x : Int × Int) (h : x ∈ alL s z p T ws) => al_mem h)
            have hLn := al_len s z p T ws hwl
            have hWH := Aside.mk (fun (x : ByteArray) (h : x ∈ ws) W => impl_WordHoles_drawn hmx hT (hwv x h) W)
            generalize alL s z p T ws = P at *
            clear he hT hmx hwv
            have hXs := hX.three
            have zj := hW.size
            have zX := hX.lt
            (go_wp2_with fail); (go_at_call 22); (refine (hI.out _ (hw.rd.keep (by ((repeat (first | (with_reducible assumption) | ((with_reducible refine Keep.setCell ?_ ?_ _); rotate_left; focus (first | omega | (simp; done) | (simp; omega))) | (with_reducible refine Keep.alloc ?_ _) | (with_reducible refine Keep.drewN ?_ _) | (with_reducible refine Keep.drew ?_) | (with_reducible exact Keep.refl _) | refine Keep.trans ?_ (by with_reducible assumption) | exact Keep.refl _ | assumption)))))).mono ?_); rintro e wk ⟨v1, rfl, o1, hk⟩
            have hp1 := Own.new o1
            obtain ⟨A1, c1, rfl⟩ := hp1.form
            replace hX := hX.keep hk
            replace hw := hw.keep hk
            replace hW := hW.trans hk
            clear hk hXs hI o1
            have hXs := hX.three
            have zk := hW.size
            (go_wp2_with fail); (go_at_call 20); (refine (hJ.out _ (hw.rd.keep (by ((repeat (first | (with_reducible assumption) | ((with_reducible refine Keep.setCell ?_ ?_ _); rotate_left; focus (first | omega | (simp; done) | (simp; omega))) | (with_reducible refine Keep.alloc ?_ _) | (with_reducible refine Keep.drewN ?_ _) | (with_reducible refine Keep.drew ?_) | (with_reducible exact Keep.refl _) | refine Keep.trans ?_ (by with_reducible assumption) | exact Keep.refl _ | assumption)))))).mono ?_); rintro e wl ⟨v2, rfl, o2, hk⟩
            have hp2 := Own.new o2
            obtain ⟨A2, c2, rfl⟩ := hp2.form
            replace hX := hX.keep hk
            replace hw := hw.keep hk
            replace hp1 := hp1.keep hk
            replace hW := hW.trans hk
            clear hk hXs hJ o2
            go_wp2_with fail
            go_loopg [28] P.length (fun n s28 wr => ∃ k : Nat, k + n = P.length ∧ s28 = .int .i64 k ∧ Bx wr w3.heap.size #[.int .i16 s, .int .i16 z, .int .i16 p] 42 ∧ Own wr w3.heap.size w4.heap.size 9 1 (.slice WA ws.length wc) ws.length (strs ws) ∧ Own wr wj.heap.size wk.heap.size 70 2 (.slice A1 P.length c1) P.length (prs P) ∧ Own wr wk.heap.size wl.heap.size 70 2 (.slice A2 P.length c2) P.length (prs P) ∧ Keep w wr)
            case atStart => exact ⟨0, by omega, rfl, hX, hw, hp1, hp2, hW⟩
            case round =>
              obtain ⟨k, hkn, rfl, hX, hw, hp1, hp2, hW⟩ := hrel
              by_cases hlt : k < P.length
              · obtain ⟨b1, o1, rfl, hc1⟩ := hp1.rd.at (k := k) (by rw [prs_len]; omega)
                obtain ⟨b2, o2, rfl, hc2⟩ := hp2.rd.at (k := k) (by rw [prs_len]; omega)
                obtain ⟨r1, r2⟩ := prs_at P k hlt
                obtain ⟨i, j, hi, hj, hij, hx, hlo, hhi⟩ := hal.out P[k] (List.getElem_mem hlt)
                have p1 := hc1 _ _ r1
                have p2 := hc1 _ _ r2
                have r3 := hc2 _ _ r1
                have r4 := hc2 _ _ r2
                rw [hx] at p1 p2 r3 r4
                rw [← Nat.add_assoc] at p2 r4
                simp only at p1 p2 r3 r4
                obtain ⟨b3, o3, rfl, hc3⟩ := hw.rd.at (k := i) (by rw [strs_len]; omega)
                have u1 := hc3 _ _ (strs_at ws i hi)
                have u2 := hc3 _ _ (strs_at ws j hj)
                have hwi := Aside.mk (fun W => hWH.out ws[i] (List.getElem_mem hi) W)
                have hwj := Aside.mk (fun W => hWH.out ws[j] (List.getElem_mem hj) W)
                rw [← hlo, ← hhi] at hwj
                clear hlo hhi hc1 hc2 hc3 r1 r2 hx
                generalize ws[i] = x1 at *
                generalize ws[j] = y1 at *
                generalize wLo s z T x1 = xl at *
                generalize wHi s z T x1 = xh at *
                have zW := hW.size
                go_wp2_with fail
                refine wp_region_keep (by kernel_rfl) (by kernel_rfl) ?_
                repeat
                  first
                    | (apply QuietL.run
                       focus go_simp
                       focus
                         intro w2 hk
                         have p1' := hk.cell p1
                         have p2' := hk.cell p2
                         have r3' := hk.cell r3
                         have r4' := hk.cell r4
                         apply QAt.mk
                         go_simp
                         first
                           | done
                           | exact rfl
                       simp only [Act.put, List.setIfInBounds_toArray, List.set_cons_succ, List.set_cons_zero])
                    | (apply QuietL.skip
                       focus (first | (go_simp; done) | (simp only [undef]; go_simp))
                       simp only [Act.put, List.setIfInBounds_toArray, List.set_cons_succ, List.set_cons_zero])
                apply QuietL.nil
                intro w2 hk
                have p1' := hk.cell p1
                have p2' := hk.cell p2
                have r3' := hk.cell r3
                have r4' := hk.cell r4
                replace hX := hX.keep hk
                replace hw := hw.keep hk
                replace hp1 := hp1.keep hk
                replace hp2 := hp2.keep hk
                replace hW := hW.trans hk
                have q1 := r3'
                have q2 := r4'
                replace u1 := hk.cell u1
                replace u2 := hk.cell u2
                clear hk p1 p2 r3 r4 p1' p2' r3' r4'
                generalize w2 = wa at *
                have zX := hX.lt
                have zW := hW.size
                go_wp2_with fail
                apply wp_region_late 14 12 [Fx _, Fx _, Fx _, Fx _, Fx _, Fx _, Fx _, Fx _, Fx _, Fx _, Fx _, Fx _, Fx _] (Al (wa.heap.size) #[.int .u64 0, .int .u64 0] 50) (Al (wa.heap.size) #[.int .u64 (U xl), .int .u64 (U xh)] 50) (by kernel_rfl) (by kernel_rfl) rfl (by simp) ⟨Fx.free _, Fx.free _, Fx.free _, Fx.free _, Fx.free _, Fx.free _, Fx.free _, Fx.free _, Fx.free _, Fx.free _, Fx.free _, Fx.free _, Fx.free _, trivial⟩ (Al.mono _ _ _) (Al.mono _ _ _) ?st16 ?so16 ?la16 ?tl16
                case st16 =>
                  simp only [List.take_succ_cons, List.take_zero, List.drop_succ_cons, List.drop_zero, putAll, Act.put, List.setIfInBounds_toArray, List.set_cons_succ, List.set_cons_zero, Nat.zero_add, Nat.reduceAdd]
                  simp only [List.cons_append, List.nil_append]
                  refine steps_cons ?_ (steps_cons ?_ (steps_cons ?_ (steps_cons ?_ (steps_cons ?_ (steps_cons ?_ (steps_cons ?_ (steps_cons ?_ (steps_cons ?_ (steps_cons ?_ (steps_cons ?_ (steps_cons ?_ (steps_cons ?_ (steps_cons ?_ steps_nil)))))))))))))
                  all_goals
                    intro v w2 hk hd
                    obtain ⟨hX_0, hX_1, hX_2, hX_3, hX_4, hX_5, hX_6⟩ := (hX.keep hk).three
                    have q1' := hk.cell q1
                    have u1' := hk.cell u1
                    have hkz := hk.size
                    simp [DepsOf, factAt, Fx, Region.binds] at hd
                    simp only [factAt, List.getD_cons_zero, List.getD_cons_succ]
                    refine Gives.mk ?_
                    go_simp
                    first | exact ⟨Keep.refl _, Fx.self _ _⟩ | exact ⟨(Keep.refl _).alloc _, _, rfl, Bx.new _ _ _, by first | omega | (simp; omega)⟩ | (go_at_call 34; exact gives_fx (hwi.out _))
                case so16 =>
                  intro v w2 hk hd o ho
                  obtain ⟨hX_0, hX_1, hX_2, hX_3, hX_4, hX_5, hX_6⟩ := (hX.keep hk).three
                  have q1' := hk.cell q1
                  have u1' := hk.cell u1
                  have hkz := hk.size
                  have v_0 := hd 0 (by decide) (by decide)
                  have v_1 := hd 1 (by decide) (by decide)
                  have v_2 := hd 2 (by decide) (by decide)
                  have v_3 := hd 3 (by decide) (by decide)
                  have v_4 := hd 4 (by decide) (by decide)
                  have v_5 := hd 5 (by decide) (by decide)
                  have v_6 := hd 6 (by decide) (by decide)
                  have v_7 := hd 7 (by decide) (by decide)
                  have v_8 := hd 8 (by decide) (by decide)
                  have v_9 := hd 9 (by decide) (by decide)
                  have v_10 := hd 10 (by decide) (by decide)
                  have v_11 := hd 11 (by decide) (by decide)
                  simp only [List.cons_append, List.nil_append, factAt, List.getD_cons_zero, List.getD_cons_succ, Fx] at v_0 v_1 v_2 v_3 v_4 v_5 v_6 v_7 v_8 v_9 v_10 v_11
                  obtain ⟨g, v_13, hG, hg⟩ := hd 13 (by decide) (by decide)
                  obtain ⟨hG_0, hG_1, hG_2, hG_3, hG_4⟩ := hG.two
                  obtain rfl := Option.some.inj ho
                  simp only [List.take_succ_cons, List.take_zero, List.drop_succ_cons, List.drop_zero, putAll, Act.put, List.setIfInBounds_toArray, List.set_cons_succ, List.set_cons_zero, Nat.zero_add, Nat.reduceAdd]
                  refine Gives.mk ?_
                  go_simp
                  exact ⟨(by ((repeat (first | (with_reducible assumption) | ((with_reducible refine Keep.setCell ?_ ?_ _); rotate_left; focus (first | omega | (simp; done) | (simp; omega))) | (with_reducible refine Keep.alloc ?_ _) | (with_reducible refine Keep.drewN ?_ _) | (with_reducible refine Keep.drew ?_) | (with_reducible exact Keep.refl _) | refine Keep.trans ?_ (by with_reducible assumption) | exact Keep.refl _ | assumption)))), g, (by first | rfl | assumption), ((hG).set _).set _, hg⟩
                case la16 =>
                  intro v w2 hk hd o ho
                  obtain ⟨hX_0, hX_1, hX_2, hX_3, hX_4, hX_5, hX_6⟩ := (hX.keep hk).three
                  have q1' := hk.cell q1
                  have u1' := hk.cell u1
                  have hkz := hk.size
                  have v_0 := hd 0 (by decide) (by decide)
                  have v_1 := hd 1 (by decide) (by decide)
                  have v_2 := hd 2 (by decide) (by decide)
                  have v_3 := hd 3 (by decide) (by decide)
                  have v_4 := hd 4 (by decide) (by decide)
                  have v_5 := hd 5 (by decide) (by decide)
                  have v_6 := hd 6 (by decide) (by decide)
                  have v_7 := hd 7 (by decide) (by decide)
                  have v_8 := hd 8 (by decide) (by decide)
                  have v_9 := hd 9 (by decide) (by decide)
                  have v_10 := hd 10 (by decide) (by decide)
                  have v_11 := hd 11 (by decide) (by decide)
                  simp only [List.cons_append, List.nil_append, factAt, List.getD_cons_zero, List.getD_cons_succ, Fx] at v_0 v_1 v_2 v_3 v_4 v_5 v_6 v_7 v_8 v_9 v_10 v_11
                  obtain ⟨g, v_13, hG, hg⟩ := hd 13 (by decide) (by decide)
                  obtain ⟨hG_0, hG_1, hG_2, hG_3, hG_4⟩ := hG.two
                  obtain rfl := Option.some.inj ho
                  simp only [List.take_succ_cons, List.take_zero, List.drop_succ_cons, List.drop_zero, putAll, Act.put, List.setIfInBounds_toArray, List.set_cons_succ, List.set_cons_zero, Nat.zero_add, Nat.reduceAdd]
                  refine Gives.mk ?_
                  go_simp
                  exact ⟨Keep.refl _, rfl⟩
                simp only [List.take_succ_cons, List.take_zero, List.drop_succ_cons, List.drop_zero, putAll, Act.put, List.setIfInBounds_toArray, List.set_cons_succ, List.set_cons_zero, Nat.zero_add, Nat.reduceAdd]
                simp only [List.cons_append, List.nil_append]
                intro v w2 hk hh
                obtain ⟨hX_0, hX_1, hX_2, hX_3, hX_4, hX_5, hX_6⟩ := (hX.keep hk).three
                have q1' := hk.cell q1
                have u1' := hk.cell u1
                have hkz := hk.size
                simp only [Held, factAt, List.getD_cons_zero, List.getD_cons_succ, Fx, true_and] at hh
                obtain ⟨⟨⟨⟨⟨⟨⟨⟨⟨⟨⟨⟨⟨v_0, v_1⟩, v_2⟩, v_3⟩, v_4⟩, v_5⟩, v_6⟩, v_7⟩, v_8⟩, v_9⟩, v_10⟩, v_11⟩, v_12⟩, g, v_13, hG, hg⟩ := hh
                obtain ⟨hG_0, hG_1, hG_2, hG_3, hG_4⟩ := hG.two
                simp only [v_0, v_1, v_2, v_3, v_4, v_5, v_6, v_7, v_8, v_9, v_10, v_11, v_12, v_13]
                replace hX := hX.keep hk
                replace hw := hw.keep hk
                replace hp1 := hp1.keep hk
                replace hp2 := hp2.keep hk
                replace hW := hW.trans hk
                replace q1 := hk.cell q1
                replace q2 := hk.cell q2
                replace u2 := hk.cell u2
                clear hk hX_0 hX_1 hX_2 hX_3 hX_4 hX_5 hX_6 q1' u1' u1 hkz
                generalize w2 = wb at *
                generalize g = g1 at *
                have hD1 := hG
                clear hG hg hG_0 hG_1 hG_2 hG_3 hG_4 v_0 v_1 v_2 v_3 v_4 v_5 v_6 v_7 v_8 v_9 v_10 v_11 v_12 v_13 hwi
                have zg := hD1.lt
                have zX := hX.lt
                have zW := hW.size
                go_wp2_with fail
                apply wp_region_late 14 12 [Fx _, Fx _, Fx _, Fx _, Fx _, Fx _, Fx _, Fx _, Fx _, Fx _, Fx _, Fx _, Fx _] (Al (wb.heap.size) #[.int .u64 0, .int .u64 0] 50) (Al (wb.heap.size) #[.int .u64 (U xl), .int .u64 (U xh)] 50) (by kernel_rfl) (by kernel_rfl) rfl (by simp) ⟨Fx.free _, Fx.free _, Fx.free _, Fx.free _, Fx.free _, Fx.free _, Fx.free _, Fx.free _, Fx.free _, Fx.free _, Fx.free _, Fx.free _, Fx.free _, trivial⟩ (Al.mono _ _ _) (Al.mono _ _ _) ?st17 ?so17 ?la17 ?tl17
                case st17 =>
                  simp only [List.take_succ_cons, List.take_zero, List.drop_succ_cons, List.drop_zero, putAll, Act.put, List.setIfInBounds_toArray, List.set_cons_succ, List.set_cons_zero, Nat.zero_add, Nat.reduceAdd]
                  simp only [List.cons_append, List.nil_append]
                  refine steps_cons ?_ (steps_cons ?_ (steps_cons ?_ (steps_cons ?_ (steps_cons ?_ (steps_cons ?_ (steps_cons ?_ (steps_cons ?_ (steps_cons ?_ (steps_cons ?_ (steps_cons ?_ (steps_cons ?_ (steps_cons ?_ (steps_cons ?_ steps_nil)))))))))))))
                  all_goals
                    intro v w2 hk hd
                    obtain ⟨hX_0, hX_1, hX_2, hX_3, hX_4, hX_5, hX_6⟩ := (hX.keep hk).three
                    have q2' := hk.cell q2
                    have u2' := hk.cell u2
                    have hkz := hk.size
                    simp [DepsOf, factAt, Fx, Region.binds] at hd
                    simp only [factAt, List.getD_cons_zero, List.getD_cons_succ]
                    refine Gives.mk ?_
                    go_simp
                    first | exact ⟨Keep.refl _, Fx.self _ _⟩ | exact ⟨(Keep.refl _).alloc _, _, rfl, Bx.new _ _ _, by first | omega | (simp; omega)⟩ | (go_at_call 34; exact gives_fx (hwj.out _))
                case so17 =>
                  intro v w2 hk hd o ho
                  obtain ⟨hX_0, hX_1, hX_2, hX_3, hX_4, hX_5, hX_6⟩ := (hX.keep hk).three
                  have q2' := hk.cell q2
                  have u2' := hk.cell u2
                  have hkz := hk.size
                  have v_0 := hd 0 (by decide) (by decide)
                  have v_1 := hd 1 (by decide) (by decide)
                  have v_2 := hd 2 (by decide) (by decide)
                  have v_3 := hd 3 (by decide) (by decide)
                  have v_4 := hd 4 (by decide) (by decide)
                  have v_5 := hd 5 (by decide) (by decide)
                  have v_6 := hd 6 (by decide) (by decide)
                  have v_7 := hd 7 (by decide) (by decide)
                  have v_8 := hd 8 (by decide) (by decide)
                  have v_9 := hd 9 (by decide) (by decide)
                  have v_10 := hd 10 (by decide) (by decide)
                  have v_11 := hd 11 (by decide) (by decide)
                  simp only [List.cons_append, List.nil_append, factAt, List.getD_cons_zero, List.getD_cons_succ, Fx] at v_0 v_1 v_2 v_3 v_4 v_5 v_6 v_7 v_8 v_9 v_10 v_11
                  obtain ⟨g, v_13, hG, hg⟩ := hd 13 (by decide) (by decide)
                  obtain ⟨hG_0, hG_1, hG_2, hG_3, hG_4⟩ := hG.two
                  obtain rfl := Option.some.inj ho
                  simp only [List.take_succ_cons, List.take_zero, List.drop_succ_cons, List.drop_zero, putAll, Act.put, List.setIfInBounds_toArray, List.set_cons_succ, List.set_cons_zero, Nat.zero_add, Nat.reduceAdd]
                  refine Gives.mk ?_
                  go_simp
                  exact ⟨(by ((repeat (first | (with_reducible assumption) | ((with_reducible refine Keep.setCell ?_ ?_ _); rotate_left; focus (first | omega | (simp; done) | (simp; omega))) | (with_reducible refine Keep.alloc ?_ _) | (with_reducible refine Keep.drewN ?_ _) | (with_reducible refine Keep.drew ?_) | (with_reducible exact Keep.refl _) | refine Keep.trans ?_ (by with_reducible assumption) | exact Keep.refl _ | assumption)))), g, (by first | rfl | assumption), ((hG).set _).set _, hg⟩
                case la17 =>
                  intro v w2 hk hd o ho
                  obtain ⟨hX_0, hX_1, hX_2, hX_3, hX_4, hX_5, hX_6⟩ := (hX.keep hk).three
                  have q2' := hk.cell q2
                  have u2' := hk.cell u2
                  have hkz := hk.size
                  have v_0 := hd 0 (by decide) (by decide)
                  have v_1 := hd 1 (by decide) (by decide)
                  have v_2 := hd 2 (by decide) (by decide)
                  have v_3 := hd 3 (by decide) (by decide)
                  have v_4 := hd 4 (by decide) (by decide)
                  have v_5 := hd 5 (by decide) (by decide)
                  have v_6 := hd 6 (by decide) (by decide)
                  have v_7 := hd 7 (by decide) (by decide)
                  have v_8 := hd 8 (by decide) (by decide)
                  have v_9 := hd 9 (by decide) (by decide)
                  have v_10 := hd 10 (by decide) (by decide)
                  have v_11 := hd 11 (by decide) (by decide)
                  simp only [List.cons_append, List.nil_append, factAt, List.getD_cons_zero, List.getD_cons_succ, Fx] at v_0 v_1 v_2 v_3 v_4 v_5 v_6 v_7 v_8 v_9 v_10 v_11
                  obtain ⟨g, v_13, hG, hg⟩ := hd 13 (by decide) (by decide)
                  obtain ⟨hG_0, hG_1, hG_2, hG_3, hG_4⟩ := hG.two
                  obtain rfl := Option.some.inj ho
                  simp only [List.take_succ_cons, List.take_zero, List.drop_succ_cons, List.drop_zero, putAll, Act.put, List.setIfInBounds_toArray, List.set_cons_succ, List.set_cons_zero, Nat.zero_add, Nat.reduceAdd]
                  refine Gives.mk ?_
                  go_simp
                  exact ⟨Keep.refl _, rfl⟩
                simp only [List.take_succ_cons, List.take_zero, List.drop_succ_cons, List.drop_zero, putAll, Act.put, List.setIfInBounds_toArray, List.set_cons_succ, List.set_cons_zero, Nat.zero_add, Nat.reduceAdd]
                simp only [List.cons_append, List.nil_append]
                intro v w2 hk hh
                obtain ⟨hX_0, hX_1, hX_2, hX_3, hX_4, hX_5, hX_6⟩ := (hX.keep hk).three
                have q2' := hk.cell q2
                have u2' := hk.cell u2
                have hkz := hk.size
                simp only [Held, factAt, List.getD_cons_zero, List.getD_cons_succ, Fx, true_and] at hh
                obtain ⟨⟨⟨⟨⟨⟨⟨⟨⟨⟨⟨⟨⟨v_0, v_1⟩, v_2⟩, v_3⟩, v_4⟩, v_5⟩, v_6⟩, v_7⟩, v_8⟩, v_9⟩, v_10⟩, v_11⟩, v_12⟩, g, v_13, hG, hg⟩ := hh
                obtain ⟨hG_0, hG_1, hG_2, hG_3, hG_4⟩ := hG.two
                simp only [v_0, v_1, v_2, v_3, v_4, v_5, v_6, v_7, v_8, v_9, v_10, v_11, v_12, v_13]
                replace hX := hX.keep hk
                replace hw := hw.keep hk
                replace hp1 := hp1.keep hk
                replace hp2 := hp2.keep hk
                replace hW := hW.trans hk
                replace hD1 := hD1.keep hk
                replace q1 := hk.cell q1
                replace q2 := hk.cell q2
                clear hk hX_0 hX_1 hX_2 hX_3 hX_4 hX_5 hX_6 q2' u2' u2 hkz
                generalize w2 = we at *
                generalize g = g2 at *
                have hD2 := hG
                clear hG hg hG_0 hG_1 hG_2 hG_3 hG_4 v_0 v_1 v_2 v_3 v_4 v_5 v_6 v_7 v_8 v_9 v_10 v_11 v_12 v_13 hwj
                go_wp2_with fail
                refine wp_region_keep (by kernel_rfl) (by kernel_rfl) ?_
                repeat
                  first
                    | (apply QuietL.run
                       focus go_simp
                       focus
                         intro w2 hk
                         have q1' := hk.cell q1
                         have q2' := hk.cell q2
                         obtain ⟨hD1_0, hD1_1, hD1_2, hD1_3, hD1_4⟩ := (hD1.keep hk).two
                         obtain ⟨hD2_0, hD2_1, hD2_2, hD2_3, hD2_4⟩ := (hD2.keep hk).two
                         apply QAt.mk
                         go_simp
                         first
                           | done
                           | exact rfl
                       simp only [Act.put, List.setIfInBounds_toArray, List.set_cons_succ, List.set_cons_zero])
                    | (apply QuietL.skip
                       focus (first | (go_simp; done) | (simp only [undef]; go_simp))
                       simp only [Act.put, List.setIfInBounds_toArray, List.set_cons_succ, List.set_cons_zero])
                apply QuietL.nil
                intro w2 hk
                have q1' := hk.cell q1
                have q2' := hk.cell q2
                have hD1 := hD1.keep hk
                obtain ⟨hD1_0, hD1_1, hD1_2, hD1_3, hD1_4⟩ := hD1.two
                have hD2 := hD2.keep hk
                obtain ⟨hD2_0, hD2_1, hD2_2, hD2_3, hD2_4⟩ := hD2.two
                replace hX := hX.keep hk
                replace hw := hw.keep hk
                replace hp1 := hp1.keep hk
                replace hp2 := hp2.keep hk
                replace hW := hW.trans hk
                clear hk hD1 hD2 q1 q2
                go_wp2
                go_roundg (P.length - (k + 1))
                case measure => omega
                case rel => exact ⟨k + 1, by omega, by go_num, hX, hw, hp1, hp2, hW⟩
              · have hkl : k = P.length := by omega
                subst hkl
                go_wp2
                go_ret; exact ⟨rfl, (by ((repeat (first | (with_reducible assumption) | ((with_reducible refine Keep.setCell ?_ ?_ _); rotate_left; focus (first | omega | (simp; done) | (simp; omega))) | (with_reducible refine Keep.alloc ?_ _) | (with_reducible refine Keep.drewN ?_ _) | (with_reducible refine Keep.drew ?_) | (with_reducible exact Keep.refl _) | refine Keep.trans ?_ (by with_reducible assumption) | exact Keep.refl _ | assumption))))⟩
end Go.Proofs.YtbbnhbfofdhnbaaDoor

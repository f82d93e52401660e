/- The law of what a query drops. -/
import Derived.Test.YtpmilcfppcmodaaDoorAO
import Derived.Test.YtpmilcfppcmodaaDoorMB
set_option linter.unusedVariables false
set_option linter.unusedSimpArgs false
namespace Go.Proofs.YtpmilcfppcmodaaDoor
open Go.RowKit Go.Shelf
set_option maxHeartbeats 4000000
set_option maxRecDepth 20000
theorem aoL_len (l : List Cd) (q : Qy) : (aoL l q).length ≤ 80 := by
  unfold aoL
  cases h1 : dkB l
  · simp
  · cases h2 : queryB q.a q.b q.c q.d
    · simp
    · have := anN_len l [q] l.length
      have := dkB_80 h1
      simp [ansL]; omega
theorem laws_FnExactAnswerOf (A : Option Addr) (l : List Cd) (c : Nat) (qa qb qc qd : Wd) (w : World) (hl : l.length ≤ 9223372036854775807 ∧ CSz l ∧ Rd w A (cds l)) :
    Calls Tryd.prog 10 #[.slice A l.length c, .agg #[.int .u64 (U qa), .int .u64 (U qb), .int .u64 (U qc), .int .u64 (U qd)]] w fun e w' => e = .returned (.bool true) ∧ Keep w w' := by
  obtain ⟨hl1, hlz, hR⟩ := hl
  by_cases hn : (1048576 : Int) < (l.length + cSum l : Nat)
  · have e1 := szD_gt hn
    go_enter Tryd.func10, Tryd.ntmps10
    (go_wp2_with fail); (go_at_call 26); (refine (laws_szCardS _ _ _ 1048576 _ (by decide) hl1 hlz (hR.keep ((Keep.refl _).alloc _))).mono ?_); rintro e w1 ⟨rfl, hk1⟩
    rw [e1]
    go_wp2
    go_ret; exact ⟨rfl, (by ((repeat (first | (with_reducible assumption) | ((with_reducible refine Keep.setCell ?_ ?_ _); rotate_left; focus (first | omega | (simp; done) | (simp; omega))) | (with_reducible refine Keep.alloc ?_ _) | (with_reducible refine Keep.drewN ?_ _) | (with_reducible refine Keep.drew ?_) | (with_reducible exact Keep.refl _) | refine Keep.trans ?_ (by with_reducible assumption) | exact Keep.refl _ | assumption))))⟩
  · obtain ⟨left, hleft⟩ : ∃ x, szD 1048576 l = x := ⟨_, rfl⟩
    have e1 : left = 1048576 - (l.length + cSum l : Nat) := by rw [← hleft]; exact szD_le hn
    have hl0 : ¬ left < 0 := by omega
    have hln : l.length ≤ 1048576 := by omega
    have hpl := aoL_len l ⟨qa, qb, qc, qd⟩
    have hI := Aside.mk (fun A c W hc hr => impl_AnswerOf A l c ⟨qa, qb, qc, qd⟩ W hl1 hc hlz hr)
    have hJ := Aside.mk (fun A c W hr => spec_AnswerOf A l c ⟨qa, qb, qc, qd⟩ W hl1 hlz hr)
    generalize aoL l ⟨qa, qb, qc, qd⟩ = L at *
    generalize aoE l ⟨qa, qb, qc, qd⟩ = E at *
    have hpn : L.length ≤ 1048576 := by omega
    clear hn e1 hpl
    go_enter Tryd.func10, Tryd.ntmps10
    (go_wp2_with fail); (go_at_call 26); (refine (laws_szCardS _ _ _ 1048576 _ (by decide) hl1 hlz (hR.keep ((Keep.refl _).alloc _))).mono ?_); rintro e w1 ⟨rfl, hk1⟩
    rw [hleft]
    have hQ : Bx w1 w.heap.size #[.int .u64 (U qa), .int .u64 (U qb), .int .u64 (U qc), .int .u64 (U qd)] 66 := (Bx.new _ _ _).keep hk1
    have hW : Keep w w1 := (by ((repeat (first | (with_reducible assumption) | ((with_reducible refine Keep.setCell ?_ ?_ _); rotate_left; focus (first | omega | (simp; done) | (simp; omega))) | (with_reducible refine Keep.alloc ?_ _) | (with_reducible refine Keep.drewN ?_ _) | (with_reducible refine Keep.drew ?_) | (with_reducible exact Keep.refl _) | refine Keep.trans ?_ (by with_reducible assumption) | exact Keep.refl _ | assumption))))
    have hR1 := hR.keep hW
    clear hleft hk1
    go_wp2_with fail
    apply wp_region_mono 10 [Fx _, Osl w1.heap.size 108 3 l.length (cds l), Fx _, Fx _, TupI w1.heap.size 2 1 L.length (ints L) E, TupI w1.heap.size 2 1 L.length (ints L) E, Orow w1.heap.size 2 1 L.length (ints L), Fx _, Orow w1.heap.size 2 1 L.length (ints L), Fx _] (by kernel_rfl) (by kernel_rfl) (mono_of ⟨Fx.mono _, Osl.mono, Fx.mono _, Fx.mono _, TupI.mono, TupI.mono, Orow.mono, Fx.mono _, Orow.mono, Fx.mono _, trivial⟩) ?st3 ?tl3
    case st3 =>
      simp only [List.take_succ_cons, List.take_zero, List.drop_succ_cons, List.drop_zero, putAll, Act.put, List.setIfInBounds_toArray, List.set_cons_succ, List.set_cons_zero, Nat.zero_add, Nat.reduceAdd]
      refine steps_cons ?_ (steps_cons ?_ (steps_cons ?_ (steps_cons ?_ (steps_cons ?_ (steps_cons ?_ (steps_cons ?_ (steps_cons ?_ (steps_cons ?_ (steps_cons ?_ steps_nil)))))))))
      all_goals
        intro v w2 hk hd
        obtain ⟨hQ_0, hQ_1, hQ_2, hQ_3, hQ_4, hQ_5, hQ_6, hQ_7, hQ_8⟩ := (hQ.keep hk).four
        have hkz := hk.size
        simp [DepsOf, factAt, Fx, Region.binds] at hd
        simp only [factAt, List.getD_cons_zero, List.getD_cons_succ]
        refine Gives.mk ?_
        go_simp
        first | exact ⟨Keep.refl _, Fx.self _ _⟩ | exact ⟨(Keep.refl _).alloc _, _, rfl, Bx.new _ _ _, by first | omega | (simp; omega)⟩ | (exact Keep.refl _) | (go_at_call 46; exact gives_fx (laws_toQuery _ _ _ _ _)) | ((go_at_call 28; exact gives_osl (laws_toCardS _ _ _ _ hln (hR1.keep hk)) (by omega))) | ((obtain ⟨⟨g, e1, ho⟩, e3⟩ := hd; rw [e1]; (go_at_call 18); exact gives_tupI (hJ.out _ _ _ (own_rdc ho)) (by omega))) | ((obtain ⟨v0, e, ho⟩ := hd; simp only [e]; go_simp; exact ⟨Keep.refl _, ho⟩)) | ((obtain ⟨v0, e, ho⟩ := hd; simp only [e]; go_simp; exact ⟨Keep.refl _, Fx.self _ _⟩))
    simp only [List.take_succ_cons, List.take_zero, List.drop_succ_cons, List.drop_zero, putAll, Act.put, List.setIfInBounds_toArray, List.set_cons_succ, List.set_cons_zero, Nat.zero_add, Nat.reduceAdd]
    intro v w2 hk hh
    obtain ⟨hQ_0, hQ_1, hQ_2, hQ_3, hQ_4, hQ_5, hQ_6, hQ_7, hQ_8⟩ := (hQ.keep hk).four
    have hkz := hk.size
    simp only [Held, factAt, List.getD_cons_zero, List.getD_cons_succ, Fx, true_and] at hh
    obtain ⟨⟨⟨⟨⟨⟨⟨⟨⟨v_0, hO1⟩, v_2⟩, v_3⟩, hO4⟩, hO5⟩, hO6⟩, v_7⟩, hO8⟩, v_9⟩ := hh
    simp only [v_0, v_2, v_3, v_7, v_9]
    replace hQ := hQ.keep hk
    have zQ := hQ.lt
    replace hW := hW.trans hk
    have hw : Own w2 w1.heap.size w2.heap.size 2 1 (v 8) L.length (ints L) := Own.new hO8
    generalize v 8 = v8 at *
    generalize v 5 = v5 at *
    generalize v 1 = v1 at *
    generalize v 4 = v4 at *
    generalize v 6 = v6 at *
    obtain ⟨A3, c3, rfl⟩ := hw.form
    clear hO1 hO4 hO5 hO6 hO8 hk hkz hR1 v_0 v_2 v_3 v_7 v_9 hQ_0 hQ_1 hQ_2 hQ_3 hQ_4 hQ_5 hQ_6 hQ_7 hQ_8
    have z3 := hW.size
    have s3 := hW
    (go_wp2_with fail); (go_at_call 28); (refine (laws_toCardS _ _ _ _ hln (hR.keep hW)).mono ?_); rintro e w4 ⟨g4, rfl, ho4, hk⟩
    have kk : Keep w2 w4 := (by ((repeat (first | (with_reducible assumption) | ((with_reducible refine Keep.setCell ?_ ?_ _); rotate_left; focus (first | omega | (simp; done) | (simp; omega))) | (with_reducible refine Keep.alloc ?_ _) | (with_reducible refine Keep.drewN ?_ _) | (with_reducible refine Keep.drew ?_) | (with_reducible exact Keep.refl _) | refine Keep.trans ?_ (by with_reducible assumption) | exact Keep.refl _ | assumption))))
    replace hw := hw.keep kk
    replace hQ := hQ.keep kk
    replace hW := hW.trans kk
    clear hk kk
    have hz34 : w2.heap.size ≤ w4.heap.size := by have := ho4.lt g4 rfl; omega
    clear s3
    have hx := Own.new ho4
    clear ho4
    have z4 := hW.size
    have hQs := hQ.four
    (go_wp2_with fail); (go_at_call 46); (refine (laws_toQuery _ _ _ _ _).mono ?_); rintro e x4 ⟨rfl, hk⟩
    have kk : Keep w4 x4 := (by ((repeat (first | (with_reducible assumption) | ((with_reducible refine Keep.setCell ?_ ?_ _); rotate_left; focus (first | omega | (simp; done) | (simp; omega))) | (with_reducible refine Keep.alloc ?_ _) | (with_reducible refine Keep.drewN ?_ _) | (with_reducible refine Keep.drew ?_) | (with_reducible exact Keep.refl _) | refine Keep.trans ?_ (by with_reducible assumption) | exact Keep.refl _ | assumption))))
    replace hw := hw.keep kk
    replace hx := hx.keep kk
    replace hQ := hQ.keep kk
    replace hW := hW.trans kk
    have ks := kk.size
    clear hk kk
    have hz44 : w4.heap.size ≤ x4.heap.size := ks
    clear hQs ks
    (go_wp2_with fail); (go_at_call 22); (refine (hI.out _ _ _ (Nat.le_refl _) hx.rd).mono ?_); rintro e w5 ⟨v5, rfl, o5, hk⟩
    have kk : Keep x4 w5 := (by ((repeat (first | (with_reducible assumption) | ((with_reducible refine Keep.setCell ?_ ?_ _); rotate_left; focus (first | omega | (simp; done) | (simp; omega))) | (with_reducible refine Keep.alloc ?_ _) | (with_reducible refine Keep.drewN ?_ _) | (with_reducible refine Keep.drew ?_) | (with_reducible exact Keep.refl _) | refine Keep.trans ?_ (by with_reducible assumption) | exact Keep.refl _ | assumption))))
    replace hw := hw.keep kk
    replace hx := hx.keep kk
    replace hQ := hQ.keep kk
    replace hW := hW.trans kk
    clear hk kk
    have hg := Own.new o5
    obtain ⟨A5, c5, rfl⟩ := hg.form
    clear o5
    have zx4 := hW.size
    (go_wp2_with fail); (go_at_call 47); (refine (laws_eqInt64S _ _ _ _ _ _ hpn hg.rd hw.rd).mono ?_); rintro e w6 ⟨rfl, hk⟩
    have kk : Keep w5 w6 := (by ((repeat (first | (with_reducible assumption) | ((with_reducible refine Keep.setCell ?_ ?_ _); rotate_left; focus (first | omega | (simp; done) | (simp; omega))) | (with_reducible refine Keep.alloc ?_ _) | (with_reducible refine Keep.drewN ?_ _) | (with_reducible refine Keep.drew ?_) | (with_reducible exact Keep.refl _) | refine Keep.trans ?_ (by with_reducible assumption) | exact Keep.refl _ | assumption))))
    replace hw := hw.keep kk
    replace hx := hx.keep kk
    replace hg := hg.keep kk
    replace hQ := hQ.keep kk
    replace hW := hW.trans kk
    clear hk kk
    (go_wp2_with fail); (go_at_call 28); (refine (laws_toCardS _ _ _ _ hln (hR.keep hW)).mono ?_); rintro e w7 ⟨g7, rfl, ho7, hk⟩
    have kk : Keep w6 w7 := (by ((repeat (first | (with_reducible assumption) | ((with_reducible refine Keep.setCell ?_ ?_ _); rotate_left; focus (first | omega | (simp; done) | (simp; omega))) | (with_reducible refine Keep.alloc ?_ _) | (with_reducible refine Keep.drewN ?_ _) | (with_reducible refine Keep.drew ?_) | (with_reducible exact Keep.refl _) | refine Keep.trans ?_ (by with_reducible assumption) | exact Keep.refl _ | assumption))))
    replace hw := hw.keep kk
    replace hx := hx.keep kk
    replace hg := hg.keep kk
    replace hQ := hQ.keep kk
    replace hW := hW.trans kk
    clear hk kk
    (go_wp2_with fail); (go_at_call 30); (refine (laws_eqCardS _ _ _ _ _ _ hln hx.rd (own_rdc ho7)).mono ?_); rintro e w8 ⟨rfl, hk⟩
    have kk : Keep w7 w8 := (by ((repeat (first | (with_reducible assumption) | ((with_reducible refine Keep.setCell ?_ ?_ _); rotate_left; focus (first | omega | (simp; done) | (simp; omega))) | (with_reducible refine Keep.alloc ?_ _) | (with_reducible refine Keep.drewN ?_ _) | (with_reducible refine Keep.drew ?_) | (with_reducible exact Keep.refl _) | refine Keep.trans ?_ (by with_reducible assumption) | exact Keep.refl _ | assumption))))
    replace hw := hw.keep kk
    replace hx := hx.keep kk
    replace hg := hg.keep kk
    replace hQ := hQ.keep kk
    replace hW := hW.trans kk
    clear hk kk
    clear ho7
    (go_wp2_with fail); (go_at_call 40); (refine (laws_markCardS _ _ _ _ _ 1 _ hln (by decide) (by decide) hx.out).mono ?_); rintro e w9 ⟨rfl, om, hgr⟩
    replace hw := hw.other hgr (fun k hk => .inr (hx.lt k hk).1)
    replace hg := hg.other hgr (fun k hk => .inl (Nat.lt_of_lt_of_le (hx.lt k hk).2 hz44))
    replace hQ := hQ.grownBy hgr (fun h => by have := hx.lt _ h.symm; omega)
    replace hW := hx.keepW hW hgr z3
    clear hx om hgr
    (go_wp2_with fail); (go_at_call 47); (refine (laws_eqInt64S _ _ _ _ _ _ hpn hg.rd hw.rd).mono ?_); rintro e w10 ⟨rfl, hk⟩
    have kk : Keep w9 w10 := (by ((repeat (first | (with_reducible assumption) | ((with_reducible refine Keep.setCell ?_ ?_ _); rotate_left; focus (first | omega | (simp; done) | (simp; omega))) | (with_reducible refine Keep.alloc ?_ _) | (with_reducible refine Keep.drewN ?_ _) | (with_reducible refine Keep.drew ?_) | (with_reducible exact Keep.refl _) | refine Keep.trans ?_ (by with_reducible assumption) | exact Keep.refl _ | assumption))))
    replace hw := hw.keep kk
    replace hg := hg.keep kk
    replace hQ := hQ.keep kk
    replace hW := hW.trans kk
    clear hk kk
    (go_wp2_with fail); (go_at_call 48); (refine (laws_markInt64B _ _ _ _ _ 1 _ hpn (by decide) (by decide) hg.out).mono ?_); rintro e w11 ⟨rfl, om, hgr⟩
    have hm := Own.mk om hg.lt
    replace hw := hw.other hgr (fun k hk => .inr (Nat.le_trans hz34 (Nat.le_trans hz44 (hg.lt k hk).1)))
    replace hQ := hQ.grownBy hgr (fun h => by have := hg.lt _ h.symm; omega)
    replace hW := hg.keepW hW hgr (Nat.le_trans z4 hz44)
    clear hg om hgr
    (go_wp2_with fail); (go_at_call 49); (refine (laws_heldInt64S _ _ _ 1 _ hpn (by decide) (by decide) hm.rd).mono ?_); rintro e w12 ⟨rfl, hk⟩
    have kk : Keep w11 w12 := (by ((repeat (first | (with_reducible assumption) | ((with_reducible refine Keep.setCell ?_ ?_ _); rotate_left; focus (first | omega | (simp; done) | (simp; omega))) | (with_reducible refine Keep.alloc ?_ _) | (with_reducible refine Keep.drewN ?_ _) | (with_reducible refine Keep.drew ?_) | (with_reducible exact Keep.refl _) | refine Keep.trans ?_ (by with_reducible assumption) | exact Keep.refl _ | assumption))))
    replace hw := hw.keep kk
    replace hm := hm.keep kk
    replace hQ := hQ.keep kk
    replace hW := hW.trans kk
    clear hk kk
    have hR1 := hR.keep hW
    clear z3 z4 zx4 hz34 hz44
    go_wp2_with fail
    apply wp_region_mono 10 [Fx _, Osl w12.heap.size 108 3 l.length (cds l), Fx _, Fx _, TupI w12.heap.size 2 1 L.length (ints L) E, TupI w12.heap.size 2 1 L.length (ints L) E, Orow w12.heap.size 2 1 L.length (ints L), Fx _, Orow w12.heap.size 2 1 L.length (ints L), Fx _] (by kernel_rfl) (by kernel_rfl) (mono_of ⟨Fx.mono _, Osl.mono, Fx.mono _, Fx.mono _, TupI.mono, TupI.mono, Orow.mono, Fx.mono _, Orow.mono, Fx.mono _, trivial⟩) ?st4 ?tl4
    case st4 =>
      simp only [List.take_succ_cons, List.take_zero, List.drop_succ_cons, List.drop_zero, putAll, Act.put, List.setIfInBounds_toArray, List.set_cons_succ, List.set_cons_zero, Nat.zero_add, Nat.reduceAdd]
      refine steps_cons ?_ (steps_cons ?_ (steps_cons ?_ (steps_cons ?_ (steps_cons ?_ (steps_cons ?_ (steps_cons ?_ (steps_cons ?_ (steps_cons ?_ (steps_cons ?_ steps_nil)))))))))
      all_goals
        intro v w2 hk hd
        obtain ⟨hQ_0, hQ_1, hQ_2, hQ_3, hQ_4, hQ_5, hQ_6, hQ_7, hQ_8⟩ := (hQ.keep hk).four
        have hkz := hk.size
        simp [DepsOf, factAt, Fx, Region.binds] at hd
        simp only [factAt, List.getD_cons_zero, List.getD_cons_succ]
        refine Gives.mk ?_
        go_simp
        first | exact ⟨Keep.refl _, Fx.self _ _⟩ | exact ⟨(Keep.refl _).alloc _, _, rfl, Bx.new _ _ _, by first | omega | (simp; omega)⟩ | (exact Keep.refl _) | (go_at_call 46; exact gives_fx (laws_toQuery _ _ _ _ _)) | ((go_at_call 28; exact gives_osl (laws_toCardS _ _ _ _ hln (hR1.keep hk)) (by omega))) | ((obtain ⟨⟨g, e1, ho⟩, e3⟩ := hd; rw [e1]; (go_at_call 22); exact gives_tupI (hI.out _ _ _ (Nat.le_refl _) (own_rdc ho)) (by omega))) | ((obtain ⟨v0, e, ho⟩ := hd; simp only [e]; go_simp; exact ⟨Keep.refl _, ho⟩)) | ((obtain ⟨v0, e, ho⟩ := hd; simp only [e]; go_simp; exact ⟨Keep.refl _, Fx.self _ _⟩))
    simp only [List.take_succ_cons, List.take_zero, List.drop_succ_cons, List.drop_zero, putAll, Act.put, List.setIfInBounds_toArray, List.set_cons_succ, List.set_cons_zero, Nat.zero_add, Nat.reduceAdd]
    intro v w2 hk hh
    obtain ⟨hQ_0, hQ_1, hQ_2, hQ_3, hQ_4, hQ_5, hQ_6, hQ_7, hQ_8⟩ := (hQ.keep hk).four
    have hkz := hk.size
    simp only [Held, factAt, List.getD_cons_zero, List.getD_cons_succ, Fx, true_and] at hh
    obtain ⟨⟨⟨⟨⟨⟨⟨⟨⟨v_0, hO1⟩, v_2⟩, v_3⟩, hO4⟩, hO5⟩, hO6⟩, v_7⟩, hO8⟩, v_9⟩ := hh
    simp only [v_0, v_2, v_3, v_7, v_9]
    replace hW := hW.trans hk
    have hg : Own w2 w12.heap.size w2.heap.size 2 1 (v 8) L.length (ints L) := Own.new hO8
    replace hw := hw.keep hk
    replace hm := hm.keep hk
    generalize v 8 = v8' at *
    generalize v 5 = v5' at *
    generalize v 1 = v1' at *
    generalize v 4 = v4' at *
    generalize v 6 = v6' at *
    obtain ⟨A14, c14, rfl⟩ := hg.form
    clear hO1 hO4 hO5 hO6 hO8 hk hkz hR1 v_0 v_2 v_3 v_7 v_9 hQ_0 hQ_1 hQ_2 hQ_3 hQ_4 hQ_5 hQ_6 hQ_7 hQ_8 hQ
    (go_wp2_with fail); (go_at_call 47); (refine (laws_eqInt64S _ _ _ _ _ _ hpn hg.rd hw.rd).mono ?_); rintro e w15 ⟨rfl, hk⟩
    have kk : Keep w2 w15 := (by ((repeat (first | (with_reducible assumption) | ((with_reducible refine Keep.setCell ?_ ?_ _); rotate_left; focus (first | omega | (simp; done) | (simp; omega))) | (with_reducible refine Keep.alloc ?_ _) | (with_reducible refine Keep.drewN ?_ _) | (with_reducible refine Keep.drew ?_) | (with_reducible exact Keep.refl _) | refine Keep.trans ?_ (by with_reducible assumption) | exact Keep.refl _ | assumption))))
    replace hm := hm.keep kk
    replace hW := hW.trans kk
    clear hk kk
    (go_wp2_with fail); (go_at_call 49); (refine (laws_heldInt64S _ _ _ 1 _ hpn (by decide) (by decide) hm.rd).mono ?_); rintro e w16 ⟨rfl, hk⟩
    have kk : Keep w15 w16 := (by ((repeat (first | (with_reducible assumption) | ((with_reducible refine Keep.setCell ?_ ?_ _); rotate_left; focus (first | omega | (simp; done) | (simp; omega))) | (with_reducible refine Keep.alloc ?_ _) | (with_reducible refine Keep.drewN ?_ _) | (with_reducible refine Keep.drew ?_) | (with_reducible exact Keep.refl _) | refine Keep.trans ?_ (by with_reducible assumption) | exact Keep.refl _ | assumption))))
    replace hW := hW.trans kk
    clear hk kk
    clear hw hg hm
    go_wp2
    go_ret; exact ⟨rfl, (by ((repeat (first | (with_reducible assumption) | ((with_reducible refine Keep.setCell ?_ ?_ _); rotate_left; focus (first | omega | (simp; done) | (simp; omega))) | (with_reducible refine Keep.alloc ?_ _) | (with_reducible refine Keep.drewN ?_ _) | (with_reducible refine Keep.drew ?_) | (with_reducible exact Keep.refl _) | refine Keep.trans ?_ (by with_reducible assumption) | exact Keep.refl _ | assumption))))⟩
end Go.Proofs.YtpmilcfppcmodaaDoor

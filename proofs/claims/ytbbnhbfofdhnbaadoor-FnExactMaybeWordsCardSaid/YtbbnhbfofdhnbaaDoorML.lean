/- Words that may be in a mask: the law. -/
import Derived.Test.YtbbnhbfofdhnbaaDoorMV
import Derived.Test.YtbbnhbfofdhnbaaDoorMSS
import Derived.Test.YtbbnhbfofdhnbaaDoorTU
import Derived.Test.YtbbnhbfofdhnbaaDoorMB
import Derived.Test.YtbbnhbfofdhnbaaDoorW16
import Derived.Test.YtbbnhbfofdhnbaaDoorW3
set_option linter.unusedVariables false
set_option linter.unusedSimpArgs false
namespace Go.Proofs.YtbbnhbfofdhnbaaDoor
open Go.RowKit
set_option maxHeartbeats 4000000
set_option maxRecDepth 20000
theorem mwL_len (s z p : Int) (a b : Wd) (T : List UInt8 → Nat) (l : List ByteArray) : (mwL s z p a b T l).length ≤ 40 := by
  rcases mwE_cases s z p b l with ⟨h0, _, _, h40⟩ | h0
  · rw [mwL_yes h0]; have := plN_len (mwAt s z T a b l) l.length; omega
  · rw [mwL_no h0]; simp
theorem laws_FnExactMaybeWords (s z p : Int) (a b : Wd) (A : Option Addr) (l : List ByteArray) (c : Nat) (w : World) (hw : I16 s ∧ I16 z ∧ I16 p) (hl : l.length ≤ 9223372036854775807 ∧ Szs l ∧ Rd w A (strs l)) :
    Calls Tryd.prog 5 #[.agg #[.int .i16 s, .int .i16 z, .int .i16 p], .agg #[.int .u64 (U a), .int .u64 (U b)], .slice A l.length c] w fun e w' => e = .returned (.bool true) ∧ Keep w w' := by
  obtain ⟨hm, hz, hR⟩ := hl
  by_cases hn : (1048576 : Int) < (l.length + szSum l : Nat)
  · have e1 := szL_gt hn
    go_enter Tryd.func5, Tryd.ntmps5
    (go_wp2_with fail); (go_at_call 8); (refine (laws_szStringS _ _ _ 1048576 _ (by decide) hm hz (hR.keep (((Keep.refl _).alloc _).alloc _))).mono ?_); rintro e w1 ⟨rfl, hk1⟩
    rw [e1]
    go_wp2
    go_ret; exact ⟨rfl, (by ((repeat (first | (with_reducible assumption) | ((with_reducible refine Keep.setCell ?_ ?_ _); rotate_left; focus (first | omega | (simp; done) | (simp; omega))) | (with_reducible refine Keep.alloc ?_ _) | (with_reducible refine Keep.drewN ?_ _) | (with_reducible refine Keep.drew ?_) | (with_reducible exact Keep.refl _) | refine Keep.trans ?_ (by with_reducible assumption) | exact Keep.refl _ | assumption))))⟩
  · have e1 := szL_le hn
    have hn' : l.length ≤ 1048576 := by omega
    obtain ⟨T, hT⟩ := exMTim s z p
    have hpl := mwL_len s z p a b T l
    have hI := Aside.mk (fun A c W h => impl_MaybeWords s z p a b A l c T W hw hm hz h hT)
    have hJ := Aside.mk (fun A c W h => spec_MaybeWords s z p a b A l c T W hw hm hz h hT)
    have hneg : ¬ ((1048576 : Int) - (l.length + szSum l : Nat) < 0) := by omega
    obtain ⟨left, hle⟩ : ∃ x, szL 1048576 l = x := ⟨_, rfl⟩
    have hl0 : ¬ left < 0 := by omega
    generalize mwL s z p a b T l = L at *
    generalize mwE s z p b l = E at *
    have hpn : L.length ≤ 1048576 := by omega
    clear hT e1 hneg hn hpl
    go_enter Tryd.func5, Tryd.ntmps5
    (go_wp2_with fail); (go_at_call 8); (refine (laws_szStringS _ _ _ 1048576 _ (by decide) hm hz (hR.keep (((Keep.refl _).alloc _).alloc _))).mono ?_); rintro e w1 ⟨rfl, hk1⟩
    rw [hle]
    have hX : Bx w1 w.heap.size #[.int .i16 s, .int .i16 z, .int .i16 p] 38 := ((Bx.new _ _ _).alloc _).keep hk1
    have hM : Bx w1 (w.heap.size + 1) #[.int .u64 (U a), .int .u64 (U b)] 48 := (Bx.new1 _ _ _ _).keep hk1
    have hW : Keep w w1 := (by ((repeat (first | (with_reducible assumption) | ((with_reducible refine Keep.setCell ?_ ?_ _); rotate_left; focus (first | omega | (simp; done) | (simp; omega))) | (with_reducible refine Keep.alloc ?_ _) | (with_reducible refine Keep.drewN ?_ _) | (with_reducible refine Keep.drew ?_) | (with_reducible exact Keep.refl _) | refine Keep.trans ?_ (by with_reducible assumption) | exact Keep.refl _ | assumption))))
    have hR1 := hR.keep hW
    clear hk1 hle hz
    go_wp2_with fail
    apply wp_region_mono 12 [Fx _, Fx _, Fx _, Fx _, Fx _, Osl w1.heap.size 9 1 l.length (strs l), TupI w1.heap.size 2 1 L.length (ints L) E, TupI w1.heap.size 2 1 L.length (ints L) E, Orow w1.heap.size 2 1 L.length (ints L), Fx _, Orow w1.heap.size 2 1 L.length (ints L), Fx _] (by kernel_rfl) (by kernel_rfl) (mono_of ⟨Fx.mono _, Fx.mono _, Fx.mono _, Fx.mono _, Fx.mono _, Osl.mono, TupI.mono, TupI.mono, Orow.mono, Fx.mono _, Orow.mono, Fx.mono _, trivial⟩) ?st13 ?tl13
    case st13 =>
      simp only [List.take_succ_cons, List.take_zero, List.drop_succ_cons, List.drop_zero, putAll, Act.put, List.setIfInBounds_toArray, List.set_cons_succ, List.set_cons_zero, Nat.zero_add, Nat.reduceAdd]
      refine steps_cons ?_ (steps_cons ?_ (steps_cons ?_ (steps_cons ?_ (steps_cons ?_ (steps_cons ?_ (steps_cons ?_ (steps_cons ?_ (steps_cons ?_ (steps_cons ?_ (steps_cons ?_ (steps_cons ?_ steps_nil)))))))))))
      all_goals
        intro v w2 hk hd
        obtain ⟨hX_0, hX_1, hX_2, hX_3, hX_4, hX_5, hX_6⟩ := (hX.keep hk).three
        obtain ⟨hM_0, hM_1, hM_2, hM_3, hM_4⟩ := (hM.keep hk).two
        have hkz := hk.size
        simp [DepsOf, factAt, Fx, Region.binds] at hd
        simp only [factAt, List.getD_cons_zero, List.getD_cons_succ]
        refine Gives.mk ?_
        go_simp
        first | exact ⟨Keep.refl _, Fx.self _ _⟩ | exact ⟨(Keep.refl _).alloc _, _, rfl, Bx.new _ _ _, by first | omega | (simp; omega)⟩ | (exact Keep.refl _) | (go_at_call 21; exact gives_fx (laws_toMix _ _ _ _)) | (go_at_call 27; exact gives_fx (laws_toMask _ _ _)) | ((go_at_call 11; exact gives_osl (laws_toStringS _ _ _ _ hn' (hR1.keep hk)) (by omega))) | ((obtain ⟨e1, e3, g, e5, ho⟩ := hd; rw [e5]; (go_at_call 26); exact gives_tupI (hJ.out _ _ _ (own_rds ho)) (by omega))) | ((obtain ⟨v0, e, ho⟩ := hd; simp only [e]; go_simp; exact ⟨Keep.refl _, ho⟩)) | ((obtain ⟨v0, e, ho⟩ := hd; simp only [e]; go_simp; exact ⟨Keep.refl _, Fx.self _ _⟩))
    simp only [List.take_succ_cons, List.take_zero, List.drop_succ_cons, List.drop_zero, putAll, Act.put, List.setIfInBounds_toArray, List.set_cons_succ, List.set_cons_zero, Nat.zero_add, Nat.reduceAdd]
    intro v w2 hk hh
    obtain ⟨hX_0, hX_1, hX_2, hX_3, hX_4, hX_5, hX_6⟩ := (hX.keep hk).three
    obtain ⟨hM_0, hM_1, hM_2, hM_3, hM_4⟩ := (hM.keep hk).two
    have hkz := hk.size
    simp only [Held, factAt, List.getD_cons_zero, List.getD_cons_succ, Fx, true_and] at hh
    obtain ⟨⟨⟨⟨⟨⟨⟨⟨⟨⟨⟨v_0, v_1⟩, v_2⟩, v_3⟩, v_4⟩, hO5⟩, hO6⟩, hO7⟩, hO8⟩, v_9⟩, hO10⟩, v_11⟩ := hh
    simp only [v_0, v_1, v_2, v_3, v_4, v_9, v_11]
    replace hX := hX.keep hk
    replace hM := hM.keep hk
    have zM := hM.lt
    replace hW := hW.trans hk
    have hw : Own w2 w1.heap.size w2.heap.size 2 1 (v 10) L.length (ints L) := Own.new hO10
    generalize v 10 = v10 at *
    generalize v 8 = v8 at *
    generalize v 7 = v7 at *
    generalize v 6 = v6 at *
    generalize v 5 = v5 at *
    obtain ⟨A3, c3, rfl⟩ := hw.form
    clear hO5 hO6 hO7 hO8 hO10 hk hkz hR1 v_0 v_1 v_2 v_3 v_4 v_9 v_11 hX_0 hX_1 hX_2 hX_3 hX_4 hX_5 hX_6 hM_0 hM_1 hM_2 hM_3 hM_4
    have z3 := hW.size
    (go_wp2_with fail); (go_at_call 11); (refine (laws_toStringS _ _ _ _ hn' (hR.keep hW)).mono ?_); rintro e w4 ⟨g4, rfl, ho4, hk⟩
    have kk : Keep w2 w4 := (by ((repeat (first | (with_reducible assumption) | ((with_reducible refine Keep.setCell ?_ ?_ _); rotate_left; focus (first | omega | (simp; done) | (simp; omega))) | (with_reducible refine Keep.alloc ?_ _) | (with_reducible refine Keep.drewN ?_ _) | (with_reducible refine Keep.drew ?_) | (with_reducible exact Keep.refl _) | refine Keep.trans ?_ (by with_reducible assumption) | exact Keep.refl _ | assumption))))
    replace hw := hw.keep kk
    replace hX := hX.keep kk
    replace hM := hM.keep kk
    replace hW := hW.trans kk
    have hz34 := kk.size
    clear hk kk
    have hx := Own.new ho4
    clear ho4
    have z4 := hW.size
    go_wp2_with fail
    apply wp_region_mono 11 [Fx _, Fx _, Fx _, Fx _, Fx _, TupI w4.heap.size 2 1 L.length (ints L) E, TupI w4.heap.size 2 1 L.length (ints L) E, Orow w4.heap.size 2 1 L.length (ints L), Fx _, Orow w4.heap.size 2 1 L.length (ints L), Fx _] (by kernel_rfl) (by kernel_rfl) (mono_of ⟨Fx.mono _, Fx.mono _, Fx.mono _, Fx.mono _, Fx.mono _, TupI.mono, TupI.mono, Orow.mono, Fx.mono _, Orow.mono, Fx.mono _, trivial⟩) ?st14 ?tl14
    case st14 =>
      simp only [List.take_succ_cons, List.take_zero, List.drop_succ_cons, List.drop_zero, putAll, Act.put, List.setIfInBounds_toArray, List.set_cons_succ, List.set_cons_zero, Nat.zero_add, Nat.reduceAdd]
      refine steps_cons ?_ (steps_cons ?_ (steps_cons ?_ (steps_cons ?_ (steps_cons ?_ (steps_cons ?_ (steps_cons ?_ (steps_cons ?_ (steps_cons ?_ (steps_cons ?_ (steps_cons ?_ steps_nil))))))))))
      all_goals
        intro v w2 hk hd
        obtain ⟨hX_0, hX_1, hX_2, hX_3, hX_4, hX_5, hX_6⟩ := (hX.keep hk).three
        obtain ⟨hM_0, hM_1, hM_2, hM_3, hM_4⟩ := (hM.keep hk).two
        have hkz := hk.size
        simp [DepsOf, factAt, Fx, Region.binds] at hd
        simp only [factAt, List.getD_cons_zero, List.getD_cons_succ]
        refine Gives.mk ?_
        go_simp
        first | exact ⟨Keep.refl _, Fx.self _ _⟩ | exact ⟨(Keep.refl _).alloc _, _, rfl, Bx.new _ _ _, by first | omega | (simp; omega)⟩ | (exact Keep.refl _) | (go_at_call 21; exact gives_fx (laws_toMix _ _ _ _)) | (go_at_call 27; exact gives_fx (laws_toMask _ _ _)) | ((go_at_call 28; exact gives_tupI (hI.out _ _ _ (hx.rd.keep hk)) (by omega))) | ((obtain ⟨v0, e, ho⟩ := hd; simp only [e]; go_simp; exact ⟨Keep.refl _, ho⟩)) | ((obtain ⟨v0, e, ho⟩ := hd; simp only [e]; go_simp; exact ⟨Keep.refl _, Fx.self _ _⟩))
    simp only [List.take_succ_cons, List.take_zero, List.drop_succ_cons, List.drop_zero, putAll, Act.put, List.setIfInBounds_toArray, List.set_cons_succ, List.set_cons_zero, Nat.zero_add, Nat.reduceAdd]
    intro v w2 hk hh
    obtain ⟨hX_0, hX_1, hX_2, hX_3, hX_4, hX_5, hX_6⟩ := (hX.keep hk).three
    obtain ⟨hM_0, hM_1, hM_2, hM_3, hM_4⟩ := (hM.keep hk).two
    have hkz := hk.size
    simp only [Held, factAt, List.getD_cons_zero, List.getD_cons_succ, Fx, true_and] at hh
    obtain ⟨⟨⟨⟨⟨⟨⟨⟨⟨⟨v_0, v_1⟩, v_2⟩, v_3⟩, v_4⟩, hO5⟩, hO6⟩, hO7⟩, v_8⟩, hO9⟩, v_10⟩ := hh
    simp only [v_0, v_1, v_2, v_3, v_4, v_8, v_10]
    replace hX := hX.keep hk
    replace hM := hM.keep hk
    replace hw := hw.keep hk
    replace hx := hx.keep hk
    replace hW := hW.trans hk
    have hg : Own w2 w4.heap.size w2.heap.size 2 1 (v 9) L.length (ints L) := Own.new hO9
    generalize v 9 = v9' at *
    generalize v 7 = v7' at *
    generalize v 6 = v6' at *
    generalize v 5 = v5' at *
    obtain ⟨A5, c5, rfl⟩ := hg.form
    clear hO5 hO6 hO7 hO9 hk hkz v_0 v_1 v_2 v_3 v_4 v_8 v_10 hX_0 hX_1 hX_2 hX_3 hX_4 hX_5 hX_6 hM_0 hM_1 hM_2 hM_3 hM_4
    (go_wp2_with fail); (go_at_call 13); (refine (laws_eqInt64S _ _ _ _ _ _ hpn hg.rd hw.rd).mono ?_); rintro e w6 ⟨rfl, hk⟩
    have kk : Keep w2 w6 := (by ((repeat (first | (with_reducible assumption) | ((with_reducible refine Keep.setCell ?_ ?_ _); rotate_left; focus (first | omega | (simp; done) | (simp; omega))) | (with_reducible refine Keep.alloc ?_ _) | (with_reducible refine Keep.drewN ?_ _) | (with_reducible refine Keep.drew ?_) | (with_reducible exact Keep.refl _) | refine Keep.trans ?_ (by with_reducible assumption) | exact Keep.refl _ | assumption))))
    replace hw := hw.keep kk
    replace hx := hx.keep kk
    replace hg := hg.keep kk
    replace hX := hX.keep kk
    replace hM := hM.keep kk
    replace hW := hW.trans kk
    clear hk kk
    (go_wp2_with fail); (go_at_call 11); (refine (laws_toStringS _ _ _ _ hn' (hR.keep hW)).mono ?_); rintro e w7 ⟨g7, rfl, ho7, hk⟩
    have kk : Keep w6 w7 := (by ((repeat (first | (with_reducible assumption) | ((with_reducible refine Keep.setCell ?_ ?_ _); rotate_left; focus (first | omega | (simp; done) | (simp; omega))) | (with_reducible refine Keep.alloc ?_ _) | (with_reducible refine Keep.drewN ?_ _) | (with_reducible refine Keep.drew ?_) | (with_reducible exact Keep.refl _) | refine Keep.trans ?_ (by with_reducible assumption) | exact Keep.refl _ | assumption))))
    replace hw := hw.keep kk
    replace hx := hx.keep kk
    replace hg := hg.keep kk
    replace hX := hX.keep kk
    replace hM := hM.keep kk
    replace hW := hW.trans kk
    clear hk kk
    (go_wp2_with fail); (go_at_call 15); (refine (laws_eqStringS _ _ _ _ _ _ hn' hx.rd (own_rds ho7)).mono ?_); rintro e w8 ⟨rfl, hk⟩
    have kk : Keep w7 w8 := (by ((repeat (first | (with_reducible assumption) | ((with_reducible refine Keep.setCell ?_ ?_ _); rotate_left; focus (first | omega | (simp; done) | (simp; omega))) | (with_reducible refine Keep.alloc ?_ _) | (with_reducible refine Keep.drewN ?_ _) | (with_reducible refine Keep.drew ?_) | (with_reducible exact Keep.refl _) | refine Keep.trans ?_ (by with_reducible assumption) | exact Keep.refl _ | assumption))))
    replace hw := hw.keep kk
    replace hx := hx.keep kk
    replace hg := hg.keep kk
    replace hX := hX.keep kk
    replace hM := hM.keep kk
    replace hW := hW.trans kk
    clear hk kk
    clear ho7
    (go_wp2_with fail); (go_at_call 17); (refine (laws_markStringS _ _ _ _ _ 1 _ hn' (by decide) (by decide) hx.out).mono ?_); rintro e w9 ⟨rfl, hgr⟩
    replace hw := hw.other hgr (fun k hk => .inr (hx.lt k hk).1)
    replace hg := hg.other hgr (fun k hk => .inl (hx.lt k hk).2)
    replace hX := hX.grownBy hgr (fun h => by have := hx.lt _ h.symm; omega)
    replace hM := hM.grownBy hgr (fun h => by have := hx.lt _ h.symm; omega)
    replace hW := hx.keepW hW hgr z3
    clear hx hgr
    (go_wp2_with fail); (go_at_call 13); (refine (laws_eqInt64S _ _ _ _ _ _ hpn hg.rd hw.rd).mono ?_); rintro e w10 ⟨rfl, hk⟩
    have kk : Keep w9 w10 := (by ((repeat (first | (with_reducible assumption) | ((with_reducible refine Keep.setCell ?_ ?_ _); rotate_left; focus (first | omega | (simp; done) | (simp; omega))) | (with_reducible refine Keep.alloc ?_ _) | (with_reducible refine Keep.drewN ?_ _) | (with_reducible refine Keep.drew ?_) | (with_reducible exact Keep.refl _) | refine Keep.trans ?_ (by with_reducible assumption) | exact Keep.refl _ | assumption))))
    replace hw := hw.keep kk
    replace hg := hg.keep kk
    replace hX := hX.keep kk
    replace hM := hM.keep kk
    replace hW := hW.trans kk
    clear hk kk
    (go_wp2_with fail); (go_at_call 18); (refine (laws_markInt64B _ _ _ _ _ 1 _ hpn (by decide) (by decide) hg.out).mono ?_); rintro e w11 ⟨rfl, om, hgr⟩
    have hm' := Own.mk om hg.lt
    replace hw := hw.other hgr (fun k hk => .inr (Nat.le_trans hz34 (hg.lt k hk).1))
    replace hX := hX.grownBy hgr (fun h => by have := hg.lt _ h.symm; omega)
    replace hM := hM.grownBy hgr (fun h => by have := hg.lt _ h.symm; omega)
    replace hW := hg.keepW hW hgr z4
    clear hg om hgr
    (go_wp2_with fail); (go_at_call 19); (refine (laws_heldInt64S _ _ _ 1 _ hpn (by decide) (by decide) hm'.rd).mono ?_); rintro e w12 ⟨rfl, hk⟩
    have kk : Keep w11 w12 := (by ((repeat (first | (with_reducible assumption) | ((with_reducible refine Keep.setCell ?_ ?_ _); rotate_left; focus (first | omega | (simp; done) | (simp; omega))) | (with_reducible refine Keep.alloc ?_ _) | (with_reducible refine Keep.drewN ?_ _) | (with_reducible refine Keep.drew ?_) | (with_reducible exact Keep.refl _) | refine Keep.trans ?_ (by with_reducible assumption) | exact Keep.refl _ | assumption))))
    replace hw := hw.keep kk
    replace hm' := hm'.keep kk
    replace hX := hX.keep kk
    replace hM := hM.keep kk
    replace hW := hW.trans kk
    clear hk kk
    have hR1 := hR.keep hW
    clear z3 z4 hz34 zM
    go_wp2_with fail
    apply wp_region_mono 12 [Fx _, Fx _, Fx _, Fx _, Fx _, Osl w12.heap.size 9 1 l.length (strs l), TupI w12.heap.size 2 1 L.length (ints L) E, TupI w12.heap.size 2 1 L.length (ints L) E, Orow w12.heap.size 2 1 L.length (ints L), Fx _, Orow w12.heap.size 2 1 L.length (ints L), Fx _] (by kernel_rfl) (by kernel_rfl) (mono_of ⟨Fx.mono _, Fx.mono _, Fx.mono _, Fx.mono _, Fx.mono _, Osl.mono, TupI.mono, TupI.mono, Orow.mono, Fx.mono _, Orow.mono, Fx.mono _, trivial⟩) ?st15 ?tl15
    case st15 =>
      simp only [List.take_succ_cons, List.take_zero, List.drop_succ_cons, List.drop_zero, putAll, Act.put, List.setIfInBounds_toArray, List.set_cons_succ, List.set_cons_zero, Nat.zero_add, Nat.reduceAdd]
      refine steps_cons ?_ (steps_cons ?_ (steps_cons ?_ (steps_cons ?_ (steps_cons ?_ (steps_cons ?_ (steps_cons ?_ (steps_cons ?_ (steps_cons ?_ (steps_cons ?_ (steps_cons ?_ (steps_cons ?_ steps_nil)))))))))))
      all_goals
        intro v w2 hk hd
        obtain ⟨hX_0, hX_1, hX_2, hX_3, hX_4, hX_5, hX_6⟩ := (hX.keep hk).three
        obtain ⟨hM_0, hM_1, hM_2, hM_3, hM_4⟩ := (hM.keep hk).two
        have hkz := hk.size
        simp [DepsOf, factAt, Fx, Region.binds] at hd
        simp only [factAt, List.getD_cons_zero, List.getD_cons_succ]
        refine Gives.mk ?_
        go_simp
        first | exact ⟨Keep.refl _, Fx.self _ _⟩ | exact ⟨(Keep.refl _).alloc _, _, rfl, Bx.new _ _ _, by first | omega | (simp; omega)⟩ | (exact Keep.refl _) | (go_at_call 21; exact gives_fx (laws_toMix _ _ _ _)) | (go_at_call 27; exact gives_fx (laws_toMask _ _ _)) | ((go_at_call 11; exact gives_osl (laws_toStringS _ _ _ _ hn' (hR1.keep hk)) (by omega))) | ((obtain ⟨e1, e3, g, e5, ho⟩ := hd; rw [e5]; (go_at_call 28); exact gives_tupI (hI.out _ _ _ (own_rds ho)) (by omega))) | ((obtain ⟨v0, e, ho⟩ := hd; simp only [e]; go_simp; exact ⟨Keep.refl _, ho⟩)) | ((obtain ⟨v0, e, ho⟩ := hd; simp only [e]; go_simp; exact ⟨Keep.refl _, Fx.self _ _⟩))
    simp only [List.take_succ_cons, List.take_zero, List.drop_succ_cons, List.drop_zero, putAll, Act.put, List.setIfInBounds_toArray, List.set_cons_succ, List.set_cons_zero, Nat.zero_add, Nat.reduceAdd]
    intro v w2 hk hh
    obtain ⟨hX_0, hX_1, hX_2, hX_3, hX_4, hX_5, hX_6⟩ := (hX.keep hk).three
    obtain ⟨hM_0, hM_1, hM_2, hM_3, hM_4⟩ := (hM.keep hk).two
    have hkz := hk.size
    simp only [Held, factAt, List.getD_cons_zero, List.getD_cons_succ, Fx, true_and] at hh
    obtain ⟨⟨⟨⟨⟨⟨⟨⟨⟨⟨⟨v_0, v_1⟩, v_2⟩, v_3⟩, v_4⟩, hO5⟩, hO6⟩, hO7⟩, hO8⟩, v_9⟩, hO10⟩, v_11⟩ := hh
    simp only [v_0, v_1, v_2, v_3, v_4, v_9, v_11]
    replace hW := hW.trans hk
    have hg : Own w2 w12.heap.size w2.heap.size 2 1 (v 10) L.length (ints L) := Own.new hO10
    replace hw := hw.keep hk
    replace hm' := hm'.keep hk
    generalize v 10 = u10 at *
    generalize v 8 = u8 at *
    generalize v 7 = u7 at *
    generalize v 6 = u6 at *
    generalize v 5 = u5 at *
    obtain ⟨A14, c14, rfl⟩ := hg.form
    clear hO5 hO6 hO7 hO8 hO10 hk hkz hR1 v_0 v_1 v_2 v_3 v_4 v_9 v_11 hX_0 hX_1 hX_2 hX_3 hX_4 hX_5 hX_6 hM_0 hM_1 hM_2 hM_3 hM_4 hX hM
    (go_wp2_with fail); (go_at_call 13); (refine (laws_eqInt64S _ _ _ _ _ _ hpn hg.rd hw.rd).mono ?_); rintro e w15 ⟨rfl, hk⟩
    have kk : Keep w2 w15 := (by ((repeat (first | (with_reducible assumption) | ((with_reducible refine Keep.setCell ?_ ?_ _); rotate_left; focus (first | omega | (simp; done) | (simp; omega))) | (with_reducible refine Keep.alloc ?_ _) | (with_reducible refine Keep.drewN ?_ _) | (with_reducible refine Keep.drew ?_) | (with_reducible exact Keep.refl _) | refine Keep.trans ?_ (by with_reducible assumption) | exact Keep.refl _ | assumption))))
    replace hm' := hm'.keep kk
    replace hW := hW.trans kk
    clear hk kk
    (go_wp2_with fail); (go_at_call 19); (refine (laws_heldInt64S _ _ _ 1 _ hpn (by decide) (by decide) hm'.rd).mono ?_); rintro e w16 ⟨rfl, hk⟩
    have kk : Keep w15 w16 := (by ((repeat (first | (with_reducible assumption) | ((with_reducible refine Keep.setCell ?_ ?_ _); rotate_left; focus (first | omega | (simp; done) | (simp; omega))) | (with_reducible refine Keep.alloc ?_ _) | (with_reducible refine Keep.drewN ?_ _) | (with_reducible refine Keep.drew ?_) | (with_reducible exact Keep.refl _) | refine Keep.trans ?_ (by with_reducible assumption) | exact Keep.refl _ | assumption))))
    replace hW := hW.trans kk
    clear hk kk
    clear hw hg hm'
    go_wp2
    go_ret; exact ⟨rfl, (by ((repeat (first | (with_reducible assumption) | ((with_reducible refine Keep.setCell ?_ ?_ _); rotate_left; focus (first | omega | (simp; done) | (simp; omega))) | (with_reducible refine Keep.alloc ?_ _) | (with_reducible refine Keep.drewN ?_ _) | (with_reducible refine Keep.drew ?_) | (with_reducible exact Keep.refl _) | refine Keep.trans ?_ (by with_reducible assumption) | exact Keep.refl _ | assumption))))⟩
end Go.Proofs.YtbbnhbfofdhnbaaDoor

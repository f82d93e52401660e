/- The laws of the part of a field, and of an emptied one. -/
import Derived.Test.YtbgegnbcjklmjaaDoorW8
import Derived.Test.YtbgegnbcjklmjaaDoorW3
import Derived.Test.YtbgegnbcjklmjaaDoorN6
set_option linter.unusedVariables false
set_option linter.unusedSimpArgs false
namespace Go.Proofs.YtbgegnbcjklmjaaDoor
open Go.RowKit
set_option maxHeartbeats 2000000
theorem szN_le {left : Int} {n : Nat} (h : (n : Int) ≤ left) : szN left n = left - n := by unfold szN; rw [if_neg (by omega)]
theorem szN_gt {left : Int} {n : Nat} (h : left < n) : szN left n = -1 := by unfold szN; rw [if_pos (by omega)]
theorem laws_eqCard_self (s : ByteArray) (a b : Wd) (w : World) :
    Calls Tryd.prog 32 #[.agg #[.string s, .int .u64 (U a), .int .u64 (U b)], .agg #[.string s, .int .u64 (U a), .int .u64 (U b)]] w fun e w' => e = .returned (.bool true) ∧ Keep w w' := by
  go_enter Tryd.func32, Tryd.ntmps32
  (go_wp2_with fail); (go_at_call 29); (refine (laws_eqMask_self _ _ _).mono ?_); rintro e w1 ⟨rfl, hk1⟩
  go_wp2
  go_ret; exact ⟨rfl, (by ((repeat (first | (with_reducible assumption) | ((with_reducible refine Keep.setCell ?_ ?_ _); rotate_left; focus (first | omega | (simp; done) | (simp; omega))) | (with_reducible refine Keep.alloc ?_ _) | (with_reducible refine Keep.drewN ?_ _) | (with_reducible refine Keep.drew ?_) | (with_reducible exact Keep.refl _) | refine Keep.trans ?_ (by with_reducible assumption) | exact Keep.refl _ | assumption))))⟩
theorem laws_FnExactPartOf (s : ByteArray) (k st sz : Int) (w : World) (hw : s.size ≤ 9223372036854775807 ∧ I8 k ∧ I16 st ∧ I16 sz) :
    Calls Tryd.prog 7 #[.agg #[.string s, .int .i8 k, .int .i16 st, .int .i16 sz]] w fun e w' => e = .returned (.bool true) ∧ Keep w w' := by
  by_cases hn : s.size ≤ 1048576
  · have e1 := szN_le (left := 1048576) (n := s.size) (by omega)
    go_enter Tryd.func7, Tryd.ntmps7
    (go_wp2_with fail); (go_at_call 19); (refine (laws_szField _ _ _ _ 1048576 _ (by decide) hw.1).mono ?_); rintro e w1 ⟨rfl, hk1⟩
    rw [e1]
    obtain ⟨hk1c, hk1f⟩ := hk1.cells; have hk1z0 : w.heap.size < w1.heap.size := (by have := hk1.size; (try simp at this); omega)
    (go_wp2_with fail); (go_at_call 21); (refine (laws_toField _ _ _ _ _).mono ?_); rintro e w2 ⟨rfl, hk2⟩
    obtain ⟨hk2c, hk2f⟩ := hk2.cells; have hk2z0 : w.heap.size < w2.heap.size := (by have := hk2.size; (try simp at this); omega)
    (go_wp2_with fail); (go_at_call 27); (refine (spec_PartOf _ _ _ _ _ hw).mono ?_); rintro e w3 ⟨rfl, hk3⟩
    have hA : Bx w3 w.heap.size #[.string s, .int .i8 k, .int .i16 st, .int .i16 sz] 36 := (((Bx.new _ _ _).keep hk1).keep hk2).keep hk3
    have k3 : Keep w w3 := (by ((repeat (first | (with_reducible assumption) | ((with_reducible refine Keep.setCell ?_ ?_ _); rotate_left; focus (first | omega | (simp; done) | (simp; omega))) | (with_reducible refine Keep.alloc ?_ _) | (with_reducible refine Keep.drewN ?_ _) | (with_reducible refine Keep.drew ?_) | (with_reducible exact Keep.refl _) | refine Keep.trans ?_ (by with_reducible assumption) | exact Keep.refl _ | assumption))))
    clear hk1 hk2 hk3 hk1c hk1f hk2c hk2f hk1z0 hk2z0
    have hAs := hA.four
    (go_wp2_with fail); (go_at_call 21); (refine (laws_toField _ _ _ _ _).mono ?_); rintro e w4 ⟨rfl, hk4⟩
    have hA4 := ((hA.alloc _).keep hk4)
    have hB4 : Bx w4 w3.heap.size #[.int .u64 (U (partLo s k st sz)), .int .u64 (U (partHi s k st sz))] 28 := (Bx.new _ _ _).keep hk4
    have k4 : Keep w w4 := (by ((repeat (first | (with_reducible assumption) | ((with_reducible refine Keep.setCell ?_ ?_ _); rotate_left; focus (first | omega | (simp; done) | (simp; omega))) | (with_reducible refine Keep.alloc ?_ _) | (with_reducible refine Keep.drewN ?_ _) | (with_reducible refine Keep.drew ?_) | (with_reducible exact Keep.refl _) | refine Keep.trans ?_ (by with_reducible assumption) | exact Keep.refl _ | assumption))))
    clear hAs hA hk4 k3
    (go_wp2_with fail); (go_at_call 28); (refine (impl_PartOf _ _ _ _ _ hw).mono ?_); rintro e w5 ⟨rfl, hk5⟩
    have hB5 := hB4.keep hk5
    have k5 : Keep w w5 := (by ((repeat (first | (with_reducible assumption) | ((with_reducible refine Keep.setCell ?_ ?_ _); rotate_left; focus (first | omega | (simp; done) | (simp; omega))) | (with_reducible refine Keep.alloc ?_ _) | (with_reducible refine Keep.drewN ?_ _) | (with_reducible refine Keep.drew ?_) | (with_reducible exact Keep.refl _) | refine Keep.trans ?_ (by with_reducible assumption) | exact Keep.refl _ | assumption))))
    clear hA4 hB4 hk5 k4
    have hBs := hB5.two
    (go_wp2_with fail); (go_at_call 29); (refine (laws_eqMask_self _ _ _).mono ?_); rintro e w6 ⟨rfl, hk6⟩
    go_wp2
    go_ret; exact ⟨rfl, (by ((repeat (first | (with_reducible assumption) | ((with_reducible refine Keep.setCell ?_ ?_ _); rotate_left; focus (first | omega | (simp; done) | (simp; omega))) | (with_reducible refine Keep.alloc ?_ _) | (with_reducible refine Keep.drewN ?_ _) | (with_reducible refine Keep.drew ?_) | (with_reducible exact Keep.refl _) | refine Keep.trans ?_ (by with_reducible assumption) | exact Keep.refl _ | assumption))))⟩
  · have e1 := szN_gt (left := 1048576) (n := s.size) (by omega)
    go_enter Tryd.func7, Tryd.ntmps7
    (go_wp2_with fail); (go_at_call 19); (refine (laws_szField _ _ _ _ 1048576 _ (by decide) hw.1).mono ?_); rintro e w1 ⟨rfl, hk1⟩
    rw [e1]
    go_wp2
    go_ret; exact ⟨rfl, (by ((repeat (first | (with_reducible assumption) | ((with_reducible refine Keep.setCell ?_ ?_ _); rotate_left; focus (first | omega | (simp; done) | (simp; omega))) | (with_reducible refine Keep.alloc ?_ _) | (with_reducible refine Keep.drewN ?_ _) | (with_reducible refine Keep.drew ?_) | (with_reducible exact Keep.refl _) | refine Keep.trans ?_ (by with_reducible assumption) | exact Keep.refl _ | assumption))))⟩
theorem laws_FnExactClearField (s : ByteArray) (a b : Wd) (t : ByteArray) (k st sz : Int) (w : World) (hs : s.size ≤ 9223372036854775807) (hw : t.size ≤ 9223372036854775807 ∧ I8 k ∧ I16 st ∧ I16 sz) :
    Calls Tryd.prog 8 #[.agg #[.string s, .int .u64 (U a), .int .u64 (U b)], .agg #[.string t, .int .i8 k, .int .i16 st, .int .i16 sz]] w fun e w' => e = .returned (.bool true) ∧ Keep w w' := by
  by_cases hn : s.size ≤ 1048576
  · have e1 := szN_le (left := 1048576) (n := s.size) (by omega)
    by_cases hm : s.size + t.size ≤ 1048576
    · have e2 := szN_le (left := 1048576 - s.size) (n := t.size) (by omega)
      obtain ⟨S', hS⟩ : ∃ x, clS s b t k st sz = x := ⟨_, rfl⟩
      obtain ⟨X, hX⟩ : ∃ x, clLo s a b t k st sz = x := ⟨_, rfl⟩
      obtain ⟨Y, hY⟩ : ∃ x, clHi s a b t k st sz = x := ⟨_, rfl⟩
      obtain ⟨E, hE⟩ : ∃ x, cfE s b t k st sz = x := ⟨_, rfl⟩
      have hI := impl_ClearField s a b t k st sz
      have hJ := spec_ClearField s a b t k st sz
      rw [hS, hX, hY, hE] at hI hJ
      clear hS hX hY hE
      go_enter Tryd.func8, Tryd.ntmps8
      (go_wp2_with fail); (go_at_call 15); (refine (laws_szCard _ _ _ 1048576 _ (by decide) hs).mono ?_); rintro e w1 ⟨rfl, hk1⟩
      rw [e1]
      obtain ⟨hk1c, hk1f⟩ := hk1.cells; have hk1z0 : w.heap.size < w1.heap.size := (by have := hk1.size; (try simp at this); omega); have hk1z1 : w.heap.size + 1 < w1.heap.size := (by have := hk1.size; (try simp at this); omega)
      (go_wp2_with fail); (go_at_call 19); (refine (laws_szField _ _ _ _ (1048576 - s.size) _ (by omega) hw.1).mono ?_); rintro e w2 ⟨rfl, hk2⟩
      rw [e2]
      go_wp2_with fail
      refine wp_gen (fun W => Bx W w.heap.size #[.string s, .int .u64 (U a), .int .u64 (U b)] 25 ∧ Bx W (w.heap.size + 1) #[.string t, .int .i8 k, .int .i16 st, .int .i16 sz] 36 ∧ Keep w W) ⟨(((Bx.new _ _ _).alloc _).keep hk1).keep hk2, ((Bx.new1 _ _ _ _).keep hk1).keep hk2, (by ((repeat (first | (with_reducible assumption) | ((with_reducible refine Keep.setCell ?_ ?_ _); rotate_left; focus (first | omega | (simp; done) | (simp; omega))) | (with_reducible refine Keep.alloc ?_ _) | (with_reducible refine Keep.drewN ?_ _) | (with_reducible refine Keep.drew ?_) | (with_reducible exact Keep.refl _) | refine Keep.trans ?_ (by with_reducible assumption) | exact Keep.refl _ | assumption))))⟩ ?_
      clear hk1 hk2 hk1c hk1f hk1z0 hk1z1
      rintro W ⟨hA, hB, hW⟩
      apply wp_region_late 9 7 [Fx _, Fx _, Fx _, Fx _, Fx _, Fx _, Fx _, Fx _] (Al (W.heap.size) #[.string ByteArray.empty, .int .u64 0, .int .u64 0] 30) (Al (W.heap.size) #[.string S', .int .u64 (U X), .int .u64 (U Y)] 30) (by kernel_rfl) (by kernel_rfl) rfl (by simp) ⟨Fx.free _, Fx.free _, Fx.free _, Fx.free _, Fx.free _, Fx.free _, Fx.free _, Fx.free _, trivial⟩ (Al.mono _ _ _) (Al.mono _ _ _) ?st5 ?so5 ?la5 ?tl5
      case st5 =>
        simp only [List.take_succ_cons, List.take_zero, List.drop_succ_cons, List.drop_zero, putAll, Act.put, List.setIfInBounds_toArray, List.set_cons_succ, List.set_cons_zero, Nat.zero_add, Nat.reduceAdd]
        simp only [List.cons_append, List.nil_append]
        refine steps_cons ?_ (steps_cons ?_ (steps_cons ?_ (steps_cons ?_ (steps_cons ?_ (steps_cons ?_ (steps_cons ?_ (steps_cons ?_ (steps_cons ?_ steps_nil))))))))
        all_goals
          intro v w2 hk hd
          obtain ⟨hA_0, hA_1, hA_2, hA_3, hA_4, hA_5, hA_6⟩ := (hA.keep hk).three
          obtain ⟨hB_0, hB_1, hB_2, hB_3, hB_4, hB_5, hB_6, hB_7, hB_8⟩ := (hB.keep hk).four
          have hkz := hk.size
          simp [DepsOf, factAt, Fx, Region.binds] at hd
          simp only [factAt, List.getD_cons_zero, List.getD_cons_succ]
          refine Gives.mk ?_
          go_simp
          first | exact ⟨Keep.refl _, Fx.self _ _⟩ | exact ⟨(Keep.refl _).alloc _, _, rfl, Bx.new _ _ _, by first | omega | (simp; omega)⟩ | (go_at_call 17; exact gives_fx (laws_toCard _ _ _ _)) | (go_at_call 21; exact gives_fx (laws_toField _ _ _ _ _)) | (go_at_call 30; exact gives_fx (hJ _ hs hw))
      case so5 =>
        intro v w2 hk hd o ho
        obtain ⟨hA_0, hA_1, hA_2, hA_3, hA_4, hA_5, hA_6⟩ := (hA.keep hk).three
        obtain ⟨hB_0, hB_1, hB_2, hB_3, hB_4, hB_5, hB_6, hB_7, hB_8⟩ := (hB.keep hk).four
        have hkz := hk.size
        have v_0 := hd 0 (by decide) (by decide)
        have v_1 := hd 1 (by decide) (by decide)
        have v_2 := hd 2 (by decide) (by decide)
        have v_3 := hd 3 (by decide) (by decide)
        have v_4 := hd 4 (by decide) (by decide)
        have v_5 := hd 5 (by decide) (by decide)
        have v_6 := hd 6 (by decide) (by decide)
        simp only [List.cons_append, List.nil_append, factAt, List.getD_cons_zero, List.getD_cons_succ, Fx] at v_0 v_1 v_2 v_3 v_4 v_5 v_6
        obtain ⟨g, v_8, hG, hg⟩ := hd 8 (by decide) (by decide)
        obtain ⟨hG_0, hG_1, hG_2, hG_3, hG_4, hG_5, hG_6⟩ := hG.three
        obtain rfl := Option.some.inj ho
        simp only [List.take_succ_cons, List.take_zero, List.drop_succ_cons, List.drop_zero, putAll, Act.put, List.setIfInBounds_toArray, List.set_cons_succ, List.set_cons_zero, Nat.zero_add, Nat.reduceAdd]
        refine Gives.mk ?_
        go_simp
        exact ⟨(by ((repeat (first | (with_reducible assumption) | ((with_reducible refine Keep.setCell ?_ ?_ _); rotate_left; focus (first | omega | (simp; done) | (simp; omega))) | (with_reducible refine Keep.alloc ?_ _) | (with_reducible refine Keep.drewN ?_ _) | (with_reducible refine Keep.drew ?_) | (with_reducible exact Keep.refl _) | refine Keep.trans ?_ (by with_reducible assumption) | exact Keep.refl _ | assumption)))), g, (by first | rfl | assumption), (((hG).set _).set _).set _, hg⟩
      case la5 =>
        intro v w2 hk hd o ho
        obtain ⟨hA_0, hA_1, hA_2, hA_3, hA_4, hA_5, hA_6⟩ := (hA.keep hk).three
        obtain ⟨hB_0, hB_1, hB_2, hB_3, hB_4, hB_5, hB_6, hB_7, hB_8⟩ := (hB.keep hk).four
        have hkz := hk.size
        have v_0 := hd 0 (by decide) (by decide)
        have v_1 := hd 1 (by decide) (by decide)
        have v_2 := hd 2 (by decide) (by decide)
        have v_3 := hd 3 (by decide) (by decide)
        have v_4 := hd 4 (by decide) (by decide)
        have v_5 := hd 5 (by decide) (by decide)
        have v_6 := hd 6 (by decide) (by decide)
        simp only [List.cons_append, List.nil_append, factAt, List.getD_cons_zero, List.getD_cons_succ, Fx] at v_0 v_1 v_2 v_3 v_4 v_5 v_6
        obtain ⟨g, v_8, hG, hg⟩ := hd 8 (by decide) (by decide)
        obtain ⟨hG_0, hG_1, hG_2, hG_3, hG_4, hG_5, hG_6⟩ := hG.three
        obtain rfl := Option.some.inj ho
        simp only [List.take_succ_cons, List.take_zero, List.drop_succ_cons, List.drop_zero, putAll, Act.put, List.setIfInBounds_toArray, List.set_cons_succ, List.set_cons_zero, Nat.zero_add, Nat.reduceAdd]
        refine Gives.mk ?_
        go_simp
        exact ⟨Keep.refl _, rfl⟩
      simp only [List.take_succ_cons, List.take_zero, List.drop_succ_cons, List.drop_zero, putAll, Act.put, List.setIfInBounds_toArray, List.set_cons_succ, List.set_cons_zero, Nat.zero_add, Nat.reduceAdd]
      simp only [List.cons_append, List.nil_append]
      intro v w2 hk hh
      obtain ⟨hA_0, hA_1, hA_2, hA_3, hA_4, hA_5, hA_6⟩ := (hA.keep hk).three
      obtain ⟨hB_0, hB_1, hB_2, hB_3, hB_4, hB_5, hB_6, hB_7, hB_8⟩ := (hB.keep hk).four
      have hkz := hk.size
      simp only [Held, factAt, List.getD_cons_zero, List.getD_cons_succ, Fx, true_and] at hh
      obtain ⟨⟨⟨⟨⟨⟨⟨⟨v_0, v_1⟩, v_2⟩, v_3⟩, v_4⟩, v_5⟩, v_6⟩, v_7⟩, g, v_8, hG, hg⟩ := hh
      obtain ⟨hG_0, hG_1, hG_2, hG_3, hG_4, hG_5, hG_6⟩ := hG.three
      simp only [v_0, v_1, v_2, v_3, v_4, v_5, v_6, v_7, v_8]
      go_wp2_with fail
      have zW := hW.size
      refine wp_gen (fun W => Bx W (w.heap.size) #[.string s, .int .u64 (U a), .int .u64 (U b)] 25 ∧ Bx W (w.heap.size + 1) #[.string t, .int .i8 k, .int .i16 st, .int .i16 sz] 36 ∧ Bx W g #[.string S', .int .u64 (U X), .int .u64 (U Y)] 30 ∧ w.heap.size ≤ g ∧ Keep w W) ⟨hA.keep hk, hB.keep hk, hG, by omega, (by ((repeat (first | (with_reducible assumption) | ((with_reducible refine Keep.setCell ?_ ?_ _); rotate_left; focus (first | omega | (simp; done) | (simp; omega))) | (with_reducible refine Keep.alloc ?_ _) | (with_reducible refine Keep.drewN ?_ _) | (with_reducible refine Keep.drew ?_) | (with_reducible exact Keep.refl _) | refine Keep.trans ?_ (by with_reducible assumption) | exact Keep.refl _ | assumption))))⟩ ?_
      clear v_0 v_1 v_2 v_3 v_4 v_5 v_6 v_7 v_8 hA_0 hA_1 hA_2 hA_3 hA_4 hA_5 hA_6 hA hB_0 hB_1 hB_2 hB_3 hB_4 hB_5 hB_6 hB_7 hB_8 hB hG_0 hG_1 hG_2 hG_3 hG_4 hG_5 hG_6 hG hg hk hkz zW hW v
      rintro W ⟨hA, hB, hC, hzhC, hW⟩
      apply wp_region_late 9 7 [Fx _, Fx _, Fx _, Fx _, Fx _, Fx _, Fx _, Fx _] (Al (W.heap.size) #[.string ByteArray.empty, .int .u64 0, .int .u64 0] 30) (Al (W.heap.size) #[.string S', .int .u64 (U X), .int .u64 (U Y)] 30) (by kernel_rfl) (by kernel_rfl) rfl (by simp) ⟨Fx.free _, Fx.free _, Fx.free _, Fx.free _, Fx.free _, Fx.free _, Fx.free _, Fx.free _, trivial⟩ (Al.mono _ _ _) (Al.mono _ _ _) ?st6 ?so6 ?la6 ?tl6
      case st6 =>
        simp only [List.take_succ_cons, List.take_zero, List.drop_succ_cons, List.drop_zero, putAll, Act.put, List.setIfInBounds_toArray, List.set_cons_succ, List.set_cons_zero, Nat.zero_add, Nat.reduceAdd]
        simp only [List.cons_append, List.nil_append]
        refine steps_cons ?_ (steps_cons ?_ (steps_cons ?_ (steps_cons ?_ (steps_cons ?_ (steps_cons ?_ (steps_cons ?_ (steps_cons ?_ (steps_cons ?_ steps_nil))))))))
        all_goals
          intro v w2 hk hd
          obtain ⟨hA_0, hA_1, hA_2, hA_3, hA_4, hA_5, hA_6⟩ := (hA.keep hk).three
          obtain ⟨hB_0, hB_1, hB_2, hB_3, hB_4, hB_5, hB_6, hB_7, hB_8⟩ := (hB.keep hk).four
          obtain ⟨hC_0, hC_1, hC_2, hC_3, hC_4, hC_5, hC_6⟩ := (hC.keep hk).three
          have hkz := hk.size
          simp [DepsOf, factAt, Fx, Region.binds] at hd
          simp only [factAt, List.getD_cons_zero, List.getD_cons_succ]
          refine Gives.mk ?_
          go_simp
          first | exact ⟨Keep.refl _, Fx.self _ _⟩ | exact ⟨(Keep.refl _).alloc _, _, rfl, Bx.new _ _ _, by first | omega | (simp; omega)⟩ | (go_at_call 17; exact gives_fx (laws_toCard _ _ _ _)) | (go_at_call 21; exact gives_fx (laws_toField _ _ _ _ _)) | (go_at_call 31; exact gives_fx (hI _ hs hw))
      case so6 =>
        intro v w2 hk hd o ho
        obtain ⟨hA_0, hA_1, hA_2, hA_3, hA_4, hA_5, hA_6⟩ := (hA.keep hk).three
        obtain ⟨hB_0, hB_1, hB_2, hB_3, hB_4, hB_5, hB_6, hB_7, hB_8⟩ := (hB.keep hk).four
        obtain ⟨hC_0, hC_1, hC_2, hC_3, hC_4, hC_5, hC_6⟩ := (hC.keep hk).three
        have hkz := hk.size
        have v_0 := hd 0 (by decide) (by decide)
        have v_1 := hd 1 (by decide) (by decide)
        have v_2 := hd 2 (by decide) (by decide)
        have v_3 := hd 3 (by decide) (by decide)
        have v_4 := hd 4 (by decide) (by decide)
        have v_5 := hd 5 (by decide) (by decide)
        have v_6 := hd 6 (by decide) (by decide)
        simp only [List.cons_append, List.nil_append, factAt, List.getD_cons_zero, List.getD_cons_succ, Fx] at v_0 v_1 v_2 v_3 v_4 v_5 v_6
        obtain ⟨g, v_8, hG, hg⟩ := hd 8 (by decide) (by decide)
        obtain ⟨hG_0, hG_1, hG_2, hG_3, hG_4, hG_5, hG_6⟩ := hG.three
        obtain rfl := Option.some.inj ho
        simp only [List.take_succ_cons, List.take_zero, List.drop_succ_cons, List.drop_zero, putAll, Act.put, List.setIfInBounds_toArray, List.set_cons_succ, List.set_cons_zero, Nat.zero_add, Nat.reduceAdd]
        refine Gives.mk ?_
        go_simp
        exact ⟨(by ((repeat (first | (with_reducible assumption) | ((with_reducible refine Keep.setCell ?_ ?_ _); rotate_left; focus (first | omega | (simp; done) | (simp; omega))) | (with_reducible refine Keep.alloc ?_ _) | (with_reducible refine Keep.drewN ?_ _) | (with_reducible refine Keep.drew ?_) | (with_reducible exact Keep.refl _) | refine Keep.trans ?_ (by with_reducible assumption) | exact Keep.refl _ | assumption)))), g, (by first | rfl | assumption), (((hG).set _).set _).set _, hg⟩
      case la6 =>
        intro v w2 hk hd o ho
        obtain ⟨hA_0, hA_1, hA_2, hA_3, hA_4, hA_5, hA_6⟩ := (hA.keep hk).three
        obtain ⟨hB_0, hB_1, hB_2, hB_3, hB_4, hB_5, hB_6, hB_7, hB_8⟩ := (hB.keep hk).four
        obtain ⟨hC_0, hC_1, hC_2, hC_3, hC_4, hC_5, hC_6⟩ := (hC.keep hk).three
        have hkz := hk.size
        have v_0 := hd 0 (by decide) (by decide)
        have v_1 := hd 1 (by decide) (by decide)
        have v_2 := hd 2 (by decide) (by decide)
        have v_3 := hd 3 (by decide) (by decide)
        have v_4 := hd 4 (by decide) (by decide)
        have v_5 := hd 5 (by decide) (by decide)
        have v_6 := hd 6 (by decide) (by decide)
        simp only [List.cons_append, List.nil_append, factAt, List.getD_cons_zero, List.getD_cons_succ, Fx] at v_0 v_1 v_2 v_3 v_4 v_5 v_6
        obtain ⟨g, v_8, hG, hg⟩ := hd 8 (by decide) (by decide)
        obtain ⟨hG_0, hG_1, hG_2, hG_3, hG_4, hG_5, hG_6⟩ := hG.three
        obtain rfl := Option.some.inj ho
        simp only [List.take_succ_cons, List.take_zero, List.drop_succ_cons, List.drop_zero, putAll, Act.put, List.setIfInBounds_toArray, List.set_cons_succ, List.set_cons_zero, Nat.zero_add, Nat.reduceAdd]
        refine Gives.mk ?_
        go_simp
        exact ⟨Keep.refl _, rfl⟩
      simp only [List.take_succ_cons, List.take_zero, List.drop_succ_cons, List.drop_zero, putAll, Act.put, List.setIfInBounds_toArray, List.set_cons_succ, List.set_cons_zero, Nat.zero_add, Nat.reduceAdd]
      simp only [List.cons_append, List.nil_append]
      intro v w2 hk hh
      obtain ⟨hA_0, hA_1, hA_2, hA_3, hA_4, hA_5, hA_6⟩ := (hA.keep hk).three
      obtain ⟨hB_0, hB_1, hB_2, hB_3, hB_4, hB_5, hB_6, hB_7, hB_8⟩ := (hB.keep hk).four
      obtain ⟨hC_0, hC_1, hC_2, hC_3, hC_4, hC_5, hC_6⟩ := (hC.keep hk).three
      have hkz := hk.size
      simp only [Held, factAt, List.getD_cons_zero, List.getD_cons_succ, Fx, true_and] at hh
      obtain ⟨⟨⟨⟨⟨⟨⟨⟨v_0, v_1⟩, v_2⟩, v_3⟩, v_4⟩, v_5⟩, v_6⟩, v_7⟩, g, v_8, hG, hg⟩ := hh
      obtain ⟨hG_0, hG_1, hG_2, hG_3, hG_4, hG_5, hG_6⟩ := hG.three
      simp only [v_0, v_1, v_2, v_3, v_4, v_5, v_6, v_7, v_8]
      (go_wp2_with fail); (go_at_call 32); (refine (laws_eqCard_self _ _ _ _).mono ?_); rintro e w3 ⟨rfl, hk3⟩
      go_wp2
      go_ret; exact ⟨rfl, (by ((repeat (first | (with_reducible assumption) | ((with_reducible refine Keep.setCell ?_ ?_ _); rotate_left; focus (first | omega | (simp; done) | (simp; omega))) | (with_reducible refine Keep.alloc ?_ _) | (with_reducible refine Keep.drewN ?_ _) | (with_reducible refine Keep.drew ?_) | (with_reducible exact Keep.refl _) | refine Keep.trans ?_ (by with_reducible assumption) | exact Keep.refl _ | assumption))))⟩
    · have e2 := szN_gt (left := 1048576 - s.size) (n := t.size) (by omega)
      go_enter Tryd.func8, Tryd.ntmps8
      (go_wp2_with fail); (go_at_call 15); (refine (laws_szCard _ _ _ 1048576 _ (by decide) hs).mono ?_); rintro e w1 ⟨rfl, hk1⟩
      rw [e1]
      obtain ⟨hk1c, hk1f⟩ := hk1.cells; have hk1z0 : w.heap.size < w1.heap.size := (by have := hk1.size; (try simp at this); omega); have hk1z1 : w.heap.size + 1 < w1.heap.size := (by have := hk1.size; (try simp at this); omega)
      (go_wp2_with fail); (go_at_call 19); (refine (laws_szField _ _ _ _ (1048576 - s.size) _ (by omega) hw.1).mono ?_); rintro e w2 ⟨rfl, hk2⟩
      rw [e2]
      go_wp2
      go_ret; exact ⟨rfl, (by ((repeat (first | (with_reducible assumption) | ((with_reducible refine Keep.setCell ?_ ?_ _); rotate_left; focus (first | omega | (simp; done) | (simp; omega))) | (with_reducible refine Keep.alloc ?_ _) | (with_reducible refine Keep.drewN ?_ _) | (with_reducible refine Keep.drew ?_) | (with_reducible exact Keep.refl _) | refine Keep.trans ?_ (by with_reducible assumption) | exact Keep.refl _ | assumption))))⟩
  · have e1 := szN_gt (left := 1048576) (n := s.size) (by omega)
    go_enter Tryd.func8, Tryd.ntmps8
    (go_wp2_with fail); (go_at_call 15); (refine (laws_szCard _ _ _ 1048576 _ (by decide) hs).mono ?_); rintro e w1 ⟨rfl, hk1⟩
    rw [e1]
    go_wp2
    go_ret; exact ⟨rfl, (by ((repeat (first | (with_reducible assumption) | ((with_reducible refine Keep.setCell ?_ ?_ _); rotate_left; focus (first | omega | (simp; done) | (simp; omega))) | (with_reducible refine Keep.alloc ?_ _) | (with_reducible refine Keep.drewN ?_ _) | (with_reducible refine Keep.drew ?_) | (with_reducible exact Keep.refl _) | refine Keep.trans ?_ (by with_reducible assumption) | exact Keep.refl _ | assumption))))⟩
end Go.Proofs.YtbgegnbcjklmjaaDoor

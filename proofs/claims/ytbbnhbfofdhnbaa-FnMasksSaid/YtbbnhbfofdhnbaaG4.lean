/- A mask that is drawn: the walks. -/
import Derived.Test.YtbbnhbfofdhnbaaG3
import Derived.Test.YtbbnhbfofdhnbaaM4
set_option linter.unusedVariables false
set_option linter.unusedSimpArgs false
namespace Go.Proofs.Ytbbnhbfofdhnbaa
open Go.RowKit
set_option maxHeartbeats 400000
set_option maxRecDepth 20000
theorem shl_shr (b : Wd) : ∃ x : Wd, IntKind.u64.wrap (U b * 4294967296) / 4294967296 = U x ∧ okB x = true := by
  have h0 := U_nonneg b
  have h1 := U_lt b
  rw [IntKind.wrap_u64]
  refine ⟨BitVec.ofInt 64 (U b * 4294967296 % 18446744073709551616 / 4294967296), U_ofInt (by omega) (by omega), ?_⟩
  unfold okB
  rw [BitVec.toNat_ofInt]
  simp
  omega
theorem shl_one {n : Int} (h0 : 0 ≤ n) (h1 : n < 64) : IntKind.u64.wrap (2 ^ n.toNat) = U (1#64 <<< n.toNat) := wrap_pow _ (by omega)
theorem src_any (g k : Nat) (w : World) (hk : k ≤ 100000) (hS : Srcx w g k) :
    Calls Try.prog 21 #[.pointer (some ⟨g, 0, none⟩)] w fun e w' => ∃ a b, e = .returned (.agg #[.int .u64 (U a), .int .u64 (U b)]) ∧ w.grownBy w' (some g) ∧ Srcx w' g (k + 10) := by
  have hz := hS.lt
  have hA := (Bx.new w #[.int .u64 0, .int .u64 0] 26).alloc (.cells #[.int .u64 0, .int .u64 0] 26)
  have hM := Bx.new1 w (.cells #[.int .u64 0, .int .u64 0] 26) #[.int .u64 (U (0#64)), .int .u64 (U (0#64))] 26
  rw [U_zero] at hM
  have hS0 := (hS.keep ((Keep.refl w).alloc (.cells #[.int .u64 0, .int .u64 0] 26))).keep ((Keep.refl _).alloc (.cells #[.int .u64 0, .int .u64 0] 26))
  have hG0 : w.grownBy ((w.alloc (.cells #[.int .u64 0, .int .u64 0] 26)).alloc (.cells #[.int .u64 0, .int .u64 0] 26)) (some g) := grown_keep (((Keep.refl w).alloc _).alloc _) _
  clear hS
  go_enter Try.func21, Try.ntmps21
  (go_wp2_with fail); (go_at_call 34); refine (srcx_pick 8 g k _ (by decide) (by omega) hS0).mono ?_; rintro e w1 ⟨r, rfl, r0, r1, hg1, hS1⟩
  replace hA := hA.grownBy hg1 (by simp; omega)
  replace hM := hM.grownBy hg1 (by simp; omega)
  have hG1 := grown_trans hG0 hg1
  clear hG0 hS0 hg1
  go_wp2_with fail
  go_loopg [4] r.toNat (fun mm s4 wr => ∃ (m : Nat) (a b : Wd), m = mm ∧ s4 = .int .i64 ((m : Int)) ∧ m ≤ 7 ∧ Bx wr w.heap.size #[.int .u64 0, .int .u64 0] 26 ∧ Bx wr (w.heap.size + 1) #[.int .u64 (U a), .int .u64 (U b)] 26 ∧ w.grownBy wr (some g) ∧ Srcx wr g (k + 8 - m))
  case atStart => exact ⟨_, 0#64, 0#64, rfl, by rw [Int.toNat_of_nonneg r0], by omega, hA, by rw [U_zero]; exact hM, hG1, hS1.more (by omega)⟩
  case round =>
    obtain ⟨m, a, b, rfl, rfl, hm, hA, hM, hG, hS⟩ := hrel
    by_cases hm0 : 0 < m
    · have hMs := hM.two
      go_wp2_with fail
      clear hMs
      apply wp_region_src 5 [Fx (.agg #[.int .u64 (U a), .int .u64 (U b)]), Fx (.pointer (some ⟨g, 0, none⟩)), Pk 96, Fp (fun v => ∃ x y : Wd, v = .agg #[.int .u64 (U x), .int .u64 (U y)]), Fp (fun v => ∃ x y : Wd, v = .agg #[.int .u64 (U x), .int .u64 (U y)])] 2 g ((k + 8 - m)) (by kernel_rfl) (by kernel_rfl) ⟨Fx.grow _ _, Fx.grow _ _, Fp.grow _ _, Fp.grow _ _, Fp.grow _ _, trivial⟩ (by decide) hS ?st1 ?tl1
      case st1 =>
        simp only [List.take_succ_cons, List.take_zero, List.drop_succ_cons, List.drop_zero, putAll, Act.put, List.setIfInBounds_toArray, List.set_cons_succ, List.set_cons_zero, Nat.zero_add, Nat.reduceAdd]
        refine StepsJ.cons _ _ _ ?_ (StepsJ.cons _ _ _ ?_ (StepsJ.cons _ _ _ ?_ (StepsJ.cons _ _ _ ?_ (StepsJ.cons _ _ _ ?_ (StepsJ.nil _)))))
        focus
          intro v w2 bJ hb hJ hd
          have hgw := hJ.1
          have hgz := hgw.size
          obtain ⟨hM_0, hM_1, hM_2, hM_3, hM_4⟩ := (hM.grownBy hgw (by first | (simp; omega) | (simp; done) | (intro hcx; simp at hcx; omega))).two
          simp [DepsOf, factAt, Fx, Fp, Pk, Region.binds] at hd
          simp only [factAt, List.getD_cons_zero, List.getD_cons_succ]
          refine Gives.mk ?_
          go_simp
          first | exact ⟨js_other (by decide) (Keep.refl _), Fx.self _ _⟩ | exact ⟨js_other (by decide) ((Keep.refl _).alloc _), _, rfl, Bx.new _ _ _, by first | omega | (simp; omega)⟩
        focus
          intro v w2 bJ hb hJ hd
          have hgw := hJ.1
          have hgz := hgw.size
          obtain ⟨hM_0, hM_1, hM_2, hM_3, hM_4⟩ := (hM.grownBy hgw (by first | (simp; omega) | (simp; done) | (intro hcx; simp at hcx; omega))).two
          simp [DepsOf, factAt, Fx, Fp, Pk, Region.binds] at hd
          simp only [factAt, List.getD_cons_zero, List.getD_cons_succ]
          refine Gives.mk ?_
          go_simp
          first | exact ⟨js_other (by decide) (Keep.refl _), Fx.self _ _⟩ | exact ⟨js_other (by decide) ((Keep.refl _).alloc _), _, rfl, Bx.new _ _ _, by first | omega | (simp; omega)⟩
        focus
          intro v w2 bJ hb hJ hd
          have hgw := hJ.1
          have hgz := hgw.size
          obtain ⟨hM_0, hM_1, hM_2, hM_3, hM_4⟩ := (hM.grownBy hgw (by first | (simp; omega) | (simp; done) | (intro hcx; simp at hcx; omega))).two
          simp [DepsOf, factAt, Fx, Fp, Pk, Region.binds] at hd
          obtain rfl := hb rfl
          simp only [factAt, List.getD_cons_zero, List.getD_cons_succ]
          refine Gives.mk ?_
          go_simp
          first | (go_at_call 34; exact js_pick ⟨by omega, by omega⟩ (by omega) hJ)
        focus
          intro v w2 bJ hb hJ hd
          have hgw := hJ.1
          have hgz := hgw.size
          obtain ⟨hM_0, hM_1, hM_2, hM_3, hM_4⟩ := (hM.grownBy hgw (by first | (simp; omega) | (simp; done) | (intro hcx; simp at hcx; omega))).two
          simp [DepsOf, factAt, Fx, Fp, Pk, Region.binds] at hd
          obtain ⟨r, hr, q0, q1⟩ := hd
          simp only [factAt, List.getD_cons_zero, List.getD_cons_succ]
          refine Gives.mk ?_
          go_simp
          first | exact ⟨js_other (by decide) (Keep.refl _), Fx.self _ _⟩ | exact ⟨js_other (by decide) ((Keep.refl _).alloc _), _, rfl, Bx.new _ _ _, by first | omega | (simp; omega)⟩ | (go_at_call 35; exact js_callp (by decide) (by exact ⟨_, _, rfl⟩) (spec_l01Bit r q0 q1 _))
        focus
          intro v w2 bJ hb hJ hd
          have hgw := hJ.1
          have hgz := hgw.size
          obtain ⟨hM_0, hM_1, hM_2, hM_3, hM_4⟩ := (hM.grownBy hgw (by first | (simp; omega) | (simp; done) | (intro hcx; simp at hcx; omega))).two
          simp [DepsOf, factAt, Fx, Fp, Pk, Region.binds] at hd
          obtain ⟨hv0, x, y, hr⟩ := hd
          simp only [factAt, List.getD_cons_zero, List.getD_cons_succ]
          refine Gives.mk ?_
          go_simp
          first | exact ⟨js_other (by decide) (Keep.refl _), Fx.self _ _⟩ | exact ⟨js_other (by decide) ((Keep.refl _).alloc _), _, rfl, Bx.new _ _ _, by first | omega | (simp; omega)⟩ | (go_at_call 25; exact js_callp (by decide) (by exact ⟨_, _, rfl⟩) (spec_l01Join _ _ _ _ _))
      simp only [List.take_succ_cons, List.take_zero, List.drop_succ_cons, List.drop_zero, putAll, Act.put, List.setIfInBounds_toArray, List.set_cons_succ, List.set_cons_zero, Nat.zero_add, Nat.reduceAdd]
      intro v w2 hgw hS2 hh
      have hgz := hgw.size
      obtain ⟨hM_0, hM_1, hM_2, hM_3, hM_4⟩ := (hM.grownBy hgw (by first | (simp; omega) | (simp; done) | (intro hcx; simp at hcx; omega))).two
      simp only [Held, factAt, List.getD_cons_zero, List.getD_cons_succ, Fx, Fp, Pk, true_and] at hh
      obtain ⟨⟨⟨⟨v_0, v_1⟩, v_2⟩, v_3⟩, v_4⟩ := hh
      simp only [v_0, v_1]
      obtain ⟨a2, b2, e4⟩ := v_4
      simp only [e4]
      have hA2 := hA.grownBy hgw (by simp; omega)
      have hM2 := hM.grownBy hgw (by simp; omega)
      have hG2 := grown_trans hG hgw
      clear hA hM hG hS v_2 v_3 e4 hgw
      go_wp2
      go_roundg (m - 1)
      case measure => omega
      case rel => exact ⟨m - 1, a2, b2, rfl, by rw [show ((m - 1 : Nat) : Int) = (m : Int) - 1 by omega], by omega, (hA2.set' (by simp) _).set' (by simp) _, (hM2.set (i := 0) _).set (i := 1) _, grown_setCell (grown_setCell hG2 (by simp) _) (by simp) _, ((hS2.set (by simp; omega) _).set (by simp; omega) _).more (by omega)⟩
    · have hMs := hM.two
      have hAs := hA.two
      have e0 : m = 0 := by omega
      subst e0
      (go_wp2_with fail); (go_at_call 34); refine (srcx_pick 24 g _ _ (by decide) (by omega) hS).mono ?_; rintro e w2 ⟨r, rfl, r0, r1, hg2, hS2⟩
      replace hA := hA.grownBy hg2 (by simp; omega)
      replace hM := hM.grownBy hg2 (by simp; omega)
      have hG2 := grown_trans hG hg2
      clear hG hS hg2 hMs hAs hS1 hG1
      have hMs := hM.two
      have hAs := hA.two
      by_cases h0 : r = 0
      · subst h0
        go_wp2_with fail
        clear hMs
        have hS := hS2
        apply wp_region_src 8 [Fx (.pointer (some ⟨w.heap.size + 1, 1, none⟩)), Fx (.int .u64 (U b)), Fx (.pointer (some ⟨g, 0, none⟩)), Pk 33, Fp (fun v => ∃ x : Int, v = .int .i64 x ∧ 31 ≤ x ∧ x ≤ 63), Fp (fun v => ∃ x : Int, v = .int .u64 x ∧ 31 ≤ x ∧ x ≤ 63), Fp (fun v => ∃ x : Wd, v = .int .u64 (U x)), Fp (fun v => ∃ x : Wd, v = .int .u64 (U x))] 3 g ((k + 8 - 0 + 1)) (by kernel_rfl) (by kernel_rfl) ⟨Fx.grow _ _, Fx.grow _ _, Fx.grow _ _, Fp.grow _ _, Fp.grow _ _, Fp.grow _ _, Fp.grow _ _, Fp.grow _ _, trivial⟩ (by decide) hS ?st2 ?tl2
        case st2 =>
          simp only [List.take_succ_cons, List.take_zero, List.drop_succ_cons, List.drop_zero, putAll, Act.put, List.setIfInBounds_toArray, List.set_cons_succ, List.set_cons_zero, Nat.zero_add, Nat.reduceAdd]
          refine StepsJ.cons _ _ _ ?_ (StepsJ.cons _ _ _ ?_ (StepsJ.cons _ _ _ ?_ (StepsJ.cons _ _ _ ?_ (StepsJ.cons _ _ _ ?_ (StepsJ.cons _ _ _ ?_ (StepsJ.cons _ _ _ ?_ (StepsJ.cons _ _ _ ?_ (StepsJ.nil _))))))))
          focus
            intro v w2 bJ hb hJ hd
            have hgw := hJ.1
            have hgz := hgw.size
            obtain ⟨hM_0, hM_1, hM_2, hM_3, hM_4⟩ := (hM.grownBy hgw (by first | (simp; omega) | (simp; done) | (intro hcx; simp at hcx; omega))).two
            simp [DepsOf, factAt, Fx, Fp, Pk, Region.binds] at hd
            simp only [factAt, List.getD_cons_zero, List.getD_cons_succ]
            refine Gives.mk ?_
            go_simp
            first | exact ⟨js_other (by decide) (Keep.refl _), Fx.self _ _⟩ | exact ⟨js_other (by decide) ((Keep.refl _).alloc _), _, rfl, Bx.new _ _ _, by first | omega | (simp; omega)⟩
          focus
            intro v w2 bJ hb hJ hd
            have hgw := hJ.1
            have hgz := hgw.size
            obtain ⟨hM_0, hM_1, hM_2, hM_3, hM_4⟩ := (hM.grownBy hgw (by first | (simp; omega) | (simp; done) | (intro hcx; simp at hcx; omega))).two
            simp [DepsOf, factAt, Fx, Fp, Pk, Region.binds] at hd
            simp only [factAt, List.getD_cons_zero, List.getD_cons_succ]
            refine Gives.mk ?_
            go_simp
            first | exact ⟨js_other (by decide) (Keep.refl _), Fx.self _ _⟩ | exact ⟨js_other (by decide) ((Keep.refl _).alloc _), _, rfl, Bx.new _ _ _, by first | omega | (simp; omega)⟩
          focus
            intro v w2 bJ hb hJ hd
            have hgw := hJ.1
            have hgz := hgw.size
            obtain ⟨hM_0, hM_1, hM_2, hM_3, hM_4⟩ := (hM.grownBy hgw (by first | (simp; omega) | (simp; done) | (intro hcx; simp at hcx; omega))).two
            simp [DepsOf, factAt, Fx, Fp, Pk, Region.binds] at hd
            simp only [factAt, List.getD_cons_zero, List.getD_cons_succ]
            refine Gives.mk ?_
            go_simp
            first | exact ⟨js_other (by decide) (Keep.refl _), Fx.self _ _⟩ | exact ⟨js_other (by decide) ((Keep.refl _).alloc _), _, rfl, Bx.new _ _ _, by first | omega | (simp; omega)⟩
          focus
            intro v w2 bJ hb hJ hd
            have hgw := hJ.1
            have hgz := hgw.size
            obtain ⟨hM_0, hM_1, hM_2, hM_3, hM_4⟩ := (hM.grownBy hgw (by first | (simp; omega) | (simp; done) | (intro hcx; simp at hcx; omega))).two
            simp [DepsOf, factAt, Fx, Fp, Pk, Region.binds] at hd
            obtain rfl := hb rfl
            simp only [factAt, List.getD_cons_zero, List.getD_cons_succ]
            refine Gives.mk ?_
            go_simp
            first | (go_at_call 34; exact js_pick ⟨by omega, by omega⟩ (by omega) hJ)
          focus
            intro v w2 bJ hb hJ hd
            have hgw := hJ.1
            have hgz := hgw.size
            obtain ⟨hM_0, hM_1, hM_2, hM_3, hM_4⟩ := (hM.grownBy hgw (by first | (simp; omega) | (simp; done) | (intro hcx; simp at hcx; omega))).two
            simp [DepsOf, factAt, Fx, Fp, Pk, Region.binds] at hd
            obtain ⟨r, hr, q0, q1⟩ := hd
            simp only [factAt, List.getD_cons_zero, List.getD_cons_succ]
            refine Gives.mk ?_
            go_simp
            first | exact ⟨js_other (by decide) (Keep.refl _), Fx.self _ _⟩ | exact ⟨js_other (by decide) ((Keep.refl _).alloc _), _, rfl, Bx.new _ _ _, by first | omega | (simp; omega)⟩ | (exact ⟨js_other (by decide) (Keep.refl _), 31 + r, by rw [wrapI64 ⟨by omega, by omega⟩], by omega, by omega⟩)
          focus
            intro v w2 bJ hb hJ hd
            have hgw := hJ.1
            have hgz := hgw.size
            obtain ⟨hM_0, hM_1, hM_2, hM_3, hM_4⟩ := (hM.grownBy hgw (by first | (simp; omega) | (simp; done) | (intro hcx; simp at hcx; omega))).two
            simp [DepsOf, factAt, Fx, Fp, Pk, Region.binds] at hd
            obtain ⟨r, hr, q0, q1⟩ := hd
            simp only [factAt, List.getD_cons_zero, List.getD_cons_succ]
            refine Gives.mk ?_
            go_simp
            first | exact ⟨js_other (by decide) (Keep.refl _), Fx.self _ _⟩ | exact ⟨js_other (by decide) ((Keep.refl _).alloc _), _, rfl, Bx.new _ _ _, by first | omega | (simp; omega)⟩ | (exact ⟨js_other (by decide) (Keep.refl _), r, by rw [IntKind.wrap_u64, Int.emod_eq_of_lt (by omega) (by omega)], by omega, by omega⟩)
          focus
            intro v w2 bJ hb hJ hd
            have hgw := hJ.1
            have hgz := hgw.size
            obtain ⟨hM_0, hM_1, hM_2, hM_3, hM_4⟩ := (hM.grownBy hgw (by first | (simp; omega) | (simp; done) | (intro hcx; simp at hcx; omega))).two
            simp [DepsOf, factAt, Fx, Fp, Pk, Region.binds] at hd
            obtain ⟨r, hr, q0, q1⟩ := hd
            simp only [factAt, List.getD_cons_zero, List.getD_cons_succ]
            refine Gives.mk ?_
            go_simp
            first | exact ⟨js_other (by decide) (Keep.refl _), Fx.self _ _⟩ | exact ⟨js_other (by decide) ((Keep.refl _).alloc _), _, rfl, Bx.new _ _ _, by first | omega | (simp; omega)⟩ | (exact ⟨js_other (by decide) (Keep.refl _), _, by rw [shl_one (by omega) (by omega)]⟩)
          focus
            intro v w2 bJ hb hJ hd
            have hgw := hJ.1
            have hgz := hgw.size
            obtain ⟨hM_0, hM_1, hM_2, hM_3, hM_4⟩ := (hM.grownBy hgw (by first | (simp; omega) | (simp; done) | (intro hcx; simp at hcx; omega))).two
            simp [DepsOf, factAt, Fx, Fp, Pk, Region.binds] at hd
            obtain ⟨hv0, x, hr⟩ := hd
            simp only [factAt, List.getD_cons_zero, List.getD_cons_succ]
            refine Gives.mk ?_
            go_simp
            first | exact ⟨js_other (by decide) (Keep.refl _), Fx.self _ _⟩ | exact ⟨js_other (by decide) ((Keep.refl _).alloc _), _, rfl, Bx.new _ _ _, by first | omega | (simp; omega)⟩ | (exact ⟨js_other (by decide) (Keep.refl _), _, rfl⟩)
        simp only [List.take_succ_cons, List.take_zero, List.drop_succ_cons, List.drop_zero, putAll, Act.put, List.setIfInBounds_toArray, List.set_cons_succ, List.set_cons_zero, Nat.zero_add, Nat.reduceAdd]
        intro v w2 hgw hS2 hh
        have hgz := hgw.size
        obtain ⟨hM_0, hM_1, hM_2, hM_3, hM_4⟩ := (hM.grownBy hgw (by first | (simp; omega) | (simp; done) | (intro hcx; simp at hcx; omega))).two
        simp only [Held, factAt, List.getD_cons_zero, List.getD_cons_succ, Fx, Fp, Pk, true_and] at hh
        obtain ⟨⟨⟨⟨⟨⟨⟨v_0, v_1⟩, v_2⟩, v_3⟩, v_4⟩, v_5⟩, v_6⟩, v_7⟩ := hh
        simp only [v_0, v_1, v_2]
        obtain ⟨b2, e7⟩ := v_7
        simp only [e7]
        have hA2 := hA.grownBy hgw (by simp; omega)
        have hM2 := (hM.grownBy hgw (by simp; omega)).set (i := 1) (.int .u64 (U b2))
        have hA3 := hA2.set' (a := ⟨w.heap.size + 1, 1, none⟩) (by simp) (.int .u64 (U b2))
        have HG := Aside.mk (grown_setCell (grown_trans hG2 hgw) (p := ⟨w.heap.size + 1, 1, none⟩) (by simp) (.int .u64 (U b2)))
        have HS := Aside.mk (hS2.set (a := ⟨w.heap.size + 1, 1, none⟩) (by simp; omega) (.int .u64 (U b2)))
        have hAs := hA3.two
        have hMt := hM2.two
        clear v_2 v_3 v_4 v_5 v_6 e7 hA hM hS hG2 hgw hS2 hA2 hM2 hA3
        go_wp2
        apply bodyPost_ret; rotate_left; rfl; exact ⟨a, b2, rfl, grown_setCell (grown_setCell HG.out (by simp) _) (by simp) _, ((HS.out.set (by simp; omega) _).set (by simp; omega) _).more (by omega)⟩; simp [results, Try.results21, go_sem, U_zero, *]
      · by_cases h1 : r = 1
        · subst h1
          have HG := Aside.mk hG2
          have HS := Aside.mk hS2
          clear hG2 hS2 hA hM
          go_wp2
          apply bodyPost_ret; rotate_left; rfl; exact ⟨18446744073709551615#64, 4294967295#64, rfl, grown_setCell (grown_setCell (grown_setCell (grown_setCell HG.out (by simp) _) (by simp) _) (by simp) _) (by simp) _, ((((HS.out.set (by simp; omega) _).set (by simp; omega) _).set (by simp; omega) _).set (by simp; omega) _).more (by omega)⟩; simp [results, Try.results21, go_sem, U_zero, U, *]
        · have HG := Aside.mk hG2
          have HS := Aside.mk hS2
          have n0 : (r == 0) = false := by simpa using h0
          have n1 : (r == 1) = false := by simpa using h1
          clear hG2 hS2 hA hM
          go_wp2
          apply bodyPost_ret; rotate_left; rfl; exact ⟨a, b, rfl, grown_setCell (grown_setCell HG.out (by simp) _) (by simp) _, ((HS.out.set (by simp; omega) _).set (by simp; omega) _).more (by omega)⟩; simp [results, Try.results21, go_sem, U_zero, *]
end Go.Proofs.Ytbbnhbfofdhnbaa

/- The law of masks. -/
import Derived.Test.YtbbnhbfofdhnbaaG5
import Derived.Test.YtbbnhbfofdhnbaaGM
import Derived.Test.YtbbnhbfofdhnbaaGP
import Derived.Test.YtbbnhbfofdhnbaaM2
import Derived.Test.YtbbnhbfofdhnbaaM5
import Derived.Test.YtbbnhbfofdhnbaaW7
import Derived.Test.YtbbnhbfofdhnbaaOW
set_option linter.unusedVariables false
set_option linter.unusedSimpArgs false
namespace Go.Proofs.Ytbbnhbfofdhnbaa
open Go.RowKit
set_option maxHeartbeats 8000000
set_option maxRecDepth 20000
theorem okB_or {b d : Wd} (h1 : okB b = true) (h2 : okB d = true) : okB (b ||| d) = true := by
  unfold okB at *
  have h1 : b.toNat < 2 ^ 32 := by simpa using h1
  have h2 : d.toNat < 2 ^ 32 := by simpa using h2
  have := Nat.or_lt_two_pow h1 h2
  simpa using this
theorem or_parts (a c : Wd) : (a &&& c) ||| ((a &&& ~~~c) ||| (c &&& ~~~a)) = a ||| c := by
  apply BitVec.eq_of_getLsbD_eq
  intro i hi
  simp only [BitVec.getLsbD_or, BitVec.getLsbD_and, BitVec.getLsbD_not, BitVec.getLsbD_zero, hi, decide_true, Bool.true_and]
  all_goals (cases h1 : a.getLsbD i <;> cases h2 : c.getLsbD i <;> simp [h1, h2])
theorem less_meet (a c : Wd) : (a &&& ~~~c) &&& c = 0#64 := by
  apply BitVec.eq_of_getLsbD_eq
  intro i hi
  simp only [BitVec.getLsbD_or, BitVec.getLsbD_and, BitVec.getLsbD_not, BitVec.getLsbD_zero, hi, decide_true, Bool.true_and]
  all_goals (cases h1 : a.getLsbD i <;> cases h2 : c.getLsbD i <;> simp [h1, h2])
theorem meet_less (a c : Wd) : (a &&& c) &&& ~~~a = 0#64 := by
  apply BitVec.eq_of_getLsbD_eq
  intro i hi
  simp only [BitVec.getLsbD_or, BitVec.getLsbD_and, BitVec.getLsbD_not, BitVec.getLsbD_zero, hi, decide_true, Bool.true_and]
  all_goals (cases h1 : a.getLsbD i <;> cases h2 : c.getLsbD i <;> simp [h1, h2])
theorem less_or (a c : Wd) : a &&& ~~~(a ||| c) = 0#64 := by
  apply BitVec.eq_of_getLsbD_eq
  intro i hi
  simp only [BitVec.getLsbD_or, BitVec.getLsbD_and, BitVec.getLsbD_not, BitVec.getLsbD_zero, hi, decide_true, Bool.true_and]
  all_goals (cases h1 : a.getLsbD i <;> cases h2 : c.getLsbD i <;> simp [h1, h2])
theorem Bx.at2 {w : World} {g : Nat} {x y : Value} {T : TypeId} (h : Bx w g #[x, y] T) : w.cell? ⟨g, 0, none⟩ = some x ∧ w.cell? ⟨g, 1, none⟩ = some y := ⟨h.cell 0, h.cell 1⟩
/-- What is told of the masks m and n. -/
theorem laws_FnMasks (A : Option Addr) (l : List UInt8) (ca : Nat) (B : Option Addr) (m : List UInt8) (cb : Nat) (w : World) (hl : l.length ≤ 9223372036854775807 ∧ Rd w A (bys l)) (hm : m.length ≤ 9223372036854775807 ∧ Rd w B (bys m)) :
    Calls Try.prog 3 #[.slice A l.length ca, .slice B m.length cb] w fun e w' => e = .returned (.bool true) ∧ Keep w w' := by
  obtain ⟨hl1, hR⟩ := hl
  obtain ⟨hm1, hS⟩ := hm
  by_cases hlong : (decide (3000 < l.length) || decide (3000 < m.length)) = true
  · go_enter Try.func3, Try.ntmps3
    (go_wp2_with fail); (go_at_call 4); (refine (laws_a2Long _ _ _ _ _ _ _).mono ?_); rintro e w1 ⟨rfl, hk1⟩
    rw [hlong]
    go_wp2
    go_ret; exact ⟨rfl, (by ((repeat (first | (with_reducible assumption) | ((with_reducible refine Keep.setCell ?_ ?_ _); rotate_left; focus (first | omega | (simp; done) | (simp; omega))) | (with_reducible refine Keep.alloc ?_ _) | (with_reducible refine Keep.drewN ?_ _) | (with_reducible refine Keep.drew ?_) | (with_reducible exact Keep.refl _) | refine Keep.trans ?_ (by with_reducible assumption) | exact Keep.refl _ | assumption))))⟩
  · have hlong : (decide (3000 < l.length) || decide (3000 < m.length)) = false := by simpa using hlong
    go_enter Try.func3, Try.ntmps3
    (go_wp2_with fail); (go_at_call 4); (refine (laws_a2Long _ _ _ _ _ _ _).mono ?_); rintro e w1 ⟨rfl, hk1⟩
    rw [hlong]
    have k1 : Keep w w1 := (by ((repeat (first | (with_reducible assumption) | ((with_reducible refine Keep.setCell ?_ ?_ _); rotate_left; focus (first | omega | (simp; done) | (simp; omega))) | (with_reducible refine Keep.alloc ?_ _) | (with_reducible refine Keep.drewN ?_ _) | (with_reducible refine Keep.drew ?_) | (with_reducible exact Keep.refl _) | refine Keep.trans ?_ (by with_reducible assumption) | exact Keep.refl _ | assumption))))
    clear hk1 hlong
    (go_wp2_with fail); (go_at_call 5); (refine (spec_A2Mask _ _ _ _ hl1 (hR.keep k1)).mono ?_); rintro e w2 ⟨a, b, hb, rfl, hk2⟩
    have k2 : Keep w w2 := (by ((repeat (first | (with_reducible assumption) | ((with_reducible refine Keep.setCell ?_ ?_ _); rotate_left; focus (first | omega | (simp; done) | (simp; omega))) | (with_reducible refine Keep.alloc ?_ _) | (with_reducible refine Keep.drewN ?_ _) | (with_reducible refine Keep.drew ?_) | (with_reducible exact Keep.refl _) | refine Keep.trans ?_ (by with_reducible assumption) | exact Keep.refl _ | assumption))))
    clear hk2 k1 hR
    (go_wp2_with fail); (go_at_call 5); (refine (spec_A2Mask _ _ _ _ hm1 (hS.keep (k2.alloc _))).mono ?_); rintro e w3 ⟨c, d, hd, rfl, hk3⟩
    have hM : Bx w3 w2.heap.size #[.int .u64 (U a), .int .u64 (U b)] 26 := (Bx.new _ _ _).keep hk3
    have k3 : Keep w w3 := (by ((repeat (first | (with_reducible assumption) | ((with_reducible refine Keep.setCell ?_ ?_ _); rotate_left; focus (first | omega | (simp; done) | (simp; omega))) | (with_reducible refine Keep.alloc ?_ _) | (with_reducible refine Keep.drewN ?_ _) | (with_reducible refine Keep.drew ?_) | (with_reducible exact Keep.refl _) | refine Keep.trans ?_ (by with_reducible assumption) | exact Keep.refl _ | assumption))))
    have hS3 := hS.keep k3
    clear hk3 k2 hS
    have hMs := hM.two
    (go_wp2_with fail); (go_at_call 6); (refine (impl_MeetMasks _ _ _ _ _).mono ?_); rintro e w4 ⟨rfl, hk4⟩
    have hN : Bx w4 w3.heap.size #[.int .u64 (U c), .int .u64 (U d)] 26 := (Bx.new _ _ _).keep hk4
    have kk : Keep w3 w4 := (by ((repeat (first | (with_reducible assumption) | ((with_reducible refine Keep.setCell ?_ ?_ _); rotate_left; focus (first | omega | (simp; done) | (simp; omega))) | (with_reducible refine Keep.alloc ?_ _) | (with_reducible refine Keep.drewN ?_ _) | (with_reducible refine Keep.drew ?_) | (with_reducible exact Keep.refl _) | refine Keep.trans ?_ (by with_reducible assumption) | exact Keep.refl _ | assumption))))
    replace hM := hM.keep kk
    have hS4 := hS3.keep kk
    have k4 := k3.trans kk
    clear hk4 kk k3 hS3 hMs
    have hMs := hM.two
    have hNs := hN.two
    (go_wp2_with fail); (go_at_call 7); (refine (impl_JoinMasks _ _ _ _ _).mono ?_); rintro e w5 ⟨rfl, hk5⟩
    have hB : Bx w5 w4.heap.size #[.int .u64 (U (a &&& c)), .int .u64 (U (b &&& d))] 26 := (Bx.new _ _ _).keep hk5
    have kk : Keep w4 w5 := (by ((repeat (first | (with_reducible assumption) | ((with_reducible refine Keep.setCell ?_ ?_ _); rotate_left; focus (first | omega | (simp; done) | (simp; omega))) | (with_reducible refine Keep.alloc ?_ _) | (with_reducible refine Keep.drewN ?_ _) | (with_reducible refine Keep.drew ?_) | (with_reducible exact Keep.refl _) | refine Keep.trans ?_ (by with_reducible assumption) | exact Keep.refl _ | assumption))))
    replace hM := hM.keep kk
    replace hN := hN.keep kk
    have hS5 := hS4.keep kk
    have k5 := k4.trans kk
    clear hk5 kk k4 hS4 hMs hNs
    have hMs := hM.two
    have hNs := hN.two
    (go_wp2_with fail); (go_at_call 8); (refine (impl_LessMask _ _ _ _ _).mono ?_); rintro e w6 ⟨rfl, hk6⟩
    have hJ : Bx w6 w5.heap.size #[.int .u64 (U (a ||| c)), .int .u64 (U (b ||| d))] 26 := (Bx.new _ _ _).keep hk6
    have kk : Keep w5 w6 := (by ((repeat (first | (with_reducible assumption) | ((with_reducible refine Keep.setCell ?_ ?_ _); rotate_left; focus (first | omega | (simp; done) | (simp; omega))) | (with_reducible refine Keep.alloc ?_ _) | (with_reducible refine Keep.drewN ?_ _) | (with_reducible refine Keep.drew ?_) | (with_reducible exact Keep.refl _) | refine Keep.trans ?_ (by with_reducible assumption) | exact Keep.refl _ | assumption))))
    replace hM := hM.keep kk
    replace hN := hN.keep kk
    replace hB := hB.keep kk
    have hS6 := hS5.keep kk
    have k6 := k5.trans kk
    clear hk6 kk k5 hS5 hMs hNs
    have hMs := hM.two
    have hNs := hN.two
    (go_wp2_with fail); (go_at_call 8); (refine (impl_LessMask _ _ _ _ _).mono ?_); rintro e w7 ⟨rfl, hk7⟩
    have hL : Bx w7 w6.heap.size #[.int .u64 (U (a &&& ~~~c)), .int .u64 (U (b &&& ~~~d))] 26 := (Bx.new _ _ _).keep hk7
    have kk : Keep w6 w7 := (by ((repeat (first | (with_reducible assumption) | ((with_reducible refine Keep.setCell ?_ ?_ _); rotate_left; focus (first | omega | (simp; done) | (simp; omega))) | (with_reducible refine Keep.alloc ?_ _) | (with_reducible refine Keep.drewN ?_ _) | (with_reducible refine Keep.drew ?_) | (with_reducible exact Keep.refl _) | refine Keep.trans ?_ (by with_reducible assumption) | exact Keep.refl _ | assumption))))
    replace hM := hM.keep kk
    replace hN := hN.keep kk
    replace hB := hB.keep kk
    replace hJ := hJ.keep kk
    have hS7 := hS6.keep kk
    have k7 := k6.trans kk
    clear hk7 kk k6 hS6 hMs hNs
    go_wp2_with fail
    refine wp_gen (fun W => Bx W w2.heap.size #[.int .u64 (U a), .int .u64 (U b)] 26 ∧ Bx W w3.heap.size #[.int .u64 (U c), .int .u64 (U d)] 26 ∧ Bx W w4.heap.size #[.int .u64 (U (a &&& c)), .int .u64 (U (b &&& d))] 26 ∧ Bx W w5.heap.size #[.int .u64 (U (a ||| c)), .int .u64 (U (b ||| d))] 26 ∧ Bx W w6.heap.size #[.int .u64 (U (a &&& ~~~c)), .int .u64 (U (b &&& ~~~d))] 26 ∧ Bx W w7.heap.size #[.int .u64 (U (c &&& ~~~a)), .int .u64 (U (d &&& ~~~b))] 26 ∧ Keep w W ∧ Rd W B (bys m)) ⟨hM.alloc _, hN.alloc _, hB.alloc _, hJ.alloc _, hL.alloc _, Bx.new _ _ _, k7.alloc _, hS7.keep ((Keep.refl _).alloc _)⟩ ?_
    clear hM hN hB hJ hL k7 hS7
    rintro W ⟨hM, hN, hB, hJ, hL, hR, hW, hS⟩
    have cM := fun W => impl_ValidMask a b W
    rw [hb] at cM
    have cJ := fun W => impl_ValidMask (a ||| c) (b ||| d) W
    rw [okB_or hb hd] at cJ
    have cO := fun W => impl_JoinMasks (a &&& c) (b &&& d) ((a &&& ~~~c) ||| (c &&& ~~~a)) ((b &&& ~~~d) ||| (d &&& ~~~b)) W
    rw [or_parts, or_parts] at cO
    have cE := fun W => impl_MeetMasks (a &&& ~~~c) (b &&& ~~~d) c d W
    rw [less_meet, less_meet, U_zero] at cE
    have cW1 := fun W => impl_IsWithin (a &&& c) (b &&& d) a b W
    rw [show withinB (a &&& c) (b &&& d) a b = true by simp [withinB, meet_less]] at cW1
    have cW2 := fun W => impl_IsWithin a b (a ||| c) (b ||| d) W
    rw [show withinB a b (a ||| c) (b ||| d) = true by simp [withinB, less_or]] at cW2
    have cW3 := fun W => impl_IsWithin a b c d W
    unfold withinB at cW3
    have cC1 := fun W => impl_CountHoles (a &&& c) (b &&& d) W
    have cC2 := fun W => impl_CountHoles (a &&& ~~~c) (b &&& ~~~d) W
    have cC3 := fun W => impl_CountHoles (c &&& ~~~a) (d &&& ~~~b) W
    have cC := fun W => impl_CountHoles (a ||| c) (b ||| d) W
    have hsum : pc (a ||| c) + pc (b ||| d) = pc (a &&& c) + pc (b &&& d) + (pc (a &&& ~~~c) + pc (b &&& ~~~d)) + (pc (c &&& ~~~a) + pc (d &&& ~~~b)) := by rw [pc_split, pc_split b d]; omega
    rw [hsum] at cC
    have q1 := pc_le (a ||| c)
    have q2 := pc_le (b ||| d)
    generalize pc (a &&& c) + pc (b &&& d) = n1 at *
    generalize pc (a &&& ~~~c) + pc (b &&& ~~~d) = n2 at *
    generalize pc (c &&& ~~~a) + pc (d &&& ~~~b) = n3 at *
    have e1 : IntKind.i64.wrap ((n1 : Int) + n2) = (n1 : Int) + n2 := wrapI64 ⟨by omega, by omega⟩
    have e2 : IntKind.i64.wrap ((n1 : Int) + n2 + n3) = (n1 : Int) + n2 + n3 := wrapI64 ⟨by omega, by omega⟩
    have e3 : ((n1 + n2 + n3 : Nat) : Int) = (n1 : Int) + n2 + n3 := by omega
    rw [e3] at cC
    have cS := fun W => spec_JoinMasks a b c d W
    have cO2 := fun W => impl_JoinMasks (a &&& ~~~c) (b &&& ~~~d) (c &&& ~~~a) (d &&& ~~~b) W
    replace cM := Aside.mk cM
    replace cJ := Aside.mk cJ
    replace cO := Aside.mk cO
    replace cE := Aside.mk cE
    replace cW1 := Aside.mk cW1
    replace cW2 := Aside.mk cW2
    replace cW3 := Aside.mk cW3
    replace cC1 := Aside.mk cC1
    replace cC2 := Aside.mk cC2
    replace cC3 := Aside.mk cC3
    replace cC := Aside.mk cC
    replace cS := Aside.mk cS
    replace cO2 := Aside.mk cO2
    clear q1 q2 hsum hl1
    replace hm1 := Aside.mk hm1
    generalize a &&& c = ba at *
    generalize b &&& d = bb at *
    generalize a &&& ~~~c = la at *
    generalize b &&& ~~~d = lb at *
    generalize c &&& ~~~a = ra at *
    generalize d &&& ~~~b = rb at *
    generalize la ||| ra = ua at *
    generalize lb ||| rb = ub at *
    generalize a ||| c = ja at *
    generalize b ||| d = jb at *
    refine wp_region_keep (by kernel_rfl) (by kernel_rfl) ?_
    repeat
      first
        | (apply QuietL.run
           focus go_simp
           focus
             intro w2 hk
             obtain ⟨hM_0, hM_1⟩ := (hM.keep hk).at2
             obtain ⟨hN_0, hN_1⟩ := (hN.keep hk).at2
             obtain ⟨hB_0, hB_1⟩ := (hB.keep hk).at2
             obtain ⟨hJ_0, hJ_1⟩ := (hJ.keep hk).at2
             obtain ⟨hL_0, hL_1⟩ := (hL.keep hk).at2
             obtain ⟨hR_0, hR_1⟩ := (hR.keep hk).at2
             apply QAt.mk
             go_simp
             first
               | done
               | exact rfl
               | (go_at_call 9; with_reducible exact quiet_call hk (cM.out _))
               | (go_at_call 9; with_reducible exact quiet_call hk (cJ.out _))
               | (go_at_call 7; with_reducible exact quiet_call hk (cO.out _))
               | (go_at_call 7; with_reducible exact quiet_call hk (cO2.out _))
               | (go_at_call 6; with_reducible exact quiet_call hk (cE.out _))
               | (go_at_call 11; with_reducible exact quiet_call hk (cW1.out _))
               | (go_at_call 11; with_reducible exact quiet_call hk (cW2.out _))
               | (go_at_call 11; with_reducible exact quiet_call hk (cW3.out _))
               | (go_at_call 10; with_reducible exact quiet_call hk (cC.out _))
               | (go_at_call 10; with_reducible exact quiet_call hk (cC1.out _))
               | (go_at_call 10; with_reducible exact quiet_call hk (cC2.out _))
               | (go_at_call 10; with_reducible exact quiet_call hk (cC3.out _))
               | (go_at_call 12; with_reducible exact quiet_call hk (cS.out _))
           simp only [Act.put, List.setIfInBounds_toArray, List.set_cons_succ, List.set_cons_zero])
        | (apply QuietL.skip
           focus go_simp
           simp only [Act.put, List.setIfInBounds_toArray, List.set_cons_succ, List.set_cons_zero])
    apply QuietL.nil
    intro w2 hk
    have hM := hM.keep hk
    obtain ⟨hM_0, hM_1⟩ := hM.at2
    have hN := hN.keep hk
    obtain ⟨hN_0, hN_1⟩ := hN.at2
    have hB := hB.keep hk
    obtain ⟨hB_0, hB_1⟩ := hB.at2
    have hJ := hJ.keep hk
    obtain ⟨hJ_0, hJ_1⟩ := hJ.at2
    have hL := hL.keep hk
    obtain ⟨hL_0, hL_1⟩ := hL.at2
    have hR := hR.keep hk
    obtain ⟨hR_0, hR_1⟩ := hR.at2
    clear cM cJ cO cE cW1 cW2 cW3 cC1 cC2 cC3 cC cS cO2 e1 e2 e3 hM_0 hM_1 hN_0 hN_1 hB_0 hB_1 hJ_0 hJ_1 hL_0 hL_1 hR_0 hR_1 hN hB hJ hL hR
    have k8 := hW.trans hk
    have hS8 := hS.keep hk
    clear hW hS hk
    have cH1 := Aside.mk (fun W => impl_HolesIn a b W)
    have cH2 := Aside.mk (fun W => spec_HolesIn a b W)
    simp only [holesL, holesE, hb, cond_true] at cH1 cH2
    have hcnt := hs_count (a := a) hb
    have hlen := hs_len a b 96
    have hMo := Aside.mk (fun A c W h => impl_MaskOf A (hs a b 96) c W (by omega) h)
    simp only [mOfLo, mOfHi, mOfE, hs_hole, cond_true, back_lo, back_hi hb] at hMo
    have hSa := Aside.mk (fun A B c d W h1 h2 => spec_A2Same A B (hs a b 96) (hs a b 96) c d W (by omega) (by omega) h1 h2)
    simp only [decide_true] at hSa
    have hCn := Aside.mk (fun W => impl_CountHoles a b W)
    rw [← hcnt] at hCn
    have hA0 := Aside.mk (fun (k : Nat) (hk : k < 96) A c W h => spec_A2Has A (hs a b 96) c k W (by omega) h)
    have hA : Aside (∀ (k : Nat) (_ : k < 96) (A : Option Addr) (c : Nat) (W : World), Rd W A (ints (hs a b 96)) → Calls Try.prog 20 #[.slice A (hs a b 96).length c, .int .i64 k] W fun e w' => e = .returned (.bool (hasB a b k)) ∧ Keep W w') := Aside.mk (fun k hk A c W h => by have := hA0.out k hk A c W h; rwa [hs_any a b hk] at this)
    clear hA0 hcnt
    generalize hs a b 96 = L at *
    have hMs := hM.two
    (go_wp2_with fail); (go_at_call 13); (refine (cH1.out _).mono ?_); rintro e x1 ⟨v1, rfl, o1, kx⟩
    obtain ⟨A1, c1, rfl⟩ := (Own.new o1).form
    have O1 := Own.new o1
    replace hM := hM.keep kx
    have k9 := k8.trans kx
    have hS9 := hS8.keep kx
    clear kx o1 k8 hS8 hMs
    have hMs := hM.two
    (go_wp2_with fail); (go_at_call 14); (refine (cH2.out _).mono ?_); rintro e x2 ⟨v2, rfl, o2, kx⟩
    obtain ⟨A2, c2, rfl⟩ := (Own.new o2).form
    have O2 := Own.new o2
    replace hM := hM.keep kx
    replace O1 := O1.keep kx
    have k10 := k9.trans kx
    have hS10 := hS9.keep kx
    clear kx o2 k9 hS9 hMs
    (go_wp2_with fail); (go_at_call 15); (refine (hMo.out _ _ _ O1.rd).mono ?_); rintro e x3 ⟨rfl, kx⟩
    replace hM := hM.keep kx
    replace O1 := O1.keep kx
    replace O2 := O2.keep kx
    have k11 := k10.trans kx
    have hS11 := hS10.keep kx
    clear kx k10 hS10 hMo
    (go_wp2_with fail); (go_at_call 16); (refine (hSa.out _ _ _ _ _ (O1.rd.keep ((Keep.refl _).alloc _)) (O2.rd.keep ((Keep.refl _).alloc _))).mono ?_); rintro e x4 ⟨rfl, kx⟩
    have hK : Bx x4 x3.heap.size #[.int .u64 (U a), .int .u64 (U b)] 26 := (Bx.new _ _ _).keep kx
    have kk : Keep x3 x4 := (by ((repeat (first | (with_reducible assumption) | ((with_reducible refine Keep.setCell ?_ ?_ _); rotate_left; focus (first | omega | (simp; done) | (simp; omega))) | (with_reducible refine Keep.alloc ?_ _) | (with_reducible refine Keep.drewN ?_ _) | (with_reducible refine Keep.drew ?_) | (with_reducible exact Keep.refl _) | refine Keep.trans ?_ (by with_reducible assumption) | exact Keep.refl _ | assumption))))
    replace hM := hM.keep kk
    replace O2 := O2.keep kk
    have k12 := k11.trans kk
    have hS12 := hS11.keep kk
    clear kx kk k11 hS11 hSa O1
    have hMs := hM.two
    have hKs := hK.two
    (go_wp2_with fail); (go_at_call 10); (refine (hCn.out _).mono ?_); rintro e x5 ⟨rfl, kx⟩
    replace hM := hM.keep kx
    replace O2 := O2.keep kx
    have k13 := k12.trans kx
    have hS13 := hS12.keep kx
    clear kx k12 hS12 hCn hK hMs hKs
    (go_wp2_with fail); (go_at_call 17); (refine (laws_a2At _ _ _ _ hm1.out hS13).mono ?_); rintro e x6 ⟨r, rfl, r0, r1, kx⟩
    replace hM := hM.keep kx
    replace O2 := O2.keep kx
    have k14 := k13.trans kx
    clear kx k13 hS13
    obtain ⟨k, rfl⟩ : ∃ k : Nat, r = k := ⟨r.toNat, by omega⟩
    have hk96 : k < 96 := by omega
    have hhole : holeB (k : Int) = true := by unfold holeB; simp; omega
    have cA := Aside.mk (fun A c W h => hA.out k hk96 A c W h)
    have c1 := fun W => impl_WithHole a b k true W
    have c2 := fun W => impl_WithHole a b k false W
    have c3 := fun W => impl_HasHole (a ||| bitLo k) (b ||| bitHi k) k W
    have c4 := fun W => impl_HasHole (a &&& ~~~bitLo k) (b &&& ~~~bitHi k) k W
    have c5 := fun W => impl_HasHole a b k W
    simp only [withLo, withHi, askedM, hasHoleM, hb, hhole, cond_true, cond_false, okB_or2 hb (okB_bitHi hk96), okB_less _ hb, has_open _ _ hk96, has_shut _ _ hk96] at c1 c2 c3 c4 c5
    have hfin : (hasB a b k = true ∧ a ||| bitLo k = a ∧ b ||| bitHi k = b) ∨ (hasB a b k = false ∧ a &&& ~~~bitLo k = a ∧ b &&& ~~~bitHi k = b) := by
      cases h : hasB a b k
      · exact .inr ⟨rfl, shut_same h⟩
      · exact .inl ⟨rfl, open_same h⟩
    have C1 := Aside.mk c1
    have C2 := Aside.mk c2
    have C3 := Aside.mk c3
    have C4 := Aside.mk c4
    have C5 := Aside.mk c5
    have HF := Aside.mk hfin
    clear c1 c2 c3 c4 c5 hfin hA hhole
    generalize a ||| bitLo k = oa at *
    generalize b ||| bitHi k = ob at *
    generalize a &&& ~~~bitLo k = sa at *
    generalize b &&& ~~~bitHi k = sb at *
    generalize hasB a b k = hs at *
    have hMs := hM.two
    (go_wp2_with fail); (go_at_call 18); (refine (C1.out _).mono ?_); rintro e x7 ⟨rfl, kx⟩
    replace hM := hM.keep kx
    replace O2 := O2.keep kx
    have k15 := k14.trans kx
    clear kx k14 hMs
    have hMs := (hM.keep ((Keep.refl _).alloc (.cells #[.int .u64 (U oa), .int .u64 (U ob)] 26))).two
    (go_wp2_with fail); (go_at_call 18); (refine (C2.out _).mono ?_); rintro e x8 ⟨rfl, kx⟩
    have hO : Bx x8 x7.heap.size #[.int .u64 (U oa), .int .u64 (U ob)] 26 := (Bx.new _ _ _).keep kx
    have kk : Keep x7 x8 := (by ((repeat (first | (with_reducible assumption) | ((with_reducible refine Keep.setCell ?_ ?_ _); rotate_left; focus (first | omega | (simp; done) | (simp; omega))) | (with_reducible refine Keep.alloc ?_ _) | (with_reducible refine Keep.drewN ?_ _) | (with_reducible refine Keep.drew ?_) | (with_reducible exact Keep.refl _) | refine Keep.trans ?_ (by with_reducible assumption) | exact Keep.refl _ | assumption))))
    replace hM := hM.keep kk
    replace O2 := O2.keep kk
    have k16 := k15.trans kk
    clear kx kk k15 hMs
    have hOs := (hO.keep ((Keep.refl _).alloc (.cells #[.int .u64 (U sa), .int .u64 (U sb)] 26))).two
    (go_wp2_with fail); (go_at_call 19); (refine (C3.out _).mono ?_); rintro e x9 ⟨rfl, kx⟩
    have hT : Bx x9 x8.heap.size #[.int .u64 (U sa), .int .u64 (U sb)] 26 := (Bx.new _ _ _).keep kx
    have kk : Keep x8 x9 := (by ((repeat (first | (with_reducible assumption) | ((with_reducible refine Keep.setCell ?_ ?_ _); rotate_left; focus (first | omega | (simp; done) | (simp; omega))) | (with_reducible refine Keep.alloc ?_ _) | (with_reducible refine Keep.drewN ?_ _) | (with_reducible refine Keep.drew ?_) | (with_reducible exact Keep.refl _) | refine Keep.trans ?_ (by with_reducible assumption) | exact Keep.refl _ | assumption))))
    replace hM := hM.keep kk
    replace hO := hO.keep kk
    replace O2 := O2.keep kk
    have k17 := k16.trans kk
    clear kx kk k16 hOs
    have hTs := hT.two
    (go_wp2_with fail); (go_at_call 19); (refine (C4.out _).mono ?_); rintro e x10 ⟨rfl, kx⟩
    replace hM := hM.keep kx
    replace hO := hO.keep kx
    replace hT := hT.keep kx
    replace O2 := O2.keep kx
    have k18 := k17.trans kx
    clear kx k17 hTs
    have hMs := hM.two
    (go_wp2_with fail); (go_at_call 19); (refine (C5.out _).mono ?_); rintro e x11 ⟨rfl, kx⟩
    replace hM := hM.keep kx
    replace hO := hO.keep kx
    replace hT := hT.keep kx
    replace O2 := O2.keep kx
    have k19 := k18.trans kx
    clear kx k18 hMs
    have hMs := hM.two
    have hOs := hO.two
    have hTs := hT.two
    clear C1 C2 C3 C4 C5
    rcases HF.out with ⟨rfl, rfl, rfl⟩ | ⟨rfl, rfl, rfl⟩
    all_goals
      (go_wp2_with fail); (go_at_call 20); (refine (cA.out _ _ _ O2.rd).mono ?_); rintro e x12 ⟨rfl, kx⟩
      go_wp2
      go_ret; exact ⟨rfl, (by ((repeat (first | (with_reducible assumption) | ((with_reducible refine Keep.setCell ?_ ?_ _); rotate_left; focus (first | omega | (simp; done) | (simp; omega))) | (with_reducible refine Keep.alloc ?_ _) | (with_reducible refine Keep.drewN ?_ _) | (with_reducible refine Keep.drew ?_) | (with_reducible exact Keep.refl _) | refine Keep.trans ?_ (by with_reducible assumption) | exact Keep.refl _ | assumption))))⟩
end Go.Proofs.Ytbbnhbfofdhnbaa

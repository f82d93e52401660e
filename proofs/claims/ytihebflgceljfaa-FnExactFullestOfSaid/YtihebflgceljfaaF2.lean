/- The fullest of masks: the two functions. -/
import Derived.Test.YtihebflgceljfaaF1
set_option linter.unusedVariables false
set_option linter.unusedSimpArgs false
namespace Go.Proofs.Ytihebflgceljfaa
open Go.RowKit
set_option maxHeartbeats 1000000
set_option maxRecDepth 20000
def flE (s z p : Int) (l : List (Wd × Wd)) : Int := if mkE s z p l = 0 then (if l.length = 0 then 6 else 0) else mkE s z p l
def flM (s z p : Int) (l : List (Wd × Wd)) : Int := if flE s z p l = 0 then fuM (rlo s z.toNat) (rhi s z.toNat) l l.length else 0
def flB (s z p : Int) (l : List (Wd × Wd)) : Int := if flE s z p l = 0 then fuB (rlo s z.toNat) (rhi s z.toNat) l l.length else 0
theorem mkE_ok {s z p : Int} {l : List (Wd × Wd)} : mkE s z p l = 0 ↔ mixB s z p = true ∧ l.any badM = false ∧ l.length ≤ 60 := by
  unfold mkE
  cases mixB s z p <;> cases l.any badM <;> by_cases h : l.length ≤ 60 <;> simp [h]
theorem fl_bad {s z p : Int} {l : List (Wd × Wd)} (h : flE s z p l ≠ 0) : flM s z p l = 0 ∧ flB s z p l = 0 := by simp only [flM, flB, if_neg h, and_self]
theorem fl_ok {s z p : Int} {l : List (Wd × Wd)} (h : mkE s z p l = 0) (h0 : l.length ≠ 0) : flE s z p l = 0 ∧ flM s z p l = fuM (rlo s z.toNat) (rhi s z.toNat) l l.length ∧ flB s z p l = fuB (rlo s z.toNat) (rhi s z.toNat) l l.length := by
  have e : flE s z p l = 0 := by simp only [flE, if_pos h, if_neg h0]
  exact ⟨e, by simp only [flM, if_pos e], by simp only [flB, if_pos e]⟩
theorem fl_empty {s z p : Int} {l : List (Wd × Wd)} (h : mkE s z p l = 0) (h0 : l.length = 0) : flE s z p l = 6 ∧ flM s z p l = 0 ∧ flB s z p l = 0 := by
  have e : flE s z p l = 6 := by simp only [flE, if_pos h, if_pos h0]
  have := fl_bad (show flE s z p l ≠ 0 by rw [e]; decide)
  exact ⟨e, this⟩
theorem fl_no {s z p : Int} {l : List (Wd × Wd)} (h : mkE s z p l ≠ 0) : flE s z p l = mkE s z p l ∧ flM s z p l = 0 ∧ flB s z p l = 0 := by
  have e : flE s z p l = mkE s z p l := by simp only [flE, if_neg h]
  have := fl_bad (show flE s z p l ≠ 0 by rw [e]; exact h)
  exact ⟨e, this⟩
theorem spec_FullestOf (s z p : Int) (A : Option Addr) (l : List (Wd × Wd)) (c : Nat) (w : World) (hw : I16 s ∧ I16 z ∧ I16 p) (hm : l.length ≤ 9223372036854775807) (hR : Rd w A (msks l)) :
    Calls Try.prog 7 #[.agg #[.int .i16 s, .int .i16 z, .int .i16 p], .slice A l.length c] w fun e w' => e = .returned (.tuple #[.int .i64 (flB s z p l), .int .i64 (flM s z p l), .int .i64 (flE s z p l)]) ∧ Keep w w' := by
  have hc : ∀ W B bc, Rd W A (msks l) → Bx W w.heap.size #[.int .i16 s, .int .i16 z, .int .i16 p] 29 → Calls Try.prog 34 #[.pointer (some ⟨w.heap.size, 0, none⟩), .slice A l.length c, .slice B 0 bc, .int .i64 0] W fun e w' => e = .returned (.int .i64 (mkE s z p l)) ∧ Keep W w' :=
    fun W B bc h hX => by
      obtain ⟨b0, b1, b2, _⟩ := hX.three
      exact spec_l03AskedM s z p w.heap.size 0 A l c B bc W hw hm h b0 b1 b2
  by_cases h0 : mkE s z p l = 0
  · have hok := mkE_ok.1 h0
    have hmx := mixB_iff.1 hok.1
    rw [h0] at hc
    by_cases hl : l.length = 0
    · obtain ⟨e1, e2, e3⟩ := fl_empty h0 hl
      rw [e1, e2, e3]
      have HL := Aside.mk hl
      clear e1 e2 e3 hl
      go_enter Try.func7, Try.ntmps7
      (go_wp2_with fail); (go_at_call 34); (refine (hc _ _ _ (hR.keep (((Keep.refl _).alloc _).alloc _)) ((Bx.new _ _ _).alloc _)).mono ?_); rintro e w1 ⟨rfl, hk1⟩
      have hl := HL.out
      go_wp2
      (apply bodyPost_ret; rotate_left; rfl; exact ⟨rfl, (by ((repeat (first | (with_reducible assumption) | ((with_reducible refine Keep.setCell ?_ ?_ _); rotate_left; focus (first | omega | (simp; done) | (simp; omega))) | (with_reducible refine Keep.alloc ?_ _) | (with_reducible refine Keep.drewN ?_ _) | (with_reducible refine Keep.drew ?_) | (with_reducible exact Keep.refl _) | refine Keep.trans ?_ (by with_reducible assumption) | exact Keep.refl _ | assumption))))⟩; simp [results, Try.results7, go_sem, U_zero, *])
    · obtain ⟨e1, e2, e3⟩ := fl_ok h0 hl
      rw [e1, e2, e3]
      clear e1 e2 e3 h0
      have hp := fun W h1 h2 h3 => spec_l03Part s z p w.heap.size 0 W (by omega) (by omega) (by omega) h1 h2 h3
      obtain ⟨lo, hlo⟩ : ∃ x, rlo s z.toNat = x := ⟨_, rfl⟩
      obtain ⟨hi', hhi⟩ : ∃ x, rhi s z.toNat = x := ⟨_, rfl⟩
      rw [hlo, hhi] at hp
      rw [hlo, hhi]
      clear hlo hhi hok
      go_enter Try.func7, Try.ntmps7
      (go_wp2_with fail); (go_at_call 34); (refine (hc _ _ _ (hR.keep (((Keep.refl _).alloc _).alloc _)) ((Bx.new _ _ _).alloc _)).mono ?_); rintro e w1 ⟨rfl, hk1⟩
      have hX : Bx w1 w.heap.size #[.int .i16 s, .int .i16 z, .int .i16 p] 29 := ((Bx.new _ _ _).alloc _).keep hk1
      have k1 : Keep w w1 := (by ((repeat (first | (with_reducible assumption) | ((with_reducible refine Keep.setCell ?_ ?_ _); rotate_left; focus (first | omega | (simp; done) | (simp; omega))) | (with_reducible refine Keep.alloc ?_ _) | (with_reducible refine Keep.drewN ?_ _) | (with_reducible refine Keep.drew ?_) | (with_reducible exact Keep.refl _) | refine Keep.trans ?_ (by with_reducible assumption) | exact Keep.refl _ | assumption))))
      clear hk1
      obtain ⟨b0, b1, b2, _⟩ := hX.three
      (go_wp2_with fail); (go_at_call 35); (refine (hp _ b0 b1 b2).mono ?_); rintro e w2 ⟨rfl, hk2⟩
      have HP := Aside.mk (Bx.new w2 #[.int .u64 (U lo), .int .u64 (U hi')] 45)
      have k2 : Keep w w2 := (by ((repeat (first | (with_reducible assumption) | ((with_reducible refine Keep.setCell ?_ ?_ _); rotate_left; focus (first | omega | (simp; done) | (simp; omega))) | (with_reducible refine Keep.alloc ?_ _) | (with_reducible refine Keep.drewN ?_ _) | (with_reducible refine Keep.drew ?_) | (with_reducible exact Keep.refl _) | refine Keep.trans ?_ (by with_reducible assumption) | exact Keep.refl _ | assumption))))
      have z2 : w.heap.size ≤ w2.heap.size := k2.size
      clear hk2 b0 b1 b2 hX hmx
      go_wp2_with fail
      go_loopg [9, 10, 11] l.length (fun k s9 s10 s11 wr => ∃ i : Nat, i + k = l.length ∧ s11 = .int .i64 i ∧ s9 = .int .i64 (fuB lo hi' l i) ∧ s10 = .int .i64 (fuM lo hi' l i) ∧ Bx wr w2.heap.size #[.int .u64 (U lo), .int .u64 (U hi')] 45 ∧ Keep w wr)
      case atStart => exact ⟨0, by omega, rfl, rfl, rfl, HP.out, (by ((repeat (first | (with_reducible assumption) | ((with_reducible refine Keep.setCell ?_ ?_ _); rotate_left; focus (first | omega | (simp; done) | (simp; omega))) | (with_reducible refine Keep.alloc ?_ _) | (with_reducible refine Keep.drewN ?_ _) | (with_reducible refine Keep.drew ?_) | (with_reducible exact Keep.refl _) | refine Keep.trans ?_ (by with_reducible assumption) | exact Keep.refl _ | assumption))))⟩
      case round =>
        obtain ⟨i, hi, rfl, rfl, rfl, hP, hk0⟩ := hrel
        by_cases hlt : i < l.length
        · obtain ⟨bb, o', rfl, hcc⟩ := (hR.keep hk0).at (k := i) (by rw [msks_len]; omega)
          have p1 := hcc _ _ (msks_at l i hlt).1
          have p2 := hcc _ _ (msks_at l i hlt).2
          rw [← Nat.add_assoc] at p2
          have HY := Aside.mk (fun h => fuM_yes (lo := lo) (hi := hi') hlt h)
          have HN := Aside.mk (fun h => fuM_no (lo := lo) (hi := hi') hlt h)
          have hcnt := fun W => spec_CountHoles (l[i].1 &&& lo) (l[i].2 &&& hi') W
          rw [show (((pc (l[i].1 &&& lo) + pc (l[i].2 &&& hi') : Nat)) : Int) = cnM lo hi' l[i] from rfl] at hcnt
          generalize cnM lo hi' l[i] = n at *
          generalize l[i].1 = a at *
          generalize l[i].2 = b at *
          obtain ⟨m, hmm⟩ : ∃ m, fuM lo hi' l i = m := ⟨_, rfl⟩
          obtain ⟨bst, hbb⟩ : ∃ m, fuB lo hi' l i = m := ⟨_, rfl⟩
          rw [hmm] at HY HN ⊢
          rw [hbb] at HN ⊢
          clear hcc hmm hbb
          have hPs := hP.two
          go_wp2_with fail
          clear hPs
          apply wp_region_mono 8 [Fx _, Fx _, Fx _, Fx _, Fx _, Fx _, Fx _, Fx _] (by kernel_rfl) (by kernel_rfl) (mono_of ⟨Fx.mono _, Fx.mono _, Fx.mono _, Fx.mono _, Fx.mono _, Fx.mono _, Fx.mono _, Fx.mono _, trivial⟩) ?st1 ?tl1
          case st1 =>
            simp only [List.take_succ_cons, List.take_zero, List.drop_succ_cons, List.drop_zero, putAll, Act.put, List.setIfInBounds_toArray, List.set_cons_succ, List.set_cons_zero, Nat.zero_add, Nat.reduceAdd]
            refine steps_cons ?_ (steps_cons ?_ (steps_cons ?_ (steps_cons ?_ (steps_cons ?_ (steps_cons ?_ (steps_cons ?_ (steps_cons ?_ steps_nil)))))))
            all_goals
              intro v w2 hk hd
              have p1' := hk.cell p1
              have p2' := hk.cell p2
              obtain ⟨hP_0, hP_1, hP_2, hP_3, hP_4⟩ := (hP.keep hk).two
              have hkz := hk.size
              simp [DepsOf, factAt, Fx, Region.binds] at hd
              simp only [factAt, List.getD_cons_zero, List.getD_cons_succ]
              refine Gives.mk ?_
              go_simp
              first | exact ⟨Keep.refl _, Fx.self _ _⟩ | exact ⟨(Keep.refl _).alloc _, _, rfl, Bx.new _ _ _, by first | omega | (simp; omega)⟩ | (go_at_call 37; exact gives_fx (spec_MeetMasks _ _ _ _ _)) | (go_at_call 36; exact gives_fx (hcnt _))
          simp only [List.take_succ_cons, List.take_zero, List.drop_succ_cons, List.drop_zero, putAll, Act.put, List.setIfInBounds_toArray, List.set_cons_succ, List.set_cons_zero, Nat.zero_add, Nat.reduceAdd]
          intro v w2 hk hh
          have p1' := hk.cell p1
          have p2' := hk.cell p2
          obtain ⟨hP_0, hP_1, hP_2, hP_3, hP_4⟩ := (hP.keep hk).two
          have hkz := hk.size
          simp only [Held, factAt, List.getD_cons_zero, List.getD_cons_succ, Fx, true_and] at hh
          obtain ⟨⟨⟨⟨⟨⟨⟨v_0, v_1⟩, v_2⟩, v_3⟩, v_4⟩, v_5⟩, v_6⟩, v_7⟩ := hh
          simp only [v_0, v_1, v_2, v_3, v_4, v_5, v_6, v_7]
          have hP2 := hP.keep hk
          have k3 := Keep.trans hk0 hk
          by_cases hgt : m < n
          · obtain ⟨y1, y2⟩ := HY.out (by omega)
            have HY1 := Aside.mk y1
            have HY2 := Aside.mk y2
            clear y1 y2 HN hk hP hk0
            go_wp2
            go_roundg (l.length - (i + 1))
            case measure => omega
            case rel => exact ⟨i + 1, by omega, by go_num, by rw [HY2.out], by rw [HY1.out], hP2, (by ((repeat (first | (with_reducible assumption) | ((with_reducible refine Keep.setCell ?_ ?_ _); rotate_left; focus (first | omega | (simp; done) | (simp; omega))) | (with_reducible refine Keep.alloc ?_ _) | (with_reducible refine Keep.drewN ?_ _) | (with_reducible refine Keep.drew ?_) | (with_reducible exact Keep.refl _) | refine Keep.trans ?_ (by with_reducible assumption) | exact Keep.refl _ | assumption))))⟩
          · obtain ⟨y1, y2⟩ := HN.out (by omega)
            have HY1 := Aside.mk y1
            have HY2 := Aside.mk y2
            clear y1 y2 HY hk hP hk0
            go_wp2
            go_roundg (l.length - (i + 1))
            case measure => omega
            case rel => exact ⟨i + 1, by omega, by go_num, by rw [HY2.out], by rw [HY1.out], hP2, (by ((repeat (first | (with_reducible assumption) | ((with_reducible refine Keep.setCell ?_ ?_ _); rotate_left; focus (first | omega | (simp; done) | (simp; omega))) | (with_reducible refine Keep.alloc ?_ _) | (with_reducible refine Keep.drewN ?_ _) | (with_reducible refine Keep.drew ?_) | (with_reducible exact Keep.refl _) | refine Keep.trans ?_ (by with_reducible assumption) | exact Keep.refl _ | assumption))))⟩
        · have e2 : i = l.length := by omega
          subst e2
          go_wp2
          (apply bodyPost_ret; rotate_left; rfl; exact ⟨rfl, (by ((repeat (first | (with_reducible assumption) | ((with_reducible refine Keep.setCell ?_ ?_ _); rotate_left; focus (first | omega | (simp; done) | (simp; omega))) | (with_reducible refine Keep.alloc ?_ _) | (with_reducible refine Keep.drewN ?_ _) | (with_reducible refine Keep.drew ?_) | (with_reducible exact Keep.refl _) | refine Keep.trans ?_ (by with_reducible assumption) | exact Keep.refl _ | assumption))))⟩; simp [results, Try.results7, go_sem, U_zero, *])
  · obtain ⟨e1, e2, e3⟩ := fl_no h0
    rw [e1, e2, e3]
    clear e1 e2 e3
    generalize mkE s z p l = y at *
    go_enter Try.func7, Try.ntmps7
    (go_wp2_with fail); (go_at_call 34); (refine (hc _ _ _ (hR.keep (((Keep.refl _).alloc _).alloc _)) ((Bx.new _ _ _).alloc _)).mono ?_); rintro e w1 ⟨rfl, hk1⟩
    go_wp2
    (apply bodyPost_ret; rotate_left; rfl; exact ⟨rfl, (by ((repeat (first | (with_reducible assumption) | ((with_reducible refine Keep.setCell ?_ ?_ _); rotate_left; focus (first | omega | (simp; done) | (simp; omega))) | (with_reducible refine Keep.alloc ?_ _) | (with_reducible refine Keep.drewN ?_ _) | (with_reducible refine Keep.drew ?_) | (with_reducible exact Keep.refl _) | refine Keep.trans ?_ (by with_reducible assumption) | exact Keep.refl _ | assumption))))⟩; simp [results, Try.results7, go_sem, U_zero, *])
end Go.Proofs.Ytihebflgceljfaa

/- The fewest needles: the program's walk. -/
import Derived.Test.YtpmilcfppcmodaaDoorFW8
set_option linter.unusedVariables false
set_option linter.unusedSimpArgs false
namespace Go.Proofs.YtpmilcfppcmodaaDoor
open Go.RowKit Go.Shelf
set_option maxHeartbeats 2000000
set_option maxRecDepth 20000
theorem impl_FewestNeedles (A B : Option Addr) (l : List Cd) (wd : List Int) (c d : Nat) (w : World) (hm : l.length ≤ 1048576) (hcp : l.length ≤ c) (hw : wd.length ≤ 1048576) (hz : CSz l) (hR : Rd w A (cds l)) (hS : Rd w B (ints wd)) :
    Calls Tryd.prog 20 #[.slice A l.length c, .slice B wd.length d] w fun e w' => e = .returned (.tuple #[.agg #[.int .u64 (U (fwA l wd)), .int .u64 (U (fwB l wd))], .int .i64 (fwE l wd)]) ∧ Keep w w' := by
  have hd := Aside.mk (fun W h => impl_isDeck A l c W (by omega) hcp hz h)
  cases h1 : dkB l
  · have e1 : fwA l wd = 0#64 := by simp only [fwA, h1, cond_false]
    have e2 : fwB l wd = 0#64 := by simp only [fwB, h1, cond_false]
    have e3 : fwE l wd = 1 := by simp only [fwE, h1, cond_false]
    rw [e1, e2, e3]
    rw [h1] at hd
    go_enter Tryd.func20, Tryd.ntmps20
    (go_wp2_with fail); (go_at_call 72); (refine (hd.out _ (hR.keep ((Keep.refl _).alloc _))).mono ?_); rintro e w1 ⟨rfl, hk1⟩
    have hZ : Bx w1 w.heap.size #[.int .u64 0, .int .u64 0] 33 := (Bx.new _ _ _).keep hk1
    have hZs := hZ.two
    go_wp2
    (apply bodyPost_ret; rotate_left; rfl; exact ⟨rfl, (by ((repeat (first | (with_reducible assumption) | ((with_reducible refine Keep.setCell ?_ ?_ _); rotate_left; focus (first | omega | (simp; done) | (simp; omega))) | (with_reducible refine Keep.alloc ?_ _) | (with_reducible refine Keep.drewN ?_ _) | (with_reducible refine Keep.drew ?_) | (with_reducible exact Keep.refl _) | refine Keep.trans ?_ (by with_reducible assumption) | exact Keep.refl _ | assumption))))⟩; simp [results, Tryd.results20, go_sem, U_zero, *])
  · rw [h1] at hd
    go_enter Tryd.func20, Tryd.ntmps20
    (go_wp2_with fail); (go_at_call 72); (refine (hd.out _ (hR.keep ((Keep.refl _).alloc _))).mono ?_); rintro e w1 ⟨rfl, hk1⟩
    have hZ : Bx w1 w.heap.size #[.int .u64 0, .int .u64 0] 33 := (Bx.new _ _ _).keep hk1
    have hW : Keep w w1 := (by ((repeat (first | (with_reducible assumption) | ((with_reducible refine Keep.setCell ?_ ?_ _); rotate_left; focus (first | omega | (simp; done) | (simp; omega))) | (with_reducible refine Keep.alloc ?_ _) | (with_reducible refine Keep.drewN ?_ _) | (with_reducible refine Keep.drew ?_) | (with_reducible exact Keep.refl _) | refine Keep.trans ?_ (by with_reducible assumption) | exact Keep.refl _ | assumption))))
    clear hk1 hd
    go_wp2_with fail
    go_loopg [17] wd.length (fun n s17 wr => ∃ i : Nat, i + n = wd.length ∧ s17 = .int .i64 i ∧ (List.range i).all (wnAt wd l.length) = true ∧ Bx wr w.heap.size #[.int .u64 0, .int .u64 0] 33 ∧ Keep w wr)
    case atStart => exact ⟨0, by omega, rfl, rfl, hZ, (by ((repeat (first | (with_reducible assumption) | ((with_reducible refine Keep.setCell ?_ ?_ _); rotate_left; focus (first | omega | (simp; done) | (simp; omega))) | (with_reducible refine Keep.alloc ?_ _) | (with_reducible refine Keep.drewN ?_ _) | (with_reducible refine Keep.drew ?_) | (with_reducible exact Keep.refl _) | refine Keep.trans ?_ (by with_reducible assumption) | exact Keep.refl _ | assumption))))⟩
    case round =>
      obtain ⟨i, hi, rfl, hal, hZ, hk0⟩ := hrel
      have HL := Aside.mk hal
      have hZs := hZ.two
      clear hal
      by_cases hlt : i < wd.length
      · obtain ⟨bb, o, rfl, hc⟩ := (hS.keep hk0).at (k := i) (by rw [ints_len]; omega)
        have p1 := hc _ _ (ints_at wd i hlt)
        have HSS := Aside.mk (rall_succ (wnAt wd l.length) i)
        have HNO := Aside.mk (fun h => (rall_no (p := wnAt wd l.length) hlt h : (List.range wd.length).all (wnAt wd l.length) = false))
        have HBAD := Aside.mk (fun (h : wnB wd l.length = false) => (show fwA l wd = 0#64 ∧ fwB l wd = 0#64 ∧ fwE l wd = 2 by simp only [fwA, fwB, fwE, h1, h, cond_false, cond_true]; exact ⟨trivial, trivial, trivial⟩))
        generalize hx : wd[i] = x at *
        by_cases hx0 : x < 0
        · have HB := Aside.mk (HBAD.out (HNO.out (by
            have e : inB x 0 ((l.length : Int) - 1) = false := by unfold inB; simp; omega
            cases i with
            | zero => rw [wnAt_zero hlt, hx, e]
            | succ m => rw [wnAt_succ hlt, hx, e]; rfl)))
          clear HBAD HNO HSS HL hc hx
          go_wp2
          (apply bodyPost_ret; rotate_left; rfl; exact ⟨rfl, (by ((repeat (first | (with_reducible assumption) | ((with_reducible refine Keep.setCell ?_ ?_ _); rotate_left; focus (first | omega | (simp; done) | (simp; omega))) | (with_reducible refine Keep.alloc ?_ _) | (with_reducible refine Keep.drewN ?_ _) | (with_reducible refine Keep.drew ?_) | (with_reducible exact Keep.refl _) | refine Keep.trans ?_ (by with_reducible assumption) | exact Keep.refl _ | assumption))))⟩; simp [results, Tryd.results20, go_sem, U_zero, *])
          exact ⟨⟨by rw [HB.out.1]; rfl, by rw [HB.out.2.1]; rfl⟩, by rw [HB.out.2.2]⟩
        · by_cases hxl : (l.length : Int) ≤ x
          · have HB := Aside.mk (HBAD.out (HNO.out (by
              have e : inB x 0 ((l.length : Int) - 1) = false := by unfold inB; simp; omega
              cases i with
              | zero => rw [wnAt_zero hlt, hx, e]
              | succ m => rw [wnAt_succ hlt, hx, e]; rfl)))
            clear HBAD HNO HSS HL hc hx
            go_wp2
            (apply bodyPost_ret; rotate_left; rfl; exact ⟨rfl, (by ((repeat (first | (with_reducible assumption) | ((with_reducible refine Keep.setCell ?_ ?_ _); rotate_left; focus (first | omega | (simp; done) | (simp; omega))) | (with_reducible refine Keep.alloc ?_ _) | (with_reducible refine Keep.drewN ?_ _) | (with_reducible refine Keep.drew ?_) | (with_reducible exact Keep.refl _) | refine Keep.trans ?_ (by with_reducible assumption) | exact Keep.refl _ | assumption))))⟩; simp [results, Tryd.results20, go_sem, U_zero, *])
            exact ⟨⟨by rw [HB.out.1]; rfl, by rw [HB.out.2.1]; rfl⟩, by rw [HB.out.2.2]⟩
          · have e : inB x 0 ((l.length : Int) - 1) = true := by unfold inB; simp; omega
            by_cases hi0 : 0 < i
            · obtain ⟨m, hm1⟩ : ∃ m, i = m + 1 := ⟨i - 1, by omega⟩
              have hml : m < wd.length := by omega
              have q1 := hc _ _ (ints_at wd m hml)
              have HW : Aside (wnAt wd l.length i = decide (wd[m] < x)) := Aside.mk (by subst hm1; rw [wnAt_succ hlt, hx, e, Bool.true_and])
              have hsub : ((i : Int) - 1) = (m : Int) := by omega
              have hwm : IntKind.i64.wrap (m : Int) = m := wrapI64 ⟨by omega, by omega⟩
              clear hc hm1 hx e
              generalize wd[m] = y at *
              by_cases hyx : y < x
              · have HA := Aside.mk (show (List.range (i + 1)).all (wnAt wd l.length) = true by rw [HSS.out, HL.out, HW.out]; simpa using hyx)
                clear HBAD HNO HSS HL HW
                go_wp2
                go_roundg (wd.length - (i + 1))
                case measure => omega
                case rel => exact ⟨i + 1, by omega, by go_num, HA.out, hZ, (by ((repeat (first | (with_reducible assumption) | ((with_reducible refine Keep.setCell ?_ ?_ _); rotate_left; focus (first | omega | (simp; done) | (simp; omega))) | (with_reducible refine Keep.alloc ?_ _) | (with_reducible refine Keep.drewN ?_ _) | (with_reducible refine Keep.drew ?_) | (with_reducible exact Keep.refl _) | refine Keep.trans ?_ (by with_reducible assumption) | exact Keep.refl _ | assumption))))⟩
              · have HB := Aside.mk (HBAD.out (HNO.out (by rw [HW.out]; simpa using hyx)))
                clear HBAD HNO HSS HL HW
                go_wp2
                (apply bodyPost_ret; rotate_left; rfl; exact ⟨rfl, (by ((repeat (first | (with_reducible assumption) | ((with_reducible refine Keep.setCell ?_ ?_ _); rotate_left; focus (first | omega | (simp; done) | (simp; omega))) | (with_reducible refine Keep.alloc ?_ _) | (with_reducible refine Keep.drewN ?_ _) | (with_reducible refine Keep.drew ?_) | (with_reducible exact Keep.refl _) | refine Keep.trans ?_ (by with_reducible assumption) | exact Keep.refl _ | assumption))))⟩; simp [results, Tryd.results20, go_sem, U_zero, *])
                exact ⟨⟨by rw [HB.out.1]; rfl, by rw [HB.out.2.1]; rfl⟩, by rw [HB.out.2.2]⟩
            · obtain rfl : i = 0 := by omega
              have HA := Aside.mk (show (List.range (0 + 1)).all (wnAt wd l.length) = true by rw [HSS.out, HL.out, wnAt_zero hlt, hx, e]; rfl)
              rw [Nat.add_zero] at p1
              clear HBAD HNO HSS HL hc hx e
              go_wp2
              go_roundg (wd.length - (0 + 1))
              case measure => omega
              case rel => exact ⟨0 + 1, by omega, by go_num, HA.out, hZ, (by ((repeat (first | (with_reducible assumption) | ((with_reducible refine Keep.setCell ?_ ?_ _); rotate_left; focus (first | omega | (simp; done) | (simp; omega))) | (with_reducible refine Keep.alloc ?_ _) | (with_reducible refine Keep.drewN ?_ _) | (with_reducible refine Keep.drew ?_) | (with_reducible exact Keep.refl _) | refine Keep.trans ?_ (by with_reducible assumption) | exact Keep.refl _ | assumption))))⟩
      · obtain rfl : i = wd.length := by omega
        have hwn : wnB wd l.length = true := HL.out
        have HF := Aside.mk (show fwA l wd = fnA (fwR l wd) ∧ fwB l wd = fnB (fwR l wd) ∧ fwE l wd = fnE (fwR l wd) by simp only [fwA, fwB, fwE, h1, hwn, cond_true]; exact ⟨trivial, trivial, trivial⟩)
        have hnd := Aside.mk (fun (k : Nat) (W : World) (hk : k ≤ 3) h3 h4 => impl_needles A B l wd c d hm hw (wn_in hwn) k 0 [] none 0 W (by simpa using hk) (by omega) (by simp) h3 h4 (.inl rfl) (fun _ => ⟨rfl, rfl⟩))
        clear HL hwn hZs
        go_wp2_with fail
        go_loopg [45] 4 (fun n s45 wr => ∃ k : Nat, k + n = 4 ∧ s45 = .int .i64 k ∧ (∀ j, j < k → srch (fitB l wd) (mayI l wd) j 0 0#64 0#64 = none) ∧ Bx wr w.heap.size #[.int .u64 0, .int .u64 0] 33 ∧ Keep w wr)
        case atStart => exact ⟨0, by omega, rfl, (fun j hj => by omega), hZ, (by ((repeat (first | (with_reducible assumption) | ((with_reducible refine Keep.setCell ?_ ?_ _); rotate_left; focus (first | omega | (simp; done) | (simp; omega))) | (with_reducible refine Keep.alloc ?_ _) | (with_reducible refine Keep.drewN ?_ _) | (with_reducible refine Keep.drew ?_) | (with_reducible exact Keep.refl _) | refine Keep.trans ?_ (by with_reducible assumption) | exact Keep.refl _ | assumption))))⟩
        case round =>
          obtain ⟨k, hk, rfl, hno, hZ, hk0⟩ := hrel
          have HNO := Aside.mk hno
          clear hno
          by_cases hk4 : k < 4
          · have hr := fun W h3 h4 => hnd.out k W (by omega) h3 h4
            obtain ⟨r, hr2⟩ : ∃ r, srch (fitB l wd) (mayI l wd) k 0 0#64 0#64 = r := ⟨_, rfl⟩
            rw [show orLo 0#64 [] = 0#64 from rfl, show orHi 0#64 [] = 0#64 from rfl, hr2] at hr
            have HR2 := Aside.mk hr2
            clear hr2
            (go_wp2_with fail); (go_at_call 73); (refine (hr _ (hR.keep (by ((repeat (first | (with_reducible assumption) | ((with_reducible refine Keep.setCell ?_ ?_ _); rotate_left; focus (first | omega | (simp; done) | (simp; omega))) | (with_reducible refine Keep.alloc ?_ _) | (with_reducible refine Keep.drewN ?_ _) | (with_reducible refine Keep.drew ?_) | (with_reducible exact Keep.refl _) | refine Keep.trans ?_ (by with_reducible assumption) | exact Keep.refl _ | assumption))))) (hS.keep (by ((repeat (first | (with_reducible assumption) | ((with_reducible refine Keep.setCell ?_ ?_ _); rotate_left; focus (first | omega | (simp; done) | (simp; omega))) | (with_reducible refine Keep.alloc ?_ _) | (with_reducible refine Keep.drewN ?_ _) | (with_reducible refine Keep.drew ?_) | (with_reducible exact Keep.refl _) | refine Keep.trans ?_ (by with_reducible assumption) | exact Keep.refl _ | assumption)))))).mono ?_); rintro e w3 ⟨v, rfl, hfd, hkn⟩
            have k3 := hk0.trans hkn
            replace hZ := hZ.keep hkn
            have HFD := Aside.mk hfd
            clear hfd hkn hr
            cases r with
            | none =>
              have HN2 : Aside (∀ j, j < k + 1 → srch (fitB l wd) (mayI l wd) j 0 0#64 0#64 = none) := Aside.mk (fun j hj => by
                by_cases e : j = k
                · rw [e]; exact HR2.out
                · exact HNO.out j (by omega))
              clear HNO HR2 HFD
              go_wp2
              go_roundg (4 - (k + 1))
              case measure => omega
              case rel => exact ⟨k + 1, by omega, by go_num, HN2.out, hZ, (by ((repeat (first | (with_reducible assumption) | ((with_reducible refine Keep.setCell ?_ ?_ _); rotate_left; focus (first | omega | (simp; done) | (simp; omega))) | (with_reducible refine Keep.alloc ?_ _) | (with_reducible refine Keep.drewN ?_ _) | (with_reducible refine Keep.drew ?_) | (with_reducible exact Keep.refl _) | refine Keep.trans ?_ (by with_reducible assumption) | exact Keep.refl _ | assumption))))⟩
            | some z =>
              obtain ⟨H, ch, hs, rfl, hH, hl4, hb, hzz⟩ := HFD.out z rfl
              have HZ := Aside.mk (show fwA l wd = orLo 0#64 hs ∧ fwB l wd = orHi 0#64 hs ∧ fwE l wd = 0 by
                have e : fwR l wd = some z := fnR_some hk4 HNO.out HR2.out
                rw [HF.out.1, HF.out.2.1, HF.out.2.2, e, hzz]; exact ⟨rfl, rfl, rfl⟩)
              have hwi := Aside.mk (fun W h => impl_withz H hs ch W hb (by omega) h)
              have hZs := hZ.two
              clear HNO HR2 HFD hzz HF
              (go_wp2_with fail); (go_at_call 74); (refine (hwi.out _ (hH.keep (by ((repeat (first | (with_reducible assumption) | ((with_reducible refine Keep.setCell ?_ ?_ _); rotate_left; focus (first | omega | (simp; done) | (simp; omega))) | (with_reducible refine Keep.alloc ?_ _) | (with_reducible refine Keep.drewN ?_ _) | (with_reducible refine Keep.drew ?_) | (with_reducible exact Keep.refl _) | refine Keep.trans ?_ (by with_reducible assumption) | exact Keep.refl _ | assumption)))))).mono ?_); rintro e w4 ⟨rfl, hk4⟩
              replace hZ := hZ.keep hk4
              have hZs := hZ.two
              go_wp2
              (apply bodyPost_ret; rotate_left; rfl; exact ⟨rfl, (by ((repeat (first | (with_reducible assumption) | ((with_reducible refine Keep.setCell ?_ ?_ _); rotate_left; focus (first | omega | (simp; done) | (simp; omega))) | (with_reducible refine Keep.alloc ?_ _) | (with_reducible refine Keep.drewN ?_ _) | (with_reducible refine Keep.drew ?_) | (with_reducible exact Keep.refl _) | refine Keep.trans ?_ (by with_reducible assumption) | exact Keep.refl _ | assumption))))⟩; simp [results, Tryd.results20, go_sem, U_zero, *])
              exact ⟨⟨by rw [HZ.out.1], by rw [HZ.out.2.1]⟩, by rw [HZ.out.2.2]⟩
          · have HZ := Aside.mk (show fwA l wd = 0#64 ∧ fwB l wd = 0#64 ∧ fwE l wd = 6 by
              have e : fwR l wd = none := fnR_none (fun j hj => HNO.out j (by omega))
              rw [HF.out.1, HF.out.2.1, HF.out.2.2, e]; exact ⟨rfl, rfl, rfl⟩)
            have hZs := hZ.two
            clear HNO HF hnd
            go_wp2
            (apply bodyPost_ret; rotate_left; rfl; exact ⟨rfl, (by ((repeat (first | (with_reducible assumption) | ((with_reducible refine Keep.setCell ?_ ?_ _); rotate_left; focus (first | omega | (simp; done) | (simp; omega))) | (with_reducible refine Keep.alloc ?_ _) | (with_reducible refine Keep.drewN ?_ _) | (with_reducible refine Keep.drew ?_) | (with_reducible exact Keep.refl _) | refine Keep.trans ?_ (by with_reducible assumption) | exact Keep.refl _ | assumption))))⟩; simp [results, Tryd.results20, go_sem, U_zero, *])
            exact ⟨⟨by rw [HZ.out.1]; rfl, by rw [HZ.out.2.1]; rfl⟩, by rw [HZ.out.2.2]⟩
end Go.Proofs.YtpmilcfppcmodaaDoor

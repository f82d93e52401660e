/- Is a deck valid: the functions. -/
import Derived.Test.YtpmilcfppcmodaaDoorDK
set_option linter.unusedVariables false
set_option linter.unusedSimpArgs false
namespace Go.Proofs.YtpmilcfppcmodaaDoor
open Go.RowKit Go.Shelf
set_option maxHeartbeats 2000000
set_option maxRecDepth 20000
theorem dkB_no {l : List Cd} {i : Nat} (h : i < l.length) (hb : fineAt l i = false) : dkB l = false := by
  unfold dkB; rw [rall_no h hb]; simp
theorem dkB_yes {l : List Cd} (h : l.length ≤ 80) (hb : (List.range l.length).all (fineAt l) = true) : dkB l = true := by
  unfold dkB; rw [hb]; simp [h]
theorem impl_isDeck (A : Option Addr) (l : List Cd) (c : Nat) (w : World) (hm : l.length ≤ 9223372036854775807) (hcp : l.length ≤ c) (hz : CSz l) (hR : Rd w A (cds l)) :
    Calls Tryd.prog 72 #[.slice A l.length c] w fun e w' => e = .returned (.bool (dkB l)) ∧ Keep w w' := by
  by_cases h80 : l.length ≤ 80
  · go_enter Tryd.func72, Tryd.ntmps72
    go_wp2_with fail
    go_loopg [10] l.length (fun k s10 wr => ∃ i : Nat, i + k = l.length ∧ s10 = .int .i64 i ∧ (List.range i).all (fineAt l) = true ∧ Keep w wr)
    case atStart => exact ⟨0, by omega, rfl, rfl, (by ((repeat (first | (with_reducible assumption) | ((with_reducible refine Keep.setCell ?_ ?_ _); rotate_left; focus (first | omega | (simp; done) | (simp; omega))) | (with_reducible refine Keep.alloc ?_ _) | (with_reducible refine Keep.drewN ?_ _) | (with_reducible refine Keep.drew ?_) | (with_reducible exact Keep.refl _) | refine Keep.trans ?_ (by with_reducible assumption) | exact Keep.refl _ | assumption))))⟩
    case round =>
      obtain ⟨i, hi, rfl, hal, hk0⟩ := hrel
      have HL := Aside.mk hal
      clear hal
      by_cases hlt : i < l.length
      · have hR0 := hR.keep hk0
        obtain ⟨bb, o, rfl, hc⟩ := hR0.at (k := i) (by rw [cds_len]; omega)
        obtain ⟨r1, r2, r3⟩ := cds_at l i hlt
        have p1 := hc _ _ r1
        have p2 := hc _ _ r2
        have p3 := hc _ _ r3
        rw [← Nat.add_assoc] at p2 p3
        have hzs := hz l[i] (List.getElem_mem hlt)
        have HF := Aside.mk (fineAt_at hlt)
        have HN := Aside.mk (fun h => dkB_no hlt h)
        have HS := Aside.mk (rall_succ (fineAt l) i)
        have hlen : (l.take i).length = i := by rw [List.length_take]; omega
        have HC := Aside.mk (fun (s : ByteArray) (g : Nat) (W : World) (h : Rd W (some ⟨bb, o, none⟩) (cds (l.take i))) (hg : W.cell? ⟨g, 0, none⟩ = some (.string s)) => contains_card (some ⟨bb, o, none⟩) (l.take i) c 130 #[.pointer (some ⟨g, 0, none⟩)] (fun x => decide (x.s = s)) W (by omega) h (enters_of Tryd.func130 (by kernel_rfl) rfl) (fun x _ W' hk => isDeck_clo x.s s x.a x.b g W' (hk.cell hg)))
        have HR := Aside.mk (rd_take i hR0)
        clear hc r1 r2 r3
        generalize l[i] = x at *
        obtain ⟨s, a, b⟩ := x
        simp only at p1 p2 p3 hzs HF
        (go_wp2_with fail); (go_at_call 128); (refine (impl_isCard _ _ _ _ hzs).mono ?_); rintro e w1 ⟨rfl, hk1⟩
        have hX : Bx w1 wr.heap.size #[.string s, .int .u64 (U a), .int .u64 (U b)] 108 := (Bx.new _ _ _).keep hk1
        have kk : Keep wr w1 := (by ((repeat (first | (with_reducible assumption) | ((with_reducible refine Keep.setCell ?_ ?_ _); rotate_left; focus (first | omega | (simp; done) | (simp; omega))) | (with_reducible refine Keep.alloc ?_ _) | (with_reducible refine Keep.drewN ?_ _) | (with_reducible refine Keep.drew ?_) | (with_reducible exact Keep.refl _) | refine Keep.trans ?_ (by with_reducible assumption) | exact Keep.refl _ | assumption))))
        have k1 := hk0.trans kk
        have HR1 := Aside.mk (HR.out.keep kk)
        clear hk1 p1 p2 p3 kk HR
        cases h1 : cardB s b
        · have hf : fineAt l i = false := by rw [HF.out, h1]; rfl
          have HA := Aside.mk (HN.out hf)
          clear hf
          go_wp2
          go_ret; exact ⟨rb HA.out.symm, (by ((repeat (first | (with_reducible assumption) | ((with_reducible refine Keep.setCell ?_ ?_ _); rotate_left; focus (first | omega | (simp; done) | (simp; omega))) | (with_reducible refine Keep.alloc ?_ _) | (with_reducible refine Keep.drewN ?_ _) | (with_reducible refine Keep.drew ?_) | (with_reducible exact Keep.refl _) | refine Keep.trans ?_ (by with_reducible assumption) | exact Keep.refl _ | assumption))))⟩
        · have hcon := HC.out s wr.heap.size w1 HR1.out hX.three.1
          rw [hlen] at hcon
          rw [show (l.take i).any (fun x => decide (x.s = s)) = clashB (l.take i) s from rfl] at hcon
          have hXs := hX.three
          cases h2 : clashB (l.take i) s
          · rw [h2] at hcon
            have hf : (List.range (i + 1)).all (fineAt l) = true := by rw [HS.out, HL.out, HF.out, h1, h2]; rfl
            have HA := Aside.mk hf
            clear hf
            (go_wp2_with fail); (go_at_call 129); (refine (hcon).mono ?_); rintro e w2 ⟨rfl, hk2⟩
            go_wp2
            go_roundg (l.length - (i + 1))
            case measure => omega
            case rel => exact ⟨i + 1, by omega, by go_num, HA.out, (by ((repeat (first | (with_reducible assumption) | ((with_reducible refine Keep.setCell ?_ ?_ _); rotate_left; focus (first | omega | (simp; done) | (simp; omega))) | (with_reducible refine Keep.alloc ?_ _) | (with_reducible refine Keep.drewN ?_ _) | (with_reducible refine Keep.drew ?_) | (with_reducible exact Keep.refl _) | refine Keep.trans ?_ (by with_reducible assumption) | exact Keep.refl _ | assumption))))⟩
          · rw [h2] at hcon
            have hf : fineAt l i = false := by rw [HF.out, h1, h2]; rfl
            have HA := Aside.mk (HN.out hf)
            clear hf
            (go_wp2_with fail); (go_at_call 129); (refine (hcon).mono ?_); rintro e w2 ⟨rfl, hk2⟩
            go_wp2
            go_ret; exact ⟨rb HA.out.symm, (by ((repeat (first | (with_reducible assumption) | ((with_reducible refine Keep.setCell ?_ ?_ _); rotate_left; focus (first | omega | (simp; done) | (simp; omega))) | (with_reducible refine Keep.alloc ?_ _) | (with_reducible refine Keep.drewN ?_ _) | (with_reducible refine Keep.drew ?_) | (with_reducible exact Keep.refl _) | refine Keep.trans ?_ (by with_reducible assumption) | exact Keep.refl _ | assumption))))⟩
      · have e2 : i = l.length := by omega
        subst e2
        have HA := Aside.mk (dkB_yes h80 HL.out)
        go_wp2
        go_ret; exact ⟨rb HA.out.symm, (by ((repeat (first | (with_reducible assumption) | ((with_reducible refine Keep.setCell ?_ ?_ _); rotate_left; focus (first | omega | (simp; done) | (simp; omega))) | (with_reducible refine Keep.alloc ?_ _) | (with_reducible refine Keep.drewN ?_ _) | (with_reducible refine Keep.drew ?_) | (with_reducible exact Keep.refl _) | refine Keep.trans ?_ (by with_reducible assumption) | exact Keep.refl _ | assumption))))⟩
  · have e : dkB l = false := by unfold dkB; simp [h80]
    rw [e]
    go_enter Tryd.func72, Tryd.ntmps72
    go_wp2
    go_ret; exact ⟨rfl, (by ((repeat (first | (with_reducible assumption) | ((with_reducible refine Keep.setCell ?_ ?_ _); rotate_left; focus (first | omega | (simp; done) | (simp; omega))) | (with_reducible refine Keep.alloc ?_ _) | (with_reducible refine Keep.drewN ?_ _) | (with_reducible refine Keep.drew ?_) | (with_reducible exact Keep.refl _) | refine Keep.trans ?_ (by with_reducible assumption) | exact Keep.refl _ | assumption))))⟩
theorem spec_l02Ok (A : Option Addr) (l : List Cd) (c : Nat) (w : World) (hm : l.length ≤ 9223372036854775807) (hz : CSz l) (hR : Rd w A (cds l)) :
    Calls Tryd.prog 67 #[.slice A l.length c] w fun e w' => e = .returned (.bool (dkB l)) ∧ Keep w w' := by
  by_cases h80 : l.length ≤ 80
  · go_enter Tryd.func67, Tryd.ntmps67
    go_wp2_with fail
    go_loopg [3] l.length (fun k s3 wr => ∃ i : Nat, i + k = l.length ∧ s3 = .int .i64 i ∧ (List.range i).all (fineAt l) = true ∧ Keep w wr)
    case atStart => exact ⟨0, by omega, rfl, rfl, (by ((repeat (first | (with_reducible assumption) | ((with_reducible refine Keep.setCell ?_ ?_ _); rotate_left; focus (first | omega | (simp; done) | (simp; omega))) | (with_reducible refine Keep.alloc ?_ _) | (with_reducible refine Keep.drewN ?_ _) | (with_reducible refine Keep.drew ?_) | (with_reducible exact Keep.refl _) | refine Keep.trans ?_ (by with_reducible assumption) | exact Keep.refl _ | assumption))))⟩
    case round =>
      obtain ⟨i, hi, rfl, hal, hk0⟩ := hrel
      have HL := Aside.mk hal
      clear hal
      by_cases hlt : i < l.length
      · have hR0 := hR.keep hk0
        obtain ⟨bb, o, rfl, hc⟩ := hR0.at (k := i) (by rw [cds_len]; omega)
        obtain ⟨r1, r2, r3⟩ := cds_at l i hlt
        have p1 := hc _ _ r1
        have p2 := hc _ _ r2
        have p3 := hc _ _ r3
        rw [← Nat.add_assoc] at p2 p3
        have hzs := hz l[i] (List.getElem_mem hlt)
        have HF := Aside.mk (fineAt_at hlt)
        have HN := Aside.mk (fun h => dkB_no hlt h)
        have HS := Aside.mk (rall_succ (fineAt l) i)
        clear hc r1 r2 r3
        obtain ⟨x, hx⟩ : ∃ x, l[i] = x := ⟨_, rfl⟩
        rw [hx] at p1 p2 p3 hzs HF
        obtain ⟨s, a, b⟩ := x
        simp only at p1 p2 p3 hzs HF
        (go_wp2_with fail); (go_at_call 124); (refine (spec_l01Ok _ _ _ _ _ _ hzs p1 p2 p3).mono ?_); rintro e w1 ⟨rfl, hk1⟩
        have p1' := hk1.cell p1
        have k1 := hk0.trans hk1
        clear hk1 p1 p2 p3 hk0
        cases h1 : cardB s b
        · have hf : fineAt l i = false := by rw [HF.out, h1]; rfl
          have HA := Aside.mk (HN.out hf)
          clear hf
          go_wp2
          go_ret; exact ⟨rb HA.out.symm, (by ((repeat (first | (with_reducible assumption) | ((with_reducible refine Keep.setCell ?_ ?_ _); rotate_left; focus (first | omega | (simp; done) | (simp; omega))) | (with_reducible refine Keep.alloc ?_ _) | (with_reducible refine Keep.drewN ?_ _) | (with_reducible refine Keep.drew ?_) | (with_reducible exact Keep.refl _) | refine Keep.trans ?_ (by with_reducible assumption) | exact Keep.refl _ | assumption))))⟩
        · go_wp2_with fail
          go_loopg [4] i (fun k2 s4 wq => ∃ j : Nat, j + k2 = i ∧ s4 = .int .i64 j ∧ (l.take j).any (fun x => decide (x.s = s)) = false ∧ Keep w wq ∧ wq.cell? ⟨bb, o + i * 3, none⟩ = some (.string s))
          case atStart => exact ⟨0, by omega, rfl, rfl, (by ((repeat (first | (with_reducible assumption) | ((with_reducible refine Keep.setCell ?_ ?_ _); rotate_left; focus (first | omega | (simp; done) | (simp; omega))) | (with_reducible refine Keep.alloc ?_ _) | (with_reducible refine Keep.drewN ?_ _) | (with_reducible refine Keep.drew ?_) | (with_reducible exact Keep.refl _) | refine Keep.trans ?_ (by with_reducible assumption) | exact Keep.refl _ | assumption)))), p1'⟩
          case round =>
            obtain ⟨j, hj, rfl, haj, hk2, q1⟩ := hrel
            have HJ := Aside.mk haj
            clear haj
            by_cases hjl : j < i
            · have hjl2 : j < l.length := by omega
              obtain ⟨b2, o2, hbo, hc2⟩ := (hR.keep hk2).at (k := j) (by rw [cds_len]; omega)
              simp only [Option.some.injEq, Addr.mk.injEq, and_true] at hbo
              obtain ⟨rfl, rfl⟩ := hbo
              have t1 := hc2 _ _ (cds_at l j hjl2).1
              have hT := any_takeD (q := fun x => decide (x.s = s)) hjl2
              rw [HJ.out, Bool.false_or] at hT
              have HT := Aside.mk hT
              have HQ := Aside.mk (fun (h : decide (l[j].s = s) = true) => (show clashB (l.take i) s = true from any_ofD (l := l.take i) (i := j) (by rw [List.length_take]; omega) (by rw [List.getElem_take]; exact h)))
              clear hc2 hT
              generalize l[j].s = y at *
              by_cases hy : y = s
              · subst hy
                have h2 := HQ.out (by simp)
                have hf : fineAt l i = false := by rw [HF.out, h1, h2]; rfl
                have HA := Aside.mk (HN.out hf)
                clear hf h2
                go_wp2_with fail
                refine wp_region_keep (by kernel_rfl) (by kernel_rfl) ?_
                repeat
                  first
                    | (apply QuietL.run
                       focus go_simp
                       focus
                         intro w2 hk
                         have t1' := hk.cell t1
                         have q1' := hk.cell q1
                         apply QAt.mk
                         go_simp
                         first
                           | done
                           | exact rfl
                       simp only [Act.put, List.setIfInBounds_toArray, List.set_cons_succ, List.set_cons_zero])
                    | (apply QuietL.skip
                       focus go_simp
                       simp only [Act.put, List.setIfInBounds_toArray, List.set_cons_succ, List.set_cons_zero])
                apply QuietL.nil
                intro w2 hk
                have t1' := hk.cell t1
                have q1' := hk.cell q1
                go_wp2
                go_ret; exact ⟨rb HA.out.symm, (by ((repeat (first | (with_reducible assumption) | ((with_reducible refine Keep.setCell ?_ ?_ _); rotate_left; focus (first | omega | (simp; done) | (simp; omega))) | (with_reducible refine Keep.alloc ?_ _) | (with_reducible refine Keep.drewN ?_ _) | (with_reducible refine Keep.drew ?_) | (with_reducible exact Keep.refl _) | refine Keep.trans ?_ (by with_reducible assumption) | exact Keep.refl _ | assumption))))⟩
              · have hy' : ¬ y.toList = s.toList := fun k => hy (toList_eq.1 k)
                have hy2 : (y.toList == s.toList) = false := by simpa using hy'
                have HT2 := Aside.mk (HT.out.trans (decide_eq_false hy))
                clear HT HQ
                go_wp2_with fail
                refine wp_region_keep (by kernel_rfl) (by kernel_rfl) ?_
                repeat
                  first
                    | (apply QuietL.run
                       focus go_simp
                       focus
                         intro w2 hk
                         have t1' := hk.cell t1
                         have q1' := hk.cell q1
                         apply QAt.mk
                         go_simp
                         first
                           | done
                           | exact rfl
                       simp only [Act.put, List.setIfInBounds_toArray, List.set_cons_succ, List.set_cons_zero])
                    | (apply QuietL.skip
                       focus go_simp
                       simp only [Act.put, List.setIfInBounds_toArray, List.set_cons_succ, List.set_cons_zero])
                apply QuietL.nil
                intro w2 hk
                have t1' := hk.cell t1
                have q1' := hk.cell q1
                go_wp2
                go_roundg (i - (j + 1))
                case measure => omega
                case rel => exact ⟨j + 1, by omega, by go_num, HT2.out, (by ((repeat (first | (with_reducible assumption) | ((with_reducible refine Keep.setCell ?_ ?_ _); rotate_left; focus (first | omega | (simp; done) | (simp; omega))) | (with_reducible refine Keep.alloc ?_ _) | (with_reducible refine Keep.drewN ?_ _) | (with_reducible refine Keep.drew ?_) | (with_reducible exact Keep.refl _) | refine Keep.trans ?_ (by with_reducible assumption) | exact Keep.refl _ | assumption)))), q1'⟩
            · have e3 : j = i := by omega
              subst e3
              have h2 : clashB (l.take j) s = false := HJ.out
              have hf : (List.range (j + 1)).all (fineAt l) = true := by rw [HS.out, HL.out, HF.out, h1, h2]; rfl
              have HA := Aside.mk hf
              clear hf h2
              go_wp2
              go_roundg (l.length - (j + 1))
              case measure => omega
              case rel => exact ⟨j + 1, by omega, by go_num, HA.out, (by ((repeat (first | (with_reducible assumption) | ((with_reducible refine Keep.setCell ?_ ?_ _); rotate_left; focus (first | omega | (simp; done) | (simp; omega))) | (with_reducible refine Keep.alloc ?_ _) | (with_reducible refine Keep.drewN ?_ _) | (with_reducible refine Keep.drew ?_) | (with_reducible exact Keep.refl _) | refine Keep.trans ?_ (by with_reducible assumption) | exact Keep.refl _ | assumption))))⟩
      · have e2 : i = l.length := by omega
        subst e2
        have HA := Aside.mk (dkB_yes h80 HL.out)
        go_wp2
        go_ret; exact ⟨rb HA.out.symm, (by ((repeat (first | (with_reducible assumption) | ((with_reducible refine Keep.setCell ?_ ?_ _); rotate_left; focus (first | omega | (simp; done) | (simp; omega))) | (with_reducible refine Keep.alloc ?_ _) | (with_reducible refine Keep.drewN ?_ _) | (with_reducible refine Keep.drew ?_) | (with_reducible exact Keep.refl _) | refine Keep.trans ?_ (by with_reducible assumption) | exact Keep.refl _ | assumption))))⟩
  · have e : dkB l = false := by unfold dkB; simp [h80]
    rw [e]
    go_enter Tryd.func67, Tryd.ntmps67
    go_wp2
    go_ret; exact ⟨rfl, (by ((repeat (first | (with_reducible assumption) | ((with_reducible refine Keep.setCell ?_ ?_ _); rotate_left; focus (first | omega | (simp; done) | (simp; omega))) | (with_reducible refine Keep.alloc ?_ _) | (with_reducible refine Keep.drewN ?_ _) | (with_reducible refine Keep.drew ?_) | (with_reducible exact Keep.refl _) | refine Keep.trans ?_ (by with_reducible assumption) | exact Keep.refl _ | assumption))))⟩
end Go.Proofs.YtpmilcfppcmodaaDoor

/- The program's code of a value: digits from the last to the first. -/
import Derived.Test.YtbgegnbcjklmjaaDoorE5
set_option linter.unusedVariables false
set_option linter.unusedSimpArgs false
namespace Go.Proofs.YtbgegnbcjklmjaaDoor
open Go.RowKit
set_option maxHeartbeats 8000000
set_option maxRecDepth 20000
theorem atP_len (p : Int) (l : List Int) : (atP p l).length = l.length := by simp [atP]
theorem atP_at (p : Int) (l : List Int) (j : Nat) (h : j < l.length) : (atP p l)[j]'(by rw [atP_len]; exact h) = p + l[j] := by simp [atP]
theorem orLoP (a : Wd) (p : Int) (l : List Int) (j : Nat) (h : j < l.length) : orLo a ((atP p l).take (j + 1)) = orLo a ((atP p l).take j) ||| bitLo (p + l[j]) := by
  rw [orLo_succ a (atP p l) j (by rw [atP_len]; exact h), atP_at p l j h]
theorem orHiP (a : Wd) (p : Int) (l : List Int) (j : Nat) (h : j < l.length) : orHi a ((atP p l).take (j + 1)) = orHi a ((atP p l).take j) ||| bitHi (p + l[j]) := by
  rw [orHi_succ a (atP p l) j (by rw [atP_len]; exact h), atP_at p l j h]
theorem dhs_range {k d : Int} (hk : k = 1 ∨ k = 2) (h : 0 ≤ d ∧ d < 10) : (dhs k d).length ≤ 2 ∧ ∀ x ∈ dhs k d, 0 ≤ x ∧ x < wdt k := by
  rcases hk with rfl | rfl <;> rcases ten h with rfl | rfl | rfl | rfl | rfl | rfl | rfl | rfl | rfl | rfl <;> decide
theorem dgt_down {v sz : Int} {r : Nat} (h : (r : Int) < sz) (v0 : 0 ≤ v) : v / pw 10 (sz.toNat - (r + 1)) % 10 = dgt v sz r := by
  unfold dgt
  rw [show (sz - 1 - r).toNat = sz.toNat - (r + 1) by omega]
theorem val_down {v sz : Int} {r : Nat} (h : (r : Int) < sz) (v0 : 0 ≤ v) : v / pw 10 (sz.toNat - (r + 1)) / 10 = v / pw 10 (sz.toNat - r) := by
  have pp := pw_pos (b := 10) (by decide) (sz.toNat - (r + 1))
  rw [Int.ediv_ediv_of_nonneg (by omega), ← pw_succ, show sz.toNat - (r + 1) + 1 = sz.toNat - r by omega]
theorem vdig {v : Int} (v0 : 0 ≤ v) (n : Nat) : 0 ≤ v / pw 10 n ∧ v / pw 10 n ≤ v := by
  have pp := pw_pos (b := 10) (by decide) n
  exact ⟨Int.ediv_nonneg v0 (by omega), Int.ediv_le_self _ v0⟩
theorem impl_encode_1 (s : ByteArray) (st sz v : Int) (w : World) (hz : 1 ≤ sz ∧ sz ≤ 4) (h0 : 0 ≤ st) (h2 : st + 4 * sz ≤ 96) (v0 : 0 ≤ v) (v1 : v ≤ 9999) :
    Calls Tryd.prog 70 #[.agg #[.string s, .int .i8 1, .int .i16 st, .int .i16 sz], .int .i64 v] w fun e w' => e = .returned (.agg #[.int .u64 (U (eLo 1 st sz v sz.toNat)), .int .u64 (U (eHi 1 st sz v sz.toNat))]) ∧ Keep w w' := by
  have e1 : IntKind.i64.wrap st = st := wrapI64 ⟨by omega, by omega⟩
  have e2 : IntKind.i64.wrap sz = sz := wrapI64 ⟨by omega, by omega⟩
  have hI16 : I16 sz := by unfold I16; omega
  have hmany : ∀ W, Calls Tryd.prog 55 #[.agg #[.string s, .int .i8 1, .int .i16 st, .int .i16 sz]] W fun e w' => e = .returned (.int .i64 (4 * sz)) ∧ Keep W w' := fun W => by simpa [widthN] using impl_many s 1 st sz W hI16
  have eq1 : 4 * sz / sz = 4 := Int.mul_ediv_cancel _ (by omega)
  go_enter Tryd.func70, Tryd.ntmps70
  go_wp2_with fail
  refine wp_gen (fun W => Bx W w.heap.size #[.string s, .int .i8 1, .int .i16 st, .int .i16 sz] 39 ∧ Bx W (w.heap.size + 1) #[.int .u64 0, .int .u64 0] 28 ∧ Bx W (w.heap.size + 1 + 1) #[.int .u64 0, .int .u64 0] 28 ∧ Keep w W) ⟨((Bx.new _ _ _).alloc _).alloc _, (Bx.new1 _ _ _ _).alloc _, Bx.new2 _ _ _ _ _, (by ((repeat (first | (with_reducible assumption) | ((with_reducible refine Keep.setCell ?_ ?_ _); rotate_left; focus (first | omega | (simp; done) | (simp; omega))) | (with_reducible refine Keep.alloc ?_ _) | (with_reducible refine Keep.drewN ?_ _) | (with_reducible refine Keep.drew ?_) | (with_reducible exact Keep.refl _) | refine Keep.trans ?_ (by with_reducible assumption) | exact Keep.refl _ | assumption))))⟩ ?_
  rintro W ⟨hF, hR, hM, hW⟩
  refine wp_region_keep (by kernel_rfl) (by kernel_rfl) ?_
  repeat
    first
      | (apply QuietL.run
         focus go_simp
         focus
           intro w2 hk
           obtain ⟨hF_0, hF_1, hF_2, hF_3, hF_4, hF_5, hF_6, hF_7, hF_8⟩ := (hF.keep hk).four
           obtain ⟨hR_0, hR_1, hR_2, hR_3, hR_4⟩ := (hR.keep hk).two
           obtain ⟨hM_0, hM_1, hM_2, hM_3, hM_4⟩ := (hM.keep hk).two
           apply QAt.mk
           go_simp
           first
             | done
             | exact rfl
         simp only [Act.put, List.setIfInBounds_toArray, List.set_cons_succ, List.set_cons_zero])
      | (apply QuietL.skip
         focus go_simp
         simp only [Act.put, List.setIfInBounds_toArray, List.set_cons_succ, List.set_cons_zero])
  apply QuietL.nil
  intro w2 hk
  have hF := hF.keep hk
  obtain ⟨hF_0, hF_1, hF_2, hF_3, hF_4, hF_5, hF_6, hF_7, hF_8⟩ := hF.four
  have hR := hR.keep hk
  obtain ⟨hR_0, hR_1, hR_2, hR_3, hR_4⟩ := hR.two
  have hM := hM.keep hk
  obtain ⟨hM_0, hM_1, hM_2, hM_3, hM_4⟩ := hM.two
  have k2 : Keep w w2 := (by ((repeat (first | (with_reducible assumption) | ((with_reducible refine Keep.setCell ?_ ?_ _); rotate_left; focus (first | omega | (simp; done) | (simp; omega))) | (with_reducible refine Keep.alloc ?_ _) | (with_reducible refine Keep.drewN ?_ _) | (with_reducible refine Keep.drew ?_) | (with_reducible exact Keep.refl _) | refine Keep.trans ?_ (by with_reducible assumption) | exact Keep.refl _ | assumption))))
  (go_wp2_with fail); (go_at_call 55); (refine (hmany _).mono ?_); rintro e w3 ⟨rfl, hk3⟩
  have hF3 := hF.keep hk3
  have HR := Aside.mk (hR.keep hk3)
  have HM := Aside.mk (hM.keep hk3)
  have k3 : Keep w w3 := (by ((repeat (first | (with_reducible assumption) | ((with_reducible refine Keep.setCell ?_ ?_ _); rotate_left; focus (first | omega | (simp; done) | (simp; omega))) | (with_reducible refine Keep.alloc ?_ _) | (with_reducible refine Keep.drewN ?_ _) | (with_reducible refine Keep.drew ?_) | (with_reducible exact Keep.refl _) | refine Keep.trans ?_ (by with_reducible assumption) | exact Keep.refl _ | assumption))))
  have e3 : IntKind.i64.wrap (sz - 1) = sz - 1 := wrapI64 ⟨by omega, by omega⟩
  clear hF hR hM hk hk3 k2 hR_0 hR_1 hR_2 hR_3 hR_4 hM_0 hM_1 hM_2 hM_3 hM_4 hF_0 hF_1 hF_2 hF_3 hF_4 hF_5 hF_6 hF_7 hF_8
  go_wp2_with fail
  simp only [eq1]
  go_loopg [1, 10] sz.toNat (fun k s1 s2 wr => ∃ (r : Nat) (x y : Wd), r = k ∧ (r : Int) ≤ sz ∧ s1 = .int .i64 (v / pw 10 (sz.toNat - r)) ∧ s2 = .int .i64 (r - 1) ∧ (x ||| eLo 1 st sz v r = eLo 1 st sz v sz.toNat ∧ y ||| eHi 1 st sz v r = eHi 1 st sz v sz.toNat) ∧ Bx wr w.heap.size #[.string s, .int .i8 1, .int .i16 st, .int .i16 sz] 39 ∧ Bx wr (w.heap.size + 1) #[.int .u64 0, .int .u64 0] 28 ∧ Bx wr (w.heap.size + 1 + 1) #[.int .u64 (U x), .int .u64 (U y)] 28 ∧ Keep w wr)
  case atStart => exact ⟨sz.toNat, 0#64, 0#64, rfl, by omega, by simp [pw_zero], by (first | rfl | (congr 1; omega)), ⟨by simp, by simp⟩, hF3, HR.out, HM.out, (by ((repeat (first | (with_reducible assumption) | ((with_reducible refine Keep.setCell ?_ ?_ _); rotate_left; focus (first | omega | (simp; done) | (simp; omega))) | (with_reducible refine Keep.alloc ?_ _) | (with_reducible refine Keep.drewN ?_ _) | (with_reducible refine Keep.drew ?_) | (with_reducible exact Keep.refl _) | refine Keep.trans ?_ (by with_reducible assumption) | exact Keep.refl _ | assumption))))⟩
  case round =>
    obtain ⟨r, x, y, rfl, hr, rfl, rfl, hxy, hF, hR, hM, hk⟩ := hrel
    by_cases hpos : 0 < r
    · obtain ⟨q, rfl⟩ : ∃ q, r = q + 1 := ⟨r - 1, by omega⟩
      have hq : (q : Int) < sz := by omega
      have hd := dgt_down hq v0
      have hv := val_down hq v0
      have hvr := vdig v0 (sz.toNat - (q + 1))
      have hdr := dgt_range v sz q
      have hp : st + wdt 1 * q = st + q * 4 := by rw [show wdt 1 = 4 from rfl]; omega
      have hL1 := eLo_back (v := v) hxy.1
      have hH1 := eHi_back (v := v) hxy.2
      rw [hp, ← nLo_dhs x _ (k := 1) (by decide) hdr] at hL1
      rw [hp, ← nHi_dhs y _ (k := 1) (by decide) hdr] at hH1
      have ht : (v / pw 10 (sz.toNat - (q + 1))).tmod 10 = dgt v sz q := by rw [Int.tmod_eq_emod_of_nonneg hvr.1]; exact hd
      obtain ⟨hlen, hmem⟩ := dhs_range (k := 1) (by decide) hdr
      rw [show wdt 1 = 4 from rfl] at hmem
      have eq2 : ((q + 1 : Nat) : Int) - 1 = q := by omega
      rw [eq2]
      have hdigit := impl_digitHoles s 1 st sz (dgt v sz q)
      generalize dgt v sz q = d at *
      generalize hVV : v / pw 10 (sz.toNat - (q + 1)) = vv at *
      generalize hdl : dhs 1 d = l at *
      generalize hxL : orLo x (atP (st + q * 4) l) = xL at *
      generalize hxH : orHi y (atP (st + q * 4) l) = xH at *
      have HL := Aside.mk hL1
      have HH := Aside.mk hH1
      have HXL := Aside.mk hxL
      have HXH := Aside.mk hxH
      have HM := Aside.mk hmem
      have hFs := hF.four
      clear hxy hd hdl hVV hL1 hH1 hxL hxH hmem hp
      (go_wp2_with fail); (go_at_call 90); (refine (hdigit _ (by decide) hdr).mono ?_); rintro e w4 ⟨gd, n, rfl, hn, hB, hgd, hk4⟩
      subst hn
      have hF4 := Aside.mk (hF.keep hk4)
      have hR4 := Aside.mk (hR.keep hk4)
      have hM4 := Aside.mk (hM.keep hk4)
      have hB4 := Aside.mk hB
      have k4 : Keep w w4 := (by ((repeat (first | (with_reducible assumption) | ((with_reducible refine Keep.setCell ?_ ?_ _); rotate_left; focus (first | omega | (simp; done) | (simp; omega))) | (with_reducible refine Keep.alloc ?_ _) | (with_reducible refine Keep.drewN ?_ _) | (with_reducible refine Keep.drew ?_) | (with_reducible exact Keep.refl _) | refine Keep.trans ?_ (by with_reducible assumption) | exact Keep.refl _ | assumption))))
      have zg : w.heap.size + 1 + 1 < gd := by have := hM.lt; omega
      clear hF hR hM hB hk4 hk hFs hdigit hgd
      go_wp2_with fail
      go_loopg [77] l.length (fun k s1 wj => ∃ j : Nat, j + k = l.length ∧ s1 = .int .i64 j ∧ Bx wj w.heap.size #[.string s, .int .i8 1, .int .i16 st, .int .i16 sz] 39 ∧ Bx wj (w.heap.size + 1) #[.int .u64 0, .int .u64 0] 28 ∧ Bx wj (w.heap.size + 1 + 1) #[.int .u64 (U (orLo x ((atP (st + q * 4) l).take j))), .int .u64 (U (orHi y ((atP (st + q * 4) l).take j)))] 28 ∧ Bx wj gd (ints l).toArray 2 ∧ Keep w wj)
      case atStart => exact ⟨0, by omega, rfl, hF4.out, hR4.out, by simpa [orLo, orHi] using hM4.out, hB4.out, (by ((repeat (first | (with_reducible assumption) | ((with_reducible refine Keep.setCell ?_ ?_ _); rotate_left; focus (first | omega | (simp; done) | (simp; omega))) | (with_reducible refine Keep.alloc ?_ _) | (with_reducible refine Keep.drewN ?_ _) | (with_reducible refine Keep.drew ?_) | (with_reducible exact Keep.refl _) | refine Keep.trans ?_ (by with_reducible assumption) | exact Keep.refl _ | assumption))))⟩
      case round =>
        obtain ⟨j, hj, rfl, hF, hR, hM, hB, hk⟩ := hrel
        by_cases hjl : j < l.length
        · have hcell : CellAt _ gd j (.int .i64 l[j]) := ⟨(hB.cell j).trans (by simpa using ints_at l j hjl)⟩
          have hm := HM.out l[j] (List.getElem_mem hjl)
          have HS := Aside.mk (orLoP x (st + q * 4) l j hjl)
          have HT := Aside.mk (orHiP y (st + q * 4) l j hjl)
          generalize l[j] = c at *
          have hcs := hcell.at2
          have hMs := hM.two
          have eqw : IntKind.i64.wrap (q * 4) = q * 4 := wrapI64 ⟨by omega, by omega⟩
          have eqs : IntKind.i64.wrap (st + q * 4) = st + q * 4 := wrapI64 ⟨by omega, by omega⟩
          have eqc : IntKind.i64.wrap (st + q * 4 + c) = st + q * 4 + c := wrapI64 ⟨by omega, by omega⟩
          (go_wp2_with fail); (go_at_call 88); (refine (impl_with1 _ _ _ _ _ _ (by omega) (by omega) ((Bx.new _ _ _).cell 0)).mono ?_); rintro e w5 ⟨rfl, hk5⟩
          have hF5 := Aside.mk ((hF.alloc _).keep hk5)
          have hR5 := Aside.mk ((hR.alloc _).keep hk5)
          have hM5 := Aside.mk ((hM.alloc _).keep hk5)
          have hB5 := Aside.mk ((hB.alloc _).keep hk5)
          have k5 : Keep w w5 := (by ((repeat (first | (with_reducible assumption) | ((with_reducible refine Keep.setCell ?_ ?_ _); rotate_left; focus (first | omega | (simp; done) | (simp; omega))) | (with_reducible refine Keep.alloc ?_ _) | (with_reducible refine Keep.drewN ?_ _) | (with_reducible refine Keep.drew ?_) | (with_reducible exact Keep.refl _) | refine Keep.trans ?_ (by with_reducible assumption) | exact Keep.refl _ | assumption))))
          have hMs5 := hM5.out.two
          clear hF hR hM hB hcs hMs hk5 hk hcell
          go_wp2
          go_roundg (l.length - (j + 1))
          case measure => omega
          case rel => exact ⟨j + 1, by omega, by go_num, (hF5.out.set' (by simp; try omega) _).set' (by simp; try omega) _, (hR5.out.set' (by simp) _).set' (by simp) _, by rw [HS.out, HT.out]; exact (hM5.out.set _).set _, (hB5.out.set' (by simp; omega) _).set' (by simp; omega) _, (by ((repeat (first | (with_reducible assumption) | ((with_reducible refine Keep.setCell ?_ ?_ _); rotate_left; focus (first | omega | (simp; done) | (simp; omega))) | (with_reducible refine Keep.alloc ?_ _) | (with_reducible refine Keep.drewN ?_ _) | (with_reducible refine Keep.drew ?_) | (with_reducible exact Keep.refl _) | refine Keep.trans ?_ (by with_reducible assumption) | exact Keep.refl _ | assumption))))⟩
        · obtain rfl : j = l.length := by omega
          rw [show ((atP (st + q * 4) l).take l.length) = atP (st + q * 4) l from List.take_of_length_le (by rw [atP_len]; exact Nat.le_refl _), HXL.out, HXH.out] at hM
          have hF5 := Aside.mk hF
          have hR5 := Aside.mk hR
          have hM5 := Aside.mk hM
          have eqd : IntKind.i64.wrap ((q : Int) - 1) = q - 1 := wrapI64 ⟨by omega, by omega⟩
          clear hF hR hM hB
          go_wp2
          go_roundg q
          case measure => omega
          case rel => exact ⟨q, xL, xH, rfl, by omega, by (first | rfl | (rw [hv]) | (simp [hv])), by (first | rfl | go_num), ⟨HL.out, HH.out⟩, hF5.out, hR5.out, hM5.out, (by ((repeat (first | (with_reducible assumption) | ((with_reducible refine Keep.setCell ?_ ?_ _); rotate_left; focus (first | omega | (simp; done) | (simp; omega))) | (with_reducible refine Keep.alloc ?_ _) | (with_reducible refine Keep.drewN ?_ _) | (with_reducible refine Keep.drew ?_) | (with_reducible exact Keep.refl _) | refine Keep.trans ?_ (by with_reducible assumption) | exact Keep.refl _ | assumption))))⟩
    · obtain rfl : r = 0 := by omega
      have qL : eLo 1 st sz v sz.toNat = x := by rw [← hxy.1, eLo_zero]; simp
      have qH : eHi 1 st sz v sz.toNat = y := by rw [← hxy.2, eHi_zero]; simp
      have hMs := hM.two
      have hRs := hR.two
      clear hxy
      go_wp2
      (apply bodyPost_ret; rotate_left; rfl; exact ⟨rfl, (by ((repeat (first | (with_reducible assumption) | ((with_reducible refine Keep.setCell ?_ ?_ _); rotate_left; focus (first | omega | (simp; done) | (simp; omega))) | (with_reducible refine Keep.alloc ?_ _) | (with_reducible refine Keep.drewN ?_ _) | (with_reducible refine Keep.drew ?_) | (with_reducible exact Keep.refl _) | refine Keep.trans ?_ (by with_reducible assumption) | exact Keep.refl _ | assumption))))⟩; simp [results, Tryd.results70, go_sem, U_zero, *])
theorem impl_encode_2 (s : ByteArray) (st sz v : Int) (w : World) (hz : 1 ≤ sz ∧ sz ≤ 4) (h0 : 0 ≤ st) (h2 : st + 5 * sz ≤ 96) (v0 : 0 ≤ v) (v1 : v ≤ 9999) :
    Calls Tryd.prog 70 #[.agg #[.string s, .int .i8 2, .int .i16 st, .int .i16 sz], .int .i64 v] w fun e w' => e = .returned (.agg #[.int .u64 (U (eLo 2 st sz v sz.toNat)), .int .u64 (U (eHi 2 st sz v sz.toNat))]) ∧ Keep w w' := by
  have e1 : IntKind.i64.wrap st = st := wrapI64 ⟨by omega, by omega⟩
  have e2 : IntKind.i64.wrap sz = sz := wrapI64 ⟨by omega, by omega⟩
  have hI16 : I16 sz := by unfold I16; omega
  have hmany : ∀ W, Calls Tryd.prog 55 #[.agg #[.string s, .int .i8 2, .int .i16 st, .int .i16 sz]] W fun e w' => e = .returned (.int .i64 (5 * sz)) ∧ Keep W w' := fun W => by simpa [widthN] using impl_many s 2 st sz W hI16
  have eq1 : 5 * sz / sz = 5 := Int.mul_ediv_cancel _ (by omega)
  go_enter Tryd.func70, Tryd.ntmps70
  go_wp2_with fail
  refine wp_gen (fun W => Bx W w.heap.size #[.string s, .int .i8 2, .int .i16 st, .int .i16 sz] 39 ∧ Bx W (w.heap.size + 1) #[.int .u64 0, .int .u64 0] 28 ∧ Bx W (w.heap.size + 1 + 1) #[.int .u64 0, .int .u64 0] 28 ∧ Keep w W) ⟨((Bx.new _ _ _).alloc _).alloc _, (Bx.new1 _ _ _ _).alloc _, Bx.new2 _ _ _ _ _, (by ((repeat (first | (with_reducible assumption) | ((with_reducible refine Keep.setCell ?_ ?_ _); rotate_left; focus (first | omega | (simp; done) | (simp; omega))) | (with_reducible refine Keep.alloc ?_ _) | (with_reducible refine Keep.drewN ?_ _) | (with_reducible refine Keep.drew ?_) | (with_reducible exact Keep.refl _) | refine Keep.trans ?_ (by with_reducible assumption) | exact Keep.refl _ | assumption))))⟩ ?_
  rintro W ⟨hF, hR, hM, hW⟩
  refine wp_region_keep (by kernel_rfl) (by kernel_rfl) ?_
  repeat
    first
      | (apply QuietL.run
         focus go_simp
         focus
           intro w2 hk
           obtain ⟨hF_0, hF_1, hF_2, hF_3, hF_4, hF_5, hF_6, hF_7, hF_8⟩ := (hF.keep hk).four
           obtain ⟨hR_0, hR_1, hR_2, hR_3, hR_4⟩ := (hR.keep hk).two
           obtain ⟨hM_0, hM_1, hM_2, hM_3, hM_4⟩ := (hM.keep hk).two
           apply QAt.mk
           go_simp
           first
             | done
             | exact rfl
         simp only [Act.put, List.setIfInBounds_toArray, List.set_cons_succ, List.set_cons_zero])
      | (apply QuietL.skip
         focus go_simp
         simp only [Act.put, List.setIfInBounds_toArray, List.set_cons_succ, List.set_cons_zero])
  apply QuietL.nil
  intro w2 hk
  have hF := hF.keep hk
  obtain ⟨hF_0, hF_1, hF_2, hF_3, hF_4, hF_5, hF_6, hF_7, hF_8⟩ := hF.four
  have hR := hR.keep hk
  obtain ⟨hR_0, hR_1, hR_2, hR_3, hR_4⟩ := hR.two
  have hM := hM.keep hk
  obtain ⟨hM_0, hM_1, hM_2, hM_3, hM_4⟩ := hM.two
  have k2 : Keep w w2 := (by ((repeat (first | (with_reducible assumption) | ((with_reducible refine Keep.setCell ?_ ?_ _); rotate_left; focus (first | omega | (simp; done) | (simp; omega))) | (with_reducible refine Keep.alloc ?_ _) | (with_reducible refine Keep.drewN ?_ _) | (with_reducible refine Keep.drew ?_) | (with_reducible exact Keep.refl _) | refine Keep.trans ?_ (by with_reducible assumption) | exact Keep.refl _ | assumption))))
  (go_wp2_with fail); (go_at_call 55); (refine (hmany _).mono ?_); rintro e w3 ⟨rfl, hk3⟩
  have hF3 := hF.keep hk3
  have HR := Aside.mk (hR.keep hk3)
  have HM := Aside.mk (hM.keep hk3)
  have k3 : Keep w w3 := (by ((repeat (first | (with_reducible assumption) | ((with_reducible refine Keep.setCell ?_ ?_ _); rotate_left; focus (first | omega | (simp; done) | (simp; omega))) | (with_reducible refine Keep.alloc ?_ _) | (with_reducible refine Keep.drewN ?_ _) | (with_reducible refine Keep.drew ?_) | (with_reducible exact Keep.refl _) | refine Keep.trans ?_ (by with_reducible assumption) | exact Keep.refl _ | assumption))))
  have e3 : IntKind.i64.wrap (sz - 1) = sz - 1 := wrapI64 ⟨by omega, by omega⟩
  clear hF hR hM hk hk3 k2 hR_0 hR_1 hR_2 hR_3 hR_4 hM_0 hM_1 hM_2 hM_3 hM_4 hF_0 hF_1 hF_2 hF_3 hF_4 hF_5 hF_6 hF_7 hF_8
  go_wp2_with fail
  simp only [eq1]
  go_loopg [1, 10] sz.toNat (fun k s1 s2 wr => ∃ (r : Nat) (x y : Wd), r = k ∧ (r : Int) ≤ sz ∧ s1 = .int .i64 (v / pw 10 (sz.toNat - r)) ∧ s2 = .int .i64 (r - 1) ∧ (x ||| eLo 2 st sz v r = eLo 2 st sz v sz.toNat ∧ y ||| eHi 2 st sz v r = eHi 2 st sz v sz.toNat) ∧ Bx wr w.heap.size #[.string s, .int .i8 2, .int .i16 st, .int .i16 sz] 39 ∧ Bx wr (w.heap.size + 1) #[.int .u64 0, .int .u64 0] 28 ∧ Bx wr (w.heap.size + 1 + 1) #[.int .u64 (U x), .int .u64 (U y)] 28 ∧ Keep w wr)
  case atStart => exact ⟨sz.toNat, 0#64, 0#64, rfl, by omega, by simp [pw_zero], by (first | rfl | (congr 1; omega)), ⟨by simp, by simp⟩, hF3, HR.out, HM.out, (by ((repeat (first | (with_reducible assumption) | ((with_reducible refine Keep.setCell ?_ ?_ _); rotate_left; focus (first | omega | (simp; done) | (simp; omega))) | (with_reducible refine Keep.alloc ?_ _) | (with_reducible refine Keep.drewN ?_ _) | (with_reducible refine Keep.drew ?_) | (with_reducible exact Keep.refl _) | refine Keep.trans ?_ (by with_reducible assumption) | exact Keep.refl _ | assumption))))⟩
  case round =>
    obtain ⟨r, x, y, rfl, hr, rfl, rfl, hxy, hF, hR, hM, hk⟩ := hrel
    by_cases hpos : 0 < r
    · obtain ⟨q, rfl⟩ : ∃ q, r = q + 1 := ⟨r - 1, by omega⟩
      have hq : (q : Int) < sz := by omega
      have hd := dgt_down hq v0
      have hv := val_down hq v0
      have hvr := vdig v0 (sz.toNat - (q + 1))
      have hdr := dgt_range v sz q
      have hp : st + wdt 2 * q = st + q * 5 := by rw [show wdt 2 = 5 from rfl]; omega
      have hL1 := eLo_back (v := v) hxy.1
      have hH1 := eHi_back (v := v) hxy.2
      rw [hp, ← nLo_dhs x _ (k := 2) (by decide) hdr] at hL1
      rw [hp, ← nHi_dhs y _ (k := 2) (by decide) hdr] at hH1
      have ht : (v / pw 10 (sz.toNat - (q + 1))).tmod 10 = dgt v sz q := by rw [Int.tmod_eq_emod_of_nonneg hvr.1]; exact hd
      obtain ⟨hlen, hmem⟩ := dhs_range (k := 2) (by decide) hdr
      rw [show wdt 2 = 5 from rfl] at hmem
      have eq2 : ((q + 1 : Nat) : Int) - 1 = q := by omega
      rw [eq2]
      have hdigit := impl_digitHoles s 2 st sz (dgt v sz q)
      generalize dgt v sz q = d at *
      generalize hVV : v / pw 10 (sz.toNat - (q + 1)) = vv at *
      generalize hdl : dhs 2 d = l at *
      generalize hxL : orLo x (atP (st + q * 5) l) = xL at *
      generalize hxH : orHi y (atP (st + q * 5) l) = xH at *
      have HL := Aside.mk hL1
      have HH := Aside.mk hH1
      have HXL := Aside.mk hxL
      have HXH := Aside.mk hxH
      have HM := Aside.mk hmem
      have hFs := hF.four
      clear hxy hd hdl hVV hL1 hH1 hxL hxH hmem hp
      (go_wp2_with fail); (go_at_call 90); (refine (hdigit _ (by decide) hdr).mono ?_); rintro e w4 ⟨gd, n, rfl, hn, hB, hgd, hk4⟩
      subst hn
      have hF4 := Aside.mk (hF.keep hk4)
      have hR4 := Aside.mk (hR.keep hk4)
      have hM4 := Aside.mk (hM.keep hk4)
      have hB4 := Aside.mk hB
      have k4 : Keep w w4 := (by ((repeat (first | (with_reducible assumption) | ((with_reducible refine Keep.setCell ?_ ?_ _); rotate_left; focus (first | omega | (simp; done) | (simp; omega))) | (with_reducible refine Keep.alloc ?_ _) | (with_reducible refine Keep.drewN ?_ _) | (with_reducible refine Keep.drew ?_) | (with_reducible exact Keep.refl _) | refine Keep.trans ?_ (by with_reducible assumption) | exact Keep.refl _ | assumption))))
      have zg : w.heap.size + 1 + 1 < gd := by have := hM.lt; omega
      clear hF hR hM hB hk4 hk hFs hdigit hgd
      go_wp2_with fail
      go_loopg [77] l.length (fun k s1 wj => ∃ j : Nat, j + k = l.length ∧ s1 = .int .i64 j ∧ Bx wj w.heap.size #[.string s, .int .i8 2, .int .i16 st, .int .i16 sz] 39 ∧ Bx wj (w.heap.size + 1) #[.int .u64 0, .int .u64 0] 28 ∧ Bx wj (w.heap.size + 1 + 1) #[.int .u64 (U (orLo x ((atP (st + q * 5) l).take j))), .int .u64 (U (orHi y ((atP (st + q * 5) l).take j)))] 28 ∧ Bx wj gd (ints l).toArray 2 ∧ Keep w wj)
      case atStart => exact ⟨0, by omega, rfl, hF4.out, hR4.out, by simpa [orLo, orHi] using hM4.out, hB4.out, (by ((repeat (first | (with_reducible assumption) | ((with_reducible refine Keep.setCell ?_ ?_ _); rotate_left; focus (first | omega | (simp; done) | (simp; omega))) | (with_reducible refine Keep.alloc ?_ _) | (with_reducible refine Keep.drewN ?_ _) | (with_reducible refine Keep.drew ?_) | (with_reducible exact Keep.refl _) | refine Keep.trans ?_ (by with_reducible assumption) | exact Keep.refl _ | assumption))))⟩
      case round =>
        obtain ⟨j, hj, rfl, hF, hR, hM, hB, hk⟩ := hrel
        by_cases hjl : j < l.length
        · have hcell : CellAt _ gd j (.int .i64 l[j]) := ⟨(hB.cell j).trans (by simpa using ints_at l j hjl)⟩
          have hm := HM.out l[j] (List.getElem_mem hjl)
          have HS := Aside.mk (orLoP x (st + q * 5) l j hjl)
          have HT := Aside.mk (orHiP y (st + q * 5) l j hjl)
          generalize l[j] = c at *
          have hcs := hcell.at2
          have hMs := hM.two
          have eqw : IntKind.i64.wrap (q * 5) = q * 5 := wrapI64 ⟨by omega, by omega⟩
          have eqs : IntKind.i64.wrap (st + q * 5) = st + q * 5 := wrapI64 ⟨by omega, by omega⟩
          have eqc : IntKind.i64.wrap (st + q * 5 + c) = st + q * 5 + c := wrapI64 ⟨by omega, by omega⟩
          (go_wp2_with fail); (go_at_call 88); (refine (impl_with1 _ _ _ _ _ _ (by omega) (by omega) ((Bx.new _ _ _).cell 0)).mono ?_); rintro e w5 ⟨rfl, hk5⟩
          have hF5 := Aside.mk ((hF.alloc _).keep hk5)
          have hR5 := Aside.mk ((hR.alloc _).keep hk5)
          have hM5 := Aside.mk ((hM.alloc _).keep hk5)
          have hB5 := Aside.mk ((hB.alloc _).keep hk5)
          have k5 : Keep w w5 := (by ((repeat (first | (with_reducible assumption) | ((with_reducible refine Keep.setCell ?_ ?_ _); rotate_left; focus (first | omega | (simp; done) | (simp; omega))) | (with_reducible refine Keep.alloc ?_ _) | (with_reducible refine Keep.drewN ?_ _) | (with_reducible refine Keep.drew ?_) | (with_reducible exact Keep.refl _) | refine Keep.trans ?_ (by with_reducible assumption) | exact Keep.refl _ | assumption))))
          have hMs5 := hM5.out.two
          clear hF hR hM hB hcs hMs hk5 hk hcell
          go_wp2
          go_roundg (l.length - (j + 1))
          case measure => omega
          case rel => exact ⟨j + 1, by omega, by go_num, (hF5.out.set' (by simp; try omega) _).set' (by simp; try omega) _, (hR5.out.set' (by simp) _).set' (by simp) _, by rw [HS.out, HT.out]; exact (hM5.out.set _).set _, (hB5.out.set' (by simp; omega) _).set' (by simp; omega) _, (by ((repeat (first | (with_reducible assumption) | ((with_reducible refine Keep.setCell ?_ ?_ _); rotate_left; focus (first | omega | (simp; done) | (simp; omega))) | (with_reducible refine Keep.alloc ?_ _) | (with_reducible refine Keep.drewN ?_ _) | (with_reducible refine Keep.drew ?_) | (with_reducible exact Keep.refl _) | refine Keep.trans ?_ (by with_reducible assumption) | exact Keep.refl _ | assumption))))⟩
        · obtain rfl : j = l.length := by omega
          rw [show ((atP (st + q * 5) l).take l.length) = atP (st + q * 5) l from List.take_of_length_le (by rw [atP_len]; exact Nat.le_refl _), HXL.out, HXH.out] at hM
          have hF5 := Aside.mk hF
          have hR5 := Aside.mk hR
          have hM5 := Aside.mk hM
          have eqd : IntKind.i64.wrap ((q : Int) - 1) = q - 1 := wrapI64 ⟨by omega, by omega⟩
          clear hF hR hM hB
          go_wp2
          go_roundg q
          case measure => omega
          case rel => exact ⟨q, xL, xH, rfl, by omega, by (first | rfl | (rw [hv]) | (simp [hv])), by (first | rfl | go_num), ⟨HL.out, HH.out⟩, hF5.out, hR5.out, hM5.out, (by ((repeat (first | (with_reducible assumption) | ((with_reducible refine Keep.setCell ?_ ?_ _); rotate_left; focus (first | omega | (simp; done) | (simp; omega))) | (with_reducible refine Keep.alloc ?_ _) | (with_reducible refine Keep.drewN ?_ _) | (with_reducible refine Keep.drew ?_) | (with_reducible exact Keep.refl _) | refine Keep.trans ?_ (by with_reducible assumption) | exact Keep.refl _ | assumption))))⟩
    · obtain rfl : r = 0 := by omega
      have qL : eLo 2 st sz v sz.toNat = x := by rw [← hxy.1, eLo_zero]; simp
      have qH : eHi 2 st sz v sz.toNat = y := by rw [← hxy.2, eHi_zero]; simp
      have hMs := hM.two
      have hRs := hR.two
      clear hxy
      go_wp2
      (apply bodyPost_ret; rotate_left; rfl; exact ⟨rfl, (by ((repeat (first | (with_reducible assumption) | ((with_reducible refine Keep.setCell ?_ ?_ _); rotate_left; focus (first | omega | (simp; done) | (simp; omega))) | (with_reducible refine Keep.alloc ?_ _) | (with_reducible refine Keep.drewN ?_ _) | (with_reducible refine Keep.drew ?_) | (with_reducible exact Keep.refl _) | refine Keep.trans ?_ (by with_reducible assumption) | exact Keep.refl _ | assumption))))⟩; simp [results, Tryd.results70, go_sem, U_zero, *])
theorem impl_encode (s : ByteArray) (k st sz v : Int) (w : World) (hz : okSz k sz) (h0 : 0 ≤ st) (h2 : st + widthN k sz ≤ 96) (v0 : 0 ≤ v) (v1 : v ≤ mostN k sz) :
    Calls Tryd.prog 70 #[.agg #[.string s, .int .i8 k, .int .i16 st, .int .i16 sz], .int .i64 v] w fun e w' => e = .returned (.agg #[.int .u64 (U (encLo k st sz v)), .int .u64 (U (encHi k st sz v))]) ∧ Keep w w' := by
  have vb := valB hz v1
  obtain ⟨z1, z2⟩ := hz
  rcases z2 with ⟨rfl, z2⟩ | ⟨rfl, z2⟩ | ⟨rfl, z2⟩ | ⟨rfl, z2⟩
  · rw [encLo_0, encHi_0]
    simp [mostN] at v1
    simp [widthN] at h2
    exact impl_encode_0 s st sz v w ⟨z1, z2⟩ h0 h2 v0 (by omega)
  · rw [encLo_d (.inl rfl), encHi_d (.inl rfl)]
    simp [widthN] at h2
    exact impl_encode_1 s st sz v w ⟨z1, z2⟩ h0 h2 v0 vb
  · rw [encLo_d (.inr rfl), encHi_d (.inr rfl)]
    simp [widthN] at h2
    exact impl_encode_2 s st sz v w ⟨z1, z2⟩ h0 h2 v0 vb
  · simp [widthN] at h2
    exact impl_encode_3 s st sz v w ⟨z1, z2⟩ h0 (by omega) v0 vb
end Go.Proofs.YtbgegnbcjklmjaaDoor

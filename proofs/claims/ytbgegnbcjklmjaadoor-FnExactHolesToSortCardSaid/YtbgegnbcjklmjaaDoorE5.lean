/- The program's code of a value. -/
import Derived.Test.YtbgegnbcjklmjaaDoorE4
set_option linter.unusedVariables false
set_option linter.unusedSimpArgs false
namespace Go.Proofs.YtbgegnbcjklmjaaDoor
open Go.RowKit
set_option maxHeartbeats 4000000
set_option maxRecDepth 20000
theorem impl_encode_0 (s : ByteArray) (st sz v : Int) (w : World) (hz : 1 ≤ sz ∧ sz ≤ 24) (h0 : 0 ≤ st) (h2 : st + sz ≤ 96) (v0 : 0 ≤ v) (v1 : v < sz) :
    Calls Tryd.prog 70 #[.agg #[.string s, .int .i8 0, .int .i16 st, .int .i16 sz], .int .i64 v] w fun e w' => e = .returned (.agg #[.int .u64 (U (bitLo (st + v))), .int .u64 (U (bitHi (st + v)))]) ∧ Keep w w' := by
  have e1 : IntKind.i64.wrap st = st := wrapI64 ⟨by omega, by omega⟩
  have e2 : IntKind.i64.wrap sz = sz := wrapI64 ⟨by omega, by omega⟩
  have e3 : IntKind.i64.wrap (st + v) = st + v := wrapI64 ⟨by omega, by omega⟩
  go_enter Tryd.func70, Tryd.ntmps70
  go_wp2_with fail
  refine wp_gen (fun W => Bx W w.heap.size #[.string s, .int .i8 0, .int .i16 st, .int .i16 sz] 39 ∧ Bx W (w.heap.size + 1) #[.int .u64 0, .int .u64 0] 28 ∧ Bx W (w.heap.size + 1 + 1) #[.int .u64 0, .int .u64 0] 28 ∧ Keep w W) ⟨((Bx.new _ _ _).alloc _).alloc _, (Bx.new1 _ _ _ _).alloc _, Bx.new2 _ _ _ _ _, (by ((repeat (first | (with_reducible assumption) | ((with_reducible refine Keep.setCell ?_ ?_ _); rotate_left; focus (first | omega | (simp; done) | (simp; omega))) | (with_reducible refine Keep.alloc ?_ _) | (with_reducible refine Keep.drewN ?_ _) | (with_reducible refine Keep.drew ?_) | (with_reducible exact Keep.refl _) | refine Keep.trans ?_ (by with_reducible assumption) | exact Keep.refl _ | assumption))))⟩ ?_
  rintro W ⟨hF, hR, hM, hW⟩
  refine wp_region_keep (by kernel_rfl) (by kernel_rfl) ?_
  repeat
    first
      | (apply QuietL.run
         focus go_simp
         focus
           intro w2 hk
           obtain ⟨hF_0, hF_1, hF_2, hF_3, hF_4, hF_5, hF_6, hF_7, hF_8⟩ := (hF.keep hk).four
           obtain ⟨hR_0, hR_1, hR_2, hR_3, hR_4⟩ := (hR.keep hk).two
           obtain ⟨hM_0, hM_1, hM_2, hM_3, hM_4⟩ := (hM.keep hk).two
           apply QAt.mk
           go_simp
           first
             | done
             | exact rfl
         simp only [Act.put, List.setIfInBounds_toArray, List.set_cons_succ, List.set_cons_zero])
      | (apply QuietL.skip
         focus go_simp
         simp only [Act.put, List.setIfInBounds_toArray, List.set_cons_succ, List.set_cons_zero])
  apply QuietL.nil
  intro w2 hk
  have hF := hF.keep hk
  obtain ⟨hF_0, hF_1, hF_2, hF_3, hF_4, hF_5, hF_6, hF_7, hF_8⟩ := hF.four
  have hR := hR.keep hk
  obtain ⟨hR_0, hR_1, hR_2, hR_3, hR_4⟩ := hR.two
  have hM := hM.keep hk
  obtain ⟨hM_0, hM_1, hM_2, hM_3, hM_4⟩ := hM.two
  have hR2 := hR
  have k2 : Keep w w2 := (by ((repeat (first | (with_reducible assumption) | ((with_reducible refine Keep.setCell ?_ ?_ _); rotate_left; focus (first | omega | (simp; done) | (simp; omega))) | (with_reducible refine Keep.alloc ?_ _) | (with_reducible refine Keep.drewN ?_ _) | (with_reducible refine Keep.drew ?_) | (with_reducible exact Keep.refl _) | refine Keep.trans ?_ (by with_reducible assumption) | exact Keep.refl _ | assumption))))
  (go_wp2_with fail); (go_at_call 88); (refine (impl_with1z _ _ _ _ (by omega) (by omega) ((Bx.new w2 _ _).cell 0)).mono ?_); rintro e w3 ⟨rfl, hk3⟩
  have hR3 := (hR2.alloc _).keep hk3
  have k3 : Keep w w3 := (by ((repeat (first | (with_reducible assumption) | ((with_reducible refine Keep.setCell ?_ ?_ _); rotate_left; focus (first | omega | (simp; done) | (simp; omega))) | (with_reducible refine Keep.alloc ?_ _) | (with_reducible refine Keep.drewN ?_ _) | (with_reducible refine Keep.drew ?_) | (with_reducible exact Keep.refl _) | refine Keep.trans ?_ (by with_reducible assumption) | exact Keep.refl _ | assumption))))
  clear hF hM hR2 hk3 k2 hR
  have hRs := hR3.two
  go_wp2
  (apply bodyPost_ret; rotate_left; rfl; exact ⟨rfl, (by ((repeat (first | (with_reducible assumption) | ((with_reducible refine Keep.setCell ?_ ?_ _); rotate_left; focus (first | omega | (simp; done) | (simp; omega))) | (with_reducible refine Keep.alloc ?_ _) | (with_reducible refine Keep.drewN ?_ _) | (with_reducible refine Keep.drew ?_) | (with_reducible exact Keep.refl _) | refine Keep.trans ?_ (by with_reducible assumption) | exact Keep.refl _ | assumption))))⟩; simp [results, Tryd.results70, go_sem, U_zero, *])
theorem and1_emod {q : Int} (h0 : 0 ≤ q) (h1 : q ≤ 100000) : bits .and .i64 q 1 = q % 2 := by
  show IntKind.i64.wrap ((BitVec.ofInt 64 q &&& BitVec.ofInt 64 1).toNat : Int) = _
  rw [BitVec.toNat_and, show (BitVec.ofInt 64 1).toNat = 2 ^ 1 - 1 from rfl, Nat.and_two_pow_sub_one_eq_mod, BitVec.toNat_ofInt]
  have e : (q % ((2 ^ 64 : Nat) : Int)).toNat = q.toNat := by omega
  rw [e]
  simp [IntKind.wrap, IntKind.bits, IntKind.signed]
  omega
theorem nt_and {sz v : Int} {i : Nat} (v0 : 0 ≤ v) (v1 : v ≤ 9999) (hi : (i : Int) < sz) : bits .and .i64 (v / 2 ^ (sz.toNat - 1 - i)) 1 = cond (ntB sz v i) 1 0 := by
  have e : (sz - 1 - i).toNat = sz.toNat - 1 - i := by omega
  have e2 : (2 : Int) ^ (sz.toNat - 1 - i) = pw 2 (sz - 1 - i).toNat := by rw [e]; rfl
  have pp := pw_pos (b := 2) (by decide) (sz - 1 - i).toNat
  rw [e2]
  have h0 : 0 ≤ v / pw 2 (sz - 1 - i).toNat := Int.ediv_nonneg v0 (by omega)
  have h1 : v / pw 2 (sz - 1 - i).toNat ≤ v := Int.ediv_le_self _ v0
  unfold ntB
  rw [and1_emod h0 (by omega)]
  generalize v / pw 2 (sz - 1 - i).toNat = q at *
  by_cases c : q % 2 = 1
  · simp [c]
  · simp [c]; omega
theorem impl_encode_3 (s : ByteArray) (st sz v : Int) (w : World) (hz : 1 ≤ sz ∧ sz ≤ 12) (h0 : 0 ≤ st) (h2 : st + sz + 1 ≤ 96) (v0 : 0 ≤ v) (v1 : v ≤ 9999) :
    Calls Tryd.prog 70 #[.agg #[.string s, .int .i8 3, .int .i16 st, .int .i16 sz], .int .i64 v] w fun e w' => e = .returned (.agg #[.int .u64 (U (encLo 3 st sz v)), .int .u64 (U (encHi 3 st sz v))]) ∧ Keep w w' := by
  have e1 : IntKind.i64.wrap st = st := wrapI64 ⟨by omega, by omega⟩
  have e2 : IntKind.i64.wrap sz = sz := wrapI64 ⟨by omega, by omega⟩
  have e3 : IntKind.i64.wrap (st + sz) = st + sz := wrapI64 ⟨by omega, by omega⟩
  go_enter Tryd.func70, Tryd.ntmps70
  go_wp2_with fail
  refine wp_gen (fun W => Bx W w.heap.size #[.string s, .int .i8 3, .int .i16 st, .int .i16 sz] 39 ∧ Bx W (w.heap.size + 1) #[.int .u64 0, .int .u64 0] 28 ∧ Bx W (w.heap.size + 1 + 1) #[.int .u64 0, .int .u64 0] 28 ∧ Keep w W) ⟨((Bx.new _ _ _).alloc _).alloc _, (Bx.new1 _ _ _ _).alloc _, Bx.new2 _ _ _ _ _, (by ((repeat (first | (with_reducible assumption) | ((with_reducible refine Keep.setCell ?_ ?_ _); rotate_left; focus (first | omega | (simp; done) | (simp; omega))) | (with_reducible refine Keep.alloc ?_ _) | (with_reducible refine Keep.drewN ?_ _) | (with_reducible refine Keep.drew ?_) | (with_reducible exact Keep.refl _) | refine Keep.trans ?_ (by with_reducible assumption) | exact Keep.refl _ | assumption))))⟩ ?_
  rintro W ⟨hF, hR, hM, hW⟩
  refine wp_region_keep (by kernel_rfl) (by kernel_rfl) ?_
  repeat
    first
      | (apply QuietL.run
         focus go_simp
         focus
           intro w2 hk
           obtain ⟨hF_0, hF_1, hF_2, hF_3, hF_4, hF_5, hF_6, hF_7, hF_8⟩ := (hF.keep hk).four
           obtain ⟨hR_0, hR_1, hR_2, hR_3, hR_4⟩ := (hR.keep hk).two
           obtain ⟨hM_0, hM_1, hM_2, hM_3, hM_4⟩ := (hM.keep hk).two
           apply QAt.mk
           go_simp
           first
             | done
             | exact rfl
         simp only [Act.put, List.setIfInBounds_toArray, List.set_cons_succ, List.set_cons_zero])
      | (apply QuietL.skip
         focus go_simp
         simp only [Act.put, List.setIfInBounds_toArray, List.set_cons_succ, List.set_cons_zero])
  apply QuietL.nil
  intro w2 hk
  have hF := hF.keep hk
  obtain ⟨hF_0, hF_1, hF_2, hF_3, hF_4, hF_5, hF_6, hF_7, hF_8⟩ := hF.four
  have hR := hR.keep hk
  obtain ⟨hR_0, hR_1, hR_2, hR_3, hR_4⟩ := hR.two
  have hM := hM.keep hk
  obtain ⟨hM_0, hM_1, hM_2, hM_3, hM_4⟩ := hM.two
  have k2 : Keep w w2 := (by ((repeat (first | (with_reducible assumption) | ((with_reducible refine Keep.setCell ?_ ?_ _); rotate_left; focus (first | omega | (simp; done) | (simp; omega))) | (with_reducible refine Keep.alloc ?_ _) | (with_reducible refine Keep.drewN ?_ _) | (with_reducible refine Keep.drew ?_) | (with_reducible exact Keep.refl _) | refine Keep.trans ?_ (by with_reducible assumption) | exact Keep.refl _ | assumption))))
  have HR := Aside.mk hR
  have HM := Aside.mk hM
  go_wp2_with fail
  clear hF hR hM hk hR_0 hR_1 hR_2 hR_3 hR_4 hM_0 hM_1 hM_2 hM_3 hM_4 hF_0 hF_1 hF_2 hF_3 hF_4 hF_5 hF_6 hF_7 hF_8
  go_loopg [33] sz.toNat (fun k s1 wr => ∃ i : Nat, i + k = sz.toNat ∧ s1 = .int .i64 i ∧ Bx wr (w.heap.size + 1) #[.int .u64 0, .int .u64 0] 28 ∧ Bx wr (w.heap.size + 1 + 1) #[.int .u64 (U (nLo 0#64 st sz v i)), .int .u64 (U (nHi 0#64 st sz v i))] 28 ∧ Keep w wr)
  case atStart => exact ⟨0, by omega, rfl, HR.out, HM.out, (by ((repeat (first | (with_reducible assumption) | ((with_reducible refine Keep.setCell ?_ ?_ _); rotate_left; focus (first | omega | (simp; done) | (simp; omega))) | (with_reducible refine Keep.alloc ?_ _) | (with_reducible refine Keep.drewN ?_ _) | (with_reducible refine Keep.drew ?_) | (with_reducible exact Keep.refl _) | refine Keep.trans ?_ (by with_reducible assumption) | exact Keep.refl _ | assumption))))⟩
  case round =>
    obtain ⟨i, hi, rfl, hR, hM, hk⟩ := hrel
    by_cases hlt : (i : Int) < sz
    · have e4 : IntKind.i64.wrap (sz - 1) = sz - 1 := wrapI64 ⟨by omega, by omega⟩
      have e5 : IntKind.i64.wrap (sz - 1 - i) = sz - 1 - i := wrapI64 ⟨by omega, by omega⟩
      have hc := nt_and v0 v1 hlt
      have hMs := hM.two
      cases hb : ntB sz v i <;> rw [hb] at hc <;> simp only [cond_true, cond_false] at hc
      · have HL := Aside.mk (nLo_no (a := 0#64) (p := st) hb)
        have HH := Aside.mk (nHi_no (a := 0#64) (p := st) hb)
        have HA := Aside.mk hM
        have HB := Aside.mk hR
        clear hM hR hb
        go_wp2
        go_roundg (sz.toNat - (i + 1))
        case measure => omega
        case rel => exact ⟨i + 1, by omega, by go_num, HB.out, by rw [HL.out, HH.out]; exact HA.out, (by ((repeat (first | (with_reducible assumption) | ((with_reducible refine Keep.setCell ?_ ?_ _); rotate_left; focus (first | omega | (simp; done) | (simp; omega))) | (with_reducible refine Keep.alloc ?_ _) | (with_reducible refine Keep.drewN ?_ _) | (with_reducible refine Keep.drew ?_) | (with_reducible exact Keep.refl _) | refine Keep.trans ?_ (by with_reducible assumption) | exact Keep.refl _ | assumption))))⟩
      · have HL := Aside.mk (nLo_yes (a := 0#64) (p := st) hb)
        have HH := Aside.mk (nHi_yes (a := 0#64) (p := st) hb)
        have e6 : IntKind.i64.wrap (st + i) = st + i := wrapI64 ⟨by omega, by omega⟩
        clear hb
        (go_wp2_with fail); (go_at_call 88); (refine (impl_with1 _ _ _ _ _ _ (by omega) (by omega) ((Bx.new wr _ _).cell 0)).mono ?_); rintro e w3 ⟨rfl, hk3⟩
        have HA := Aside.mk ((hM.alloc _).keep hk3)
        have HB := Aside.mk ((hR.alloc _).keep hk3)
        have k3 : Keep w w3 := (by ((repeat (first | (with_reducible assumption) | ((with_reducible refine Keep.setCell ?_ ?_ _); rotate_left; focus (first | omega | (simp; done) | (simp; omega))) | (with_reducible refine Keep.alloc ?_ _) | (with_reducible refine Keep.drewN ?_ _) | (with_reducible refine Keep.drew ?_) | (with_reducible exact Keep.refl _) | refine Keep.trans ?_ (by with_reducible assumption) | exact Keep.refl _ | assumption))))
        have hMs3 := HA.out.two
        clear hM hR hMs hk3 hk
        go_wp2
        go_roundg (sz.toNat - (i + 1))
        case measure => omega
        case rel => exact ⟨i + 1, by omega, by go_num, (HB.out.set' (by simp) _).set' (by simp) _, by rw [HL.out, HH.out]; exact (HA.out.set _).set _, (by ((repeat (first | (with_reducible assumption) | ((with_reducible refine Keep.setCell ?_ ?_ _); rotate_left; focus (first | omega | (simp; done) | (simp; omega))) | (with_reducible refine Keep.alloc ?_ _) | (with_reducible refine Keep.drewN ?_ _) | (with_reducible refine Keep.drew ?_) | (with_reducible exact Keep.refl _) | refine Keep.trans ?_ (by with_reducible assumption) | exact Keep.refl _ | assumption))))⟩
    · obtain rfl : i = sz.toNat := by omega
      have qL := encLo_3 (st := st) (sz := sz) (v := v)
      have qH := encHi_3 (st := st) (sz := sz) (v := v)
      have hc := even_cond (binLo st sz v) (binHi st sz v)
      rw [show nLo 0#64 st sz v sz.toNat = binLo st sz v from rfl, show nHi 0#64 st sz v sz.toNat = binHi st sz v from rfl] at hM
      generalize binLo st sz v = a at *
      generalize binHi st sz v = b at *
      have hMs := hM.two
      (go_wp2_with fail); (go_at_call 89); (refine (impl_CountHoles _ _ _).mono ?_); rintro e w3 ⟨rfl, hk3⟩
      have hM3 := hM.keep hk3
      have hR3 := hR.keep hk3
      have k3 : Keep w w3 := (by ((repeat (first | (with_reducible assumption) | ((with_reducible refine Keep.setCell ?_ ?_ _); rotate_left; focus (first | omega | (simp; done) | (simp; omega))) | (with_reducible refine Keep.alloc ?_ _) | (with_reducible refine Keep.drewN ?_ _) | (with_reducible refine Keep.drew ?_) | (with_reducible exact Keep.refl _) | refine Keep.trans ?_ (by with_reducible assumption) | exact Keep.refl _ | assumption))))
      clear hM hR hMs hk3 hk
      have hMs := hM3.two
      have hRs := hR3.two
      cases hb : evenB a b <;> rw [hb] at hc qL qH <;> simp only [cond_true, cond_false] at hc qL qH
      · go_wp2
        (apply bodyPost_ret; rotate_left; rfl; exact ⟨rfl, (by ((repeat (first | (with_reducible assumption) | ((with_reducible refine Keep.setCell ?_ ?_ _); rotate_left; focus (first | omega | (simp; done) | (simp; omega))) | (with_reducible refine Keep.alloc ?_ _) | (with_reducible refine Keep.drewN ?_ _) | (with_reducible refine Keep.drew ?_) | (with_reducible exact Keep.refl _) | refine Keep.trans ?_ (by with_reducible assumption) | exact Keep.refl _ | assumption))))⟩; simp [results, Tryd.results70, go_sem, U_zero, *])
      · (go_wp2_with fail); (go_at_call 88); (refine (impl_with1 _ _ _ _ _ _ (by omega) (by omega) ((Bx.new w3 _ _).cell 0)).mono ?_); rintro e w4 ⟨rfl, hk4⟩
        have hM4 := (hM3.alloc _).keep hk4
        have hR4 := (hR3.alloc _).keep hk4
        have k4 : Keep w w4 := (by ((repeat (first | (with_reducible assumption) | ((with_reducible refine Keep.setCell ?_ ?_ _); rotate_left; focus (first | omega | (simp; done) | (simp; omega))) | (with_reducible refine Keep.alloc ?_ _) | (with_reducible refine Keep.drewN ?_ _) | (with_reducible refine Keep.drew ?_) | (with_reducible exact Keep.refl _) | refine Keep.trans ?_ (by with_reducible assumption) | exact Keep.refl _ | assumption))))
        clear hM3 hR3 hMs hRs hk4 k3
        have hMs := hM4.two
        have hRs := hR4.two
        go_wp2
        (apply bodyPost_ret; rotate_left; rfl; exact ⟨rfl, (by ((repeat (first | (with_reducible assumption) | ((with_reducible refine Keep.setCell ?_ ?_ _); rotate_left; focus (first | omega | (simp; done) | (simp; omega))) | (with_reducible refine Keep.alloc ?_ _) | (with_reducible refine Keep.drewN ?_ _) | (with_reducible refine Keep.drew ?_) | (with_reducible exact Keep.refl _) | refine Keep.trans ?_ (by with_reducible assumption) | exact Keep.refl _ | assumption))))⟩; simp [results, Tryd.results70, go_sem, U_zero, *])
end Go.Proofs.YtbgegnbcjklmjaaDoor

/- The lists that have all words: the law. -/
import Derived.Test.YtbbnhbfofdhnbaaDoorTL4
import Derived.Test.YtbbnhbfofdhnbaaDoorTL7
import Derived.Test.YtbbnhbfofdhnbaaDoorMB
import Derived.Test.YtbbnhbfofdhnbaaDoorW16
set_option linter.unusedVariables false
set_option linter.unusedSimpArgs false
namespace Go.Proofs.YtbbnhbfofdhnbaaDoor
open Go.RowKit
set_option maxHeartbeats 4000000
set_option maxRecDepth 20000
theorem SzW.of {a b : List (List ByteArray)} (h : SzW a) (e : b = a) : SzW b := by rw [e]; exact h
theorem laws_FnExactTrueOf (B : Option Addr) (xs : List Wl) (c : Nat) (A : Option Addr) (ws : List ByteArray) (d : Nat) (w : World) (hx : xs.length ≤ 9223372036854775807 ∧ SzW (lw xs) ∧ Rds w B xs) (hy : ws.length ≤ 9223372036854775807 ∧ Szs ws ∧ Rd w A (strs ws)) :
    Calls Tryd.prog 3 #[.slice B xs.length c, .slice A ws.length d] w fun e w' => e = .returned (.bool true) ∧ Keep w w' := by
  obtain ⟨hm, hz, hR⟩ := hx
  obtain ⟨hm2, hz2, hS⟩ := hy
  have hlw := lw_len xs
  by_cases hn : (1048576 : Int) < ((lw xs).length + sumW (lw xs) : Nat)
  · have e1 := szW_gt hn
    go_enter Tryd.func3, Tryd.ntmps3
    (go_wp2_with fail); (go_at_call 7); (refine (laws_szStringSS _ _ _ 1048576 _ (by decide) hm hz hR).mono ?_); rintro e w1 ⟨rfl, hk1⟩
    rw [e1]
    go_wp2
    go_ret; exact ⟨rfl, (by ((repeat (first | (with_reducible assumption) | ((with_reducible refine Keep.setCell ?_ ?_ _); rotate_left; focus (first | omega | (simp; done) | (simp; omega))) | (with_reducible refine Keep.alloc ?_ _) | (with_reducible refine Keep.drewN ?_ _) | (with_reducible refine Keep.drew ?_) | (with_reducible exact Keep.refl _) | refine Keep.trans ?_ (by with_reducible assumption) | exact Keep.refl _ | assumption))))⟩
  · have e1 := szW_le hn
    obtain ⟨left, hleft⟩ : ∃ x, szW 1048576 (lw xs) = x := ⟨_, rfl⟩
    have hl0 : ¬ left < 0 := by omega
    have hl1 : 0 ≤ left ∧ left ≤ 1048576 := by omega
    by_cases hn2 : left < (ws.length + szSum ws : Nat)
    · have e2 := szL_gt hn2
      clear e1
      go_enter Tryd.func3, Tryd.ntmps3
      (go_wp2_with fail); (go_at_call 7); (refine (laws_szStringSS _ _ _ 1048576 _ (by decide) hm hz hR).mono ?_); rintro e w1 ⟨rfl, hk1⟩
      rw [hleft]
      clear hleft
      (go_wp2_with fail); (go_at_call 8); (refine (laws_szStringS _ _ _ _ _ hl1 hm2 hz2 (hS.keep hk1)).mono ?_); rintro e w2 ⟨rfl, hk2⟩
      rw [e2]
      go_wp2
      go_ret; exact ⟨rfl, (by ((repeat (first | (with_reducible assumption) | ((with_reducible refine Keep.setCell ?_ ?_ _); rotate_left; focus (first | omega | (simp; done) | (simp; omega))) | (with_reducible refine Keep.alloc ?_ _) | (with_reducible refine Keep.drewN ?_ _) | (with_reducible refine Keep.drew ?_) | (with_reducible exact Keep.refl _) | refine Keep.trans ?_ (by with_reducible assumption) | exact Keep.refl _ | assumption))))⟩
    · have e2 := szL_le hn2
      obtain ⟨lf2, hlf2⟩ : ∃ x, szL left ws = x := ⟨_, rfl⟩
      have hl2 : ¬ lf2 < 0 := by omega
      have hxn : xs.length ≤ 1048576 := by omega
      have hsn : sumW (lw xs) ≤ 1048576 := by omega
      have hwn : ws.length ≤ 1048576 := by omega
      have htl := toL_len (lw xs) ws
      have hI := Aside.mk (fun B A ys c d W (hl : ys.length = xs.length) (he : lw ys = lw xs) h1 h2 => impl_TrueOf B A ys ws c d W (by omega) hwn (hz.of he) hz2 h1 h2)
      have hJ := Aside.mk (fun B A ys c d W (hl : ys.length = xs.length) (he : lw ys = lw xs) h1 h2 => spec_TrueOf B A ys ws c d W (by omega) hwn (hz.of he) hz2 h1 h2)
      have hI2 : Aside (∀ B A ys c d W (hl : ys.length = xs.length) (he : lw ys = lw xs) (h1 : Rds W B ys) (h2 : Rd W A (strs ws)), Calls Tryd.prog 12 #[.slice B xs.length c, .slice A ws.length d] W fun e w' => ∃ v, e = .returned (.tuple #[v, .int .i64 (toE (lw xs) ws)]) ∧ w'.ownsRow W.heap.size 2 1 v (toL (lw xs) ws).length (ints (toL (lw xs) ws)) ∧ Keep W w') := Aside.mk (fun B A ys c d W hl he h1 h2 => by
        have h := hI.out B A ys c d W hl he h1 h2
        rw [he, hl] at h; exact h)
      have hJ2 : Aside (∀ B A ys c d W (hl : ys.length = xs.length) (he : lw ys = lw xs) (h1 : Rds W B ys) (h2 : Rd W A (strs ws)), Calls Tryd.prog 9 #[.slice B xs.length c, .slice A ws.length d] W fun e w' => ∃ v, e = .returned (.tuple #[v, .int .i64 (toE (lw xs) ws)]) ∧ w'.ownsRow W.heap.size 2 1 v (toL (lw xs) ws).length (ints (toL (lw xs) ws)) ∧ Keep W w') := Aside.mk (fun B A ys c d W hl he h1 h2 => by
        have h := hJ.out B A ys c d W hl he h1 h2
        rw [he, hl] at h; exact h)
      have HEQ : Aside (∀ B C (ys zs : List Wl) c d W (hl : ys.length = xs.length) (he : lw ys = lw xs) (he2 : lw zs = lw xs) (h1 : Rds W B ys) (h2 : Rds W C zs), Calls Tryd.prog 14 #[.slice B xs.length c, .slice C xs.length d] W fun e w' => e = .returned (.bool true) ∧ Keep W w') := Aside.mk (fun B C ys zs c d W hl he he2 h1 h2 => by
        have hzl : zs.length = xs.length := by have := congrArg List.length he2; rwa [lw_len, lw_len] at this
        have h := laws_eqStringSS B C ys zs c d W (by omega) (by rw [he]; exact hsn) (he2.trans he.symm) h1 h2
        rw [hl, hzl] at h; exact h)
      generalize toL (lw xs) ws = L at *
      generalize toE (lw xs) ws = E at *
      have hpn : L.length ≤ 1048576 := by omega
      have HZ := Aside.mk hz
      clear e1 e2 hn hn2 htl hI hJ hlw hz
      go_enter Tryd.func3, Tryd.ntmps3
      (go_wp2_with fail); (go_at_call 7); (refine (laws_szStringSS _ _ _ 1048576 _ (by decide) hm HZ.out hR).mono ?_); rintro e w1 ⟨rfl, hk1⟩
      rw [hleft]
      clear hleft
      (go_wp2_with fail); (go_at_call 8); (refine (laws_szStringS _ _ _ _ _ hl1 hm2 hz2 (hS.keep hk1)).mono ?_); rintro e w2 ⟨rfl, hk2⟩
      rw [hlf2]
      have hW : Keep w w2 := (by ((repeat (first | (with_reducible assumption) | ((with_reducible refine Keep.setCell ?_ ?_ _); rotate_left; focus (first | omega | (simp; done) | (simp; omega))) | (with_reducible refine Keep.alloc ?_ _) | (with_reducible refine Keep.drewN ?_ _) | (with_reducible refine Keep.drew ?_) | (with_reducible exact Keep.refl _) | refine Keep.trans ?_ (by with_reducible assumption) | exact Keep.refl _ | assumption))))
      clear hlf2 hk1 hk2
      (go_wp2_with fail); (go_at_call 10); (refine (laws_toStringSS _ _ _ _ hxn hsn (hR.keep hW)).mono ?_); rintro e w3 ⟨g3, rs3, rfl, hl3, he3, ha3, hk⟩
      have kk : Keep w2 w3 := (by ((repeat (first | (with_reducible assumption) | ((with_reducible refine Keep.setCell ?_ ?_ _); rotate_left; focus (first | omega | (simp; done) | (simp; omega))) | (with_reducible refine Keep.alloc ?_ _) | (with_reducible refine Keep.drewN ?_ _) | (with_reducible refine Keep.drew ?_) | (with_reducible exact Keep.refl _) | refine Keep.trans ?_ (by with_reducible assumption) | exact Keep.refl _ | assumption))))
      replace hW := hW.trans kk
      clear hk kk
      have H3 := Aside.mk (And.intro hl3 he3)
      clear hl3 he3
      (go_wp2_with fail); (go_at_call 11); (refine (laws_toStringS _ _ _ _ hwn (hS.keep hW)).mono ?_); rintro e w4 ⟨j3, rfl, ho, hk⟩
      have kk : Keep w3 w4 := (by ((repeat (first | (with_reducible assumption) | ((with_reducible refine Keep.setCell ?_ ?_ _); rotate_left; focus (first | omega | (simp; done) | (simp; omega))) | (with_reducible refine Keep.alloc ?_ _) | (with_reducible refine Keep.drewN ?_ _) | (with_reducible refine Keep.drew ?_) | (with_reducible exact Keep.refl _) | refine Keep.trans ?_ (by with_reducible assumption) | exact Keep.refl _ | assumption))))
      replace ha3 := ha3.keep kk
      replace hW := hW.trans kk
      clear hk kk
      (go_wp2_with fail); (go_at_call 9); (refine (hJ2.out _ _ (rws rs3) _ _ _ ((rws_len rs3).trans H3.out.1) H3.out.2 (ha3.rds H3.out.1.symm) (Own.new ho).rd).mono ?_); rintro e w5 ⟨v5, rfl, o5, hk⟩
      have kk : Keep w4 w5 := (by ((repeat (first | (with_reducible assumption) | ((with_reducible refine Keep.setCell ?_ ?_ _); rotate_left; focus (first | omega | (simp; done) | (simp; omega))) | (with_reducible refine Keep.alloc ?_ _) | (with_reducible refine Keep.drewN ?_ _) | (with_reducible refine Keep.drew ?_) | (with_reducible exact Keep.refl _) | refine Keep.trans ?_ (by with_reducible assumption) | exact Keep.refl _ | assumption))))
      replace hW := hW.trans kk
      clear hk kk
      have hw := Own.new o5
      obtain ⟨A5, c5, rfl⟩ := hw.form
      clear ha3 ho o5 H3 hJ2
      have z5 := hW.size
      (go_wp2_with fail); (go_at_call 10); (refine (laws_toStringSS _ _ _ _ hxn hsn (hR.keep hW)).mono ?_); rintro e w6 ⟨g6, rs6, rfl, hl6, he6, hx, hk⟩
      have kk : Keep w5 w6 := (by ((repeat (first | (with_reducible assumption) | ((with_reducible refine Keep.setCell ?_ ?_ _); rotate_left; focus (first | omega | (simp; done) | (simp; omega))) | (with_reducible refine Keep.alloc ?_ _) | (with_reducible refine Keep.drewN ?_ _) | (with_reducible refine Keep.drew ?_) | (with_reducible exact Keep.refl _) | refine Keep.trans ?_ (by with_reducible assumption) | exact Keep.refl _ | assumption))))
      replace hw := hw.keep kk
      replace hW := hW.trans kk
      have hz56 := kk.size
      clear hk kk
      have H6 := Aside.mk (And.intro hl6 he6)
      clear hl6 he6
      have z6 := hW.size
      (go_wp2_with fail); (go_at_call 11); (refine (laws_toStringS _ _ _ _ hwn (hS.keep hW)).mono ?_); rintro e w7 ⟨j7, rfl, ho, hk⟩
      have kk : Keep w6 w7 := (by ((repeat (first | (with_reducible assumption) | ((with_reducible refine Keep.setCell ?_ ?_ _); rotate_left; focus (first | omega | (simp; done) | (simp; omega))) | (with_reducible refine Keep.alloc ?_ _) | (with_reducible refine Keep.drewN ?_ _) | (with_reducible refine Keep.drew ?_) | (with_reducible exact Keep.refl _) | refine Keep.trans ?_ (by with_reducible assumption) | exact Keep.refl _ | assumption))))
      replace hw := hw.keep kk
      replace hx := hx.keep kk
      replace hW := hW.trans kk
      have hz67 := kk.size
      clear hk kk
      have hy := Own.new ho
      clear ho
      have z7 := hW.size
      (go_wp2_with fail); (go_at_call 12); (refine (hI2.out _ _ (rws rs6) _ _ _ ((rws_len rs6).trans H6.out.1) H6.out.2 (hx.rds H6.out.1.symm) hy.rd).mono ?_); rintro e w8 ⟨v8, rfl, o8, hk⟩
      have kk : Keep w7 w8 := (by ((repeat (first | (with_reducible assumption) | ((with_reducible refine Keep.setCell ?_ ?_ _); rotate_left; focus (first | omega | (simp; done) | (simp; omega))) | (with_reducible refine Keep.alloc ?_ _) | (with_reducible refine Keep.drewN ?_ _) | (with_reducible refine Keep.drew ?_) | (with_reducible exact Keep.refl _) | refine Keep.trans ?_ (by with_reducible assumption) | exact Keep.refl _ | assumption))))
      replace hw := hw.keep kk
      replace hx := hx.keep kk
      replace hy := hy.keep kk
      replace hW := hW.trans kk
      clear hk kk
      have hg := Own.new o8
      obtain ⟨A8, c8, rfl⟩ := hg.form
      clear o8
      (go_wp2_with fail); (go_at_call 13); (refine (laws_eqInt64S _ _ _ _ _ _ hpn hg.rd hw.rd).mono ?_); rintro e w9 ⟨rfl, hk⟩
      have kk : Keep w8 w9 := (by ((repeat (first | (with_reducible assumption) | ((with_reducible refine Keep.setCell ?_ ?_ _); rotate_left; focus (first | omega | (simp; done) | (simp; omega))) | (with_reducible refine Keep.alloc ?_ _) | (with_reducible refine Keep.drewN ?_ _) | (with_reducible refine Keep.drew ?_) | (with_reducible exact Keep.refl _) | refine Keep.trans ?_ (by with_reducible assumption) | exact Keep.refl _ | assumption))))
      replace hw := hw.keep kk
      replace hx := hx.keep kk
      replace hy := hy.keep kk
      replace hg := hg.keep kk
      replace hW := hW.trans kk
      clear hk kk
      (go_wp2_with fail); (go_at_call 10); (refine (laws_toStringSS _ _ _ _ hxn hsn (hR.keep hW)).mono ?_); rintro e w10 ⟨g10, rs10, rfl, hl10, he10, ha10, hk⟩
      have kk : Keep w9 w10 := (by ((repeat (first | (with_reducible assumption) | ((with_reducible refine Keep.setCell ?_ ?_ _); rotate_left; focus (first | omega | (simp; done) | (simp; omega))) | (with_reducible refine Keep.alloc ?_ _) | (with_reducible refine Keep.drewN ?_ _) | (with_reducible refine Keep.drew ?_) | (with_reducible exact Keep.refl _) | refine Keep.trans ?_ (by with_reducible assumption) | exact Keep.refl _ | assumption))))
      replace hw := hw.keep kk
      replace hx := hx.keep kk
      replace hy := hy.keep kk
      replace hg := hg.keep kk
      replace hW := hW.trans kk
      clear hk kk
      have H10 := Aside.mk (And.intro hl10 he10)
      clear hl10 he10
      (go_wp2_with fail); (go_at_call 14); (refine (HEQ.out _ _ (rws rs6) (rws rs10) _ _ _ ((rws_len rs6).trans H6.out.1) H6.out.2 H10.out.2 (hx.rds H6.out.1.symm) (ha10.rds H10.out.1.symm)).mono ?_); rintro e w11 ⟨rfl, hk⟩
      have kk : Keep w10 w11 := (by ((repeat (first | (with_reducible assumption) | ((with_reducible refine Keep.setCell ?_ ?_ _); rotate_left; focus (first | omega | (simp; done) | (simp; omega))) | (with_reducible refine Keep.alloc ?_ _) | (with_reducible refine Keep.drewN ?_ _) | (with_reducible refine Keep.drew ?_) | (with_reducible exact Keep.refl _) | refine Keep.trans ?_ (by with_reducible assumption) | exact Keep.refl _ | assumption))))
      replace hw := hw.keep kk
      replace hx := hx.keep kk
      replace hy := hy.keep kk
      replace hg := hg.keep kk
      replace hW := hW.trans kk
      clear hk kk
      clear ha10 H10 HEQ
      (go_wp2_with fail); (go_at_call 11); (refine (laws_toStringS _ _ _ _ hwn (hS.keep hW)).mono ?_); rintro e w12 ⟨g12, rfl, ho12, hk⟩
      have kk : Keep w11 w12 := (by ((repeat (first | (with_reducible assumption) | ((with_reducible refine Keep.setCell ?_ ?_ _); rotate_left; focus (first | omega | (simp; done) | (simp; omega))) | (with_reducible refine Keep.alloc ?_ _) | (with_reducible refine Keep.drewN ?_ _) | (with_reducible refine Keep.drew ?_) | (with_reducible exact Keep.refl _) | refine Keep.trans ?_ (by with_reducible assumption) | exact Keep.refl _ | assumption))))
      replace hw := hw.keep kk
      replace hx := hx.keep kk
      replace hy := hy.keep kk
      replace hg := hg.keep kk
      replace hW := hW.trans kk
      clear hk kk
      (go_wp2_with fail); (go_at_call 15); (refine (laws_eqStringS _ _ _ _ _ _ hwn hy.rd (own_rds ho12)).mono ?_); rintro e w13 ⟨rfl, hk⟩
      have kk : Keep w12 w13 := (by ((repeat (first | (with_reducible assumption) | ((with_reducible refine Keep.setCell ?_ ?_ _); rotate_left; focus (first | omega | (simp; done) | (simp; omega))) | (with_reducible refine Keep.alloc ?_ _) | (with_reducible refine Keep.drewN ?_ _) | (with_reducible refine Keep.drew ?_) | (with_reducible exact Keep.refl _) | refine Keep.trans ?_ (by with_reducible assumption) | exact Keep.refl _ | assumption))))
      replace hw := hw.keep kk
      replace hx := hx.keep kk
      replace hy := hy.keep kk
      replace hg := hg.keep kk
      replace hW := hW.trans kk
      clear hk kk
      clear ho12
      (go_wp2_with fail); (go_at_call 16); (refine (laws_markStringSS g6 _ _ _ rs6 1 _ H6.out.1 hxn (by rw [H6.out.2]; exact hsn) (by decide) (by decide) hx).mono ?_); rintro e w14 ⟨m, rfl, hm1, hm3, haw⟩
      replace hw := haw.own hw (fun k hk => .inl (hw.lt k hk).2)
      replace hy := haw.own hy (fun k hk => .inr (hy.lt k hk).1)
      replace hg := haw.own hg (fun k hk => .inr (Nat.le_trans hz67 (hg.lt k hk).1))
      replace hW := haw.keep hW z5
      clear hx haw H6
      (go_wp2_with fail); (go_at_call 17); (refine (laws_markStringS _ _ _ _ _ m _ hwn (by omega) (by omega) hy.out).mono ?_); rintro e w15 ⟨rfl, hgr⟩
      replace hw := hw.other hgr (fun k hk => .inr (Nat.le_trans hz56 (hy.lt k hk).1))
      replace hg := hg.other hgr (fun k hk => .inl (hy.lt k hk).2)
      replace hW := hy.keepW hW hgr z6
      clear hy hgr
      obtain ⟨kk2, hkk2⟩ : ∃ kk2 : Int, ((m + ws.length : Nat) : Int) = kk2 := ⟨_, rfl⟩
      have hkn : ¬ kk2 < 0 := by omega
      rw [hkk2]
      clear hkk2
      (go_wp2_with fail); (go_at_call 13); (refine (laws_eqInt64S _ _ _ _ _ _ hpn hg.rd hw.rd).mono ?_); rintro e w16 ⟨rfl, hk⟩
      have kk : Keep w15 w16 := (by ((repeat (first | (with_reducible assumption) | ((with_reducible refine Keep.setCell ?_ ?_ _); rotate_left; focus (first | omega | (simp; done) | (simp; omega))) | (with_reducible refine Keep.alloc ?_ _) | (with_reducible refine Keep.drewN ?_ _) | (with_reducible refine Keep.drew ?_) | (with_reducible exact Keep.refl _) | refine Keep.trans ?_ (by with_reducible assumption) | exact Keep.refl _ | assumption))))
      replace hw := hw.keep kk
      replace hg := hg.keep kk
      replace hW := hW.trans kk
      clear hk kk
      (go_wp2_with fail); (go_at_call 18); (refine (laws_markInt64B _ _ _ _ _ 1 _ hpn (by decide) (by decide) hg.out).mono ?_); rintro e w17 ⟨rfl, om, hgr⟩
      have hm' := Own.mk om hg.lt
      replace hw := hw.other hgr (fun k hk => .inr (Nat.le_trans (Nat.le_trans hz56 hz67) (hg.lt k hk).1))
      replace hW := hg.keepW hW hgr z7
      clear hg om hgr
      (go_wp2_with fail); (go_at_call 19); (refine (laws_heldInt64S _ _ _ 1 _ hpn (by decide) (by decide) hm'.rd).mono ?_); rintro e w18 ⟨rfl, hk⟩
      have kk : Keep w17 w18 := (by ((repeat (first | (with_reducible assumption) | ((with_reducible refine Keep.setCell ?_ ?_ _); rotate_left; focus (first | omega | (simp; done) | (simp; omega))) | (with_reducible refine Keep.alloc ?_ _) | (with_reducible refine Keep.drewN ?_ _) | (with_reducible refine Keep.drew ?_) | (with_reducible exact Keep.refl _) | refine Keep.trans ?_ (by with_reducible assumption) | exact Keep.refl _ | assumption))))
      replace hw := hw.keep kk
      replace hm' := hm'.keep kk
      replace hW := hW.trans kk
      clear hk kk
      (go_wp2_with fail); (go_at_call 10); (refine (laws_toStringSS _ _ _ _ hxn hsn (hR.keep hW)).mono ?_); rintro e w19 ⟨g19, rs19, rfl, hl19, he19, ha19, hk⟩
      have kk : Keep w18 w19 := (by ((repeat (first | (with_reducible assumption) | ((with_reducible refine Keep.setCell ?_ ?_ _); rotate_left; focus (first | omega | (simp; done) | (simp; omega))) | (with_reducible refine Keep.alloc ?_ _) | (with_reducible refine Keep.drewN ?_ _) | (with_reducible refine Keep.drew ?_) | (with_reducible exact Keep.refl _) | refine Keep.trans ?_ (by with_reducible assumption) | exact Keep.refl _ | assumption))))
      replace hw := hw.keep kk
      replace hm' := hm'.keep kk
      replace hW := hW.trans kk
      clear hk kk
      have H19 := Aside.mk (And.intro hl19 he19)
      clear hl19 he19
      (go_wp2_with fail); (go_at_call 11); (refine (laws_toStringS _ _ _ _ hwn (hS.keep hW)).mono ?_); rintro e w20 ⟨j20, rfl, ho20, hk⟩
      have kk : Keep w19 w20 := (by ((repeat (first | (with_reducible assumption) | ((with_reducible refine Keep.setCell ?_ ?_ _); rotate_left; focus (first | omega | (simp; done) | (simp; omega))) | (with_reducible refine Keep.alloc ?_ _) | (with_reducible refine Keep.drewN ?_ _) | (with_reducible refine Keep.drew ?_) | (with_reducible exact Keep.refl _) | refine Keep.trans ?_ (by with_reducible assumption) | exact Keep.refl _ | assumption))))
      replace hw := hw.keep kk
      replace hm' := hm'.keep kk
      replace ha19 := ha19.keep kk
      replace hW := hW.trans kk
      clear hk kk
      (go_wp2_with fail); (go_at_call 12); (refine (hI2.out _ _ (rws rs19) _ _ _ ((rws_len rs19).trans H19.out.1) H19.out.2 (ha19.rds H19.out.1.symm) (Own.new ho20).rd).mono ?_); rintro e w21 ⟨v21, rfl, o21, hk⟩
      have kk : Keep w20 w21 := (by ((repeat (first | (with_reducible assumption) | ((with_reducible refine Keep.setCell ?_ ?_ _); rotate_left; focus (first | omega | (simp; done) | (simp; omega))) | (with_reducible refine Keep.alloc ?_ _) | (with_reducible refine Keep.drewN ?_ _) | (with_reducible refine Keep.drew ?_) | (with_reducible exact Keep.refl _) | refine Keep.trans ?_ (by with_reducible assumption) | exact Keep.refl _ | assumption))))
      replace hw := hw.keep kk
      replace hm' := hm'.keep kk
      replace hW := hW.trans kk
      clear hk kk
      have hg := Own.new o21
      obtain ⟨A21, c21, rfl⟩ := hg.form
      clear o21 ha19 ho20 H19
      (go_wp2_with fail); (go_at_call 13); (refine (laws_eqInt64S _ _ _ _ _ _ hpn hg.rd hw.rd).mono ?_); rintro e w22 ⟨rfl, hk⟩
      have kk : Keep w21 w22 := (by ((repeat (first | (with_reducible assumption) | ((with_reducible refine Keep.setCell ?_ ?_ _); rotate_left; focus (first | omega | (simp; done) | (simp; omega))) | (with_reducible refine Keep.alloc ?_ _) | (with_reducible refine Keep.drewN ?_ _) | (with_reducible refine Keep.drew ?_) | (with_reducible exact Keep.refl _) | refine Keep.trans ?_ (by with_reducible assumption) | exact Keep.refl _ | assumption))))
      replace hm' := hm'.keep kk
      replace hW := hW.trans kk
      clear hk kk
      (go_wp2_with fail); (go_at_call 19); (refine (laws_heldInt64S _ _ _ 1 _ hpn (by decide) (by decide) hm'.rd).mono ?_); rintro e w23 ⟨rfl, hk⟩
      have kk : Keep w22 w23 := (by ((repeat (first | (with_reducible assumption) | ((with_reducible refine Keep.setCell ?_ ?_ _); rotate_left; focus (first | omega | (simp; done) | (simp; omega))) | (with_reducible refine Keep.alloc ?_ _) | (with_reducible refine Keep.drewN ?_ _) | (with_reducible refine Keep.drew ?_) | (with_reducible exact Keep.refl _) | refine Keep.trans ?_ (by with_reducible assumption) | exact Keep.refl _ | assumption))))
      replace hW := hW.trans kk
      clear hk kk
      clear hw hg hm'
      go_wp2
      go_ret; exact ⟨rfl, hW⟩
end Go.Proofs.YtbbnhbfofdhnbaaDoor

/- Words with the same holes: the law. -/
import Derived.Test.YtbbnhbfofdhnbaaDoorAK2
import Derived.Test.YtbbnhbfofdhnbaaDoorA2
import Derived.Test.YtbbnhbfofdhnbaaDoorMSS
import Derived.Test.YtbbnhbfofdhnbaaDoorTU
import Derived.Test.YtbbnhbfofdhnbaaDoorMB
import Derived.Test.YtbbnhbfofdhnbaaDoorW16
import Derived.Test.YtbbnhbfofdhnbaaDoorW3
set_option linter.unusedVariables false
set_option linter.unusedSimpArgs false
namespace Go.Proofs.YtbbnhbfofdhnbaaDoor
open Go.RowKit
set_option maxHeartbeats 4000000
set_option maxRecDepth 20000
theorem alL_len (s z p : Int) (T : List UInt8 → Nat) (l : List ByteArray) : (alL s z p T l).length ≤ 1600 := by
  rcases alE_cases s z p l with ⟨h0, _, _, h40⟩ | ⟨h0, _⟩
  · rw [alL_yes h0]
    have := akL_len (akP s z T l) l.length l.length
    have h2 : l.length * l.length ≤ 40 * 40 := Nat.mul_le_mul h40 h40
    unfold akAll; omega
  · rw [alL_no h0]; simp
theorem laws_FnExactAlikeWords (s z p : Int) (A : Option Addr) (l : List ByteArray) (c : Nat) (w : World) (hw : I16 s ∧ I16 z ∧ I16 p) (hl : l.length ≤ 9223372036854775807 ∧ Szs l ∧ Rd w A (strs l)) :
    Calls Tryd.prog 4 #[.agg #[.int .i16 s, .int .i16 z, .int .i16 p], .slice A l.length c] w fun e w' => e = .returned (.bool true) ∧ Keep w w' := by
  obtain ⟨hm, hz, hR⟩ := hl
  by_cases hn : (1048576 : Int) < (l.length + szSum l : Nat)
  · have e1 := szL_gt hn
    go_enter Tryd.func4, Tryd.ntmps4
    (go_wp2_with fail); (go_at_call 8); (refine (laws_szStringS _ _ _ 1048576 _ (by decide) hm hz (hR.keep ((Keep.refl _).alloc _))).mono ?_); rintro e w1 ⟨rfl, hk1⟩
    rw [e1]
    go_wp2
    go_ret; exact ⟨rfl, (by ((repeat (first | (with_reducible assumption) | ((with_reducible refine Keep.setCell ?_ ?_ _); rotate_left; focus (first | omega | (simp; done) | (simp; omega))) | (with_reducible refine Keep.alloc ?_ _) | (with_reducible refine Keep.drewN ?_ _) | (with_reducible refine Keep.drew ?_) | (with_reducible exact Keep.refl _) | refine Keep.trans ?_ (by with_reducible assumption) | exact Keep.refl _ | assumption))))⟩
  · have e1 := szL_le hn
    have hn' : l.length ≤ 1048576 := by omega
    obtain ⟨T, hT⟩ := exMTim s z p
    have hpl := alL_len s z p T l
    have hI := Aside.mk (fun A c W h => impl_AlikeWords s z p A l c T W hw hm hz h hT)
    have hJ := Aside.mk (fun A c W h => spec_AlikeWords s z p A l c T W hw hm hz h hT)
    have hneg : ¬ ((1048576 : Int) - (l.length + szSum l : Nat) < 0) := by omega
    obtain ⟨left, hle⟩ : ∃ x, szL 1048576 l = x := ⟨_, rfl⟩
    have hl0 : ¬ left < 0 := by omega
    generalize alL s z p T l = L at *
    generalize alE s z p l = E at *
    have hpn : L.length ≤ 1048576 := by omega
    clear hT e1 hneg hn
    go_enter Tryd.func4, Tryd.ntmps4
    (go_wp2_with fail); (go_at_call 8); (refine (laws_szStringS _ _ _ 1048576 _ (by decide) hm hz (hR.keep ((Keep.refl _).alloc _))).mono ?_); rintro e w1 ⟨rfl, hk1⟩
    rw [hle]
    have hX : Bx w1 w.heap.size #[.int .i16 s, .int .i16 z, .int .i16 p] 38 := (Bx.new _ _ _).keep hk1
    have hW : Keep w w1 := (by ((repeat (first | (with_reducible assumption) | ((with_reducible refine Keep.setCell ?_ ?_ _); rotate_left; focus (first | omega | (simp; done) | (simp; omega))) | (with_reducible refine Keep.alloc ?_ _) | (with_reducible refine Keep.drewN ?_ _) | (with_reducible refine Keep.drew ?_) | (with_reducible exact Keep.refl _) | refine Keep.trans ?_ (by with_reducible assumption) | exact Keep.refl _ | assumption))))
    clear hk1 hle hz
    have hXs := hX.three
    (go_wp2_with fail); (go_at_call 21); (refine (laws_toMix _ _ _ _).mono ?_); rintro e x1 ⟨rfl, hk⟩
    have kk : Keep w1 x1 := (by ((repeat (first | (with_reducible assumption) | ((with_reducible refine Keep.setCell ?_ ?_ _); rotate_left; focus (first | omega | (simp; done) | (simp; omega))) | (with_reducible refine Keep.alloc ?_ _) | (with_reducible refine Keep.drewN ?_ _) | (with_reducible refine Keep.drew ?_) | (with_reducible exact Keep.refl _) | refine Keep.trans ?_ (by with_reducible assumption) | exact Keep.refl _ | assumption))))
    replace hX := hX.keep kk
    replace hW := hW.trans kk
    clear hk kk
    clear hXs
    (go_wp2_with fail); (go_at_call 11); (refine (laws_toStringS _ _ _ _ hn' (hR.keep hW)).mono ?_); rintro e x2 ⟨g2, rfl, ho2, hk⟩
    have kk : Keep x1 x2 := (by ((repeat (first | (with_reducible assumption) | ((with_reducible refine Keep.setCell ?_ ?_ _); rotate_left; focus (first | omega | (simp; done) | (simp; omega))) | (with_reducible refine Keep.alloc ?_ _) | (with_reducible refine Keep.drewN ?_ _) | (with_reducible refine Keep.drew ?_) | (with_reducible exact Keep.refl _) | refine Keep.trans ?_ (by with_reducible assumption) | exact Keep.refl _ | assumption))))
    replace hX := hX.keep kk
    replace hW := hW.trans kk
    clear hk kk
    have zx2 := hW.size
    (go_wp2_with fail); (go_at_call 20); (refine (hJ.out _ _ _ (own_rds ho2)).mono ?_); rintro e w2 ⟨v2, rfl, o2, hk⟩
    have kk : Keep x2 w2 := (by ((repeat (first | (with_reducible assumption) | ((with_reducible refine Keep.setCell ?_ ?_ _); rotate_left; focus (first | omega | (simp; done) | (simp; omega))) | (with_reducible refine Keep.alloc ?_ _) | (with_reducible refine Keep.drewN ?_ _) | (with_reducible refine Keep.drew ?_) | (with_reducible exact Keep.refl _) | refine Keep.trans ?_ (by with_reducible assumption) | exact Keep.refl _ | assumption))))
    replace hX := hX.keep kk
    replace hW := hW.trans kk
    clear hk kk
    have hw := Own.new o2
    obtain ⟨A3, c3, rfl⟩ := hw.form
    clear ho2 o2
    have zX := hX.lt
    have z3 := hW.size
    (go_wp2_with fail); (go_at_call 11); (refine (laws_toStringS _ _ _ _ hn' (hR.keep hW)).mono ?_); rintro e w4 ⟨g4, rfl, ho4, hk⟩
    have kk : Keep w2 w4 := (by ((repeat (first | (with_reducible assumption) | ((with_reducible refine Keep.setCell ?_ ?_ _); rotate_left; focus (first | omega | (simp; done) | (simp; omega))) | (with_reducible refine Keep.alloc ?_ _) | (with_reducible refine Keep.drewN ?_ _) | (with_reducible refine Keep.drew ?_) | (with_reducible exact Keep.refl _) | refine Keep.trans ?_ (by with_reducible assumption) | exact Keep.refl _ | assumption))))
    replace hw := hw.keep kk
    replace hX := hX.keep kk
    replace hW := hW.trans kk
    have hz34 := kk.size
    clear hk kk
    have hx := Own.new ho4
    clear ho4
    have hXs := hX.three
    (go_wp2_with fail); (go_at_call 21); (refine (laws_toMix _ _ _ _).mono ?_); rintro e x4 ⟨rfl, hk⟩
    have kk : Keep w4 x4 := (by ((repeat (first | (with_reducible assumption) | ((with_reducible refine Keep.setCell ?_ ?_ _); rotate_left; focus (first | omega | (simp; done) | (simp; omega))) | (with_reducible refine Keep.alloc ?_ _) | (with_reducible refine Keep.drewN ?_ _) | (with_reducible refine Keep.drew ?_) | (with_reducible exact Keep.refl _) | refine Keep.trans ?_ (by with_reducible assumption) | exact Keep.refl _ | assumption))))
    replace hw := hw.keep kk
    replace hx := hx.keep kk
    replace hX := hX.keep kk
    replace hW := hW.trans kk
    have hz44 := kk.size
    clear hk kk
    clear hXs
    have z4 := hW.size
    (go_wp2_with fail); (go_at_call 22); (refine (hI.out _ _ _ hx.rd).mono ?_); rintro e w5 ⟨v5, rfl, o5, hk⟩
    have kk : Keep x4 w5 := (by ((repeat (first | (with_reducible assumption) | ((with_reducible refine Keep.setCell ?_ ?_ _); rotate_left; focus (first | omega | (simp; done) | (simp; omega))) | (with_reducible refine Keep.alloc ?_ _) | (with_reducible refine Keep.drewN ?_ _) | (with_reducible refine Keep.drew ?_) | (with_reducible exact Keep.refl _) | refine Keep.trans ?_ (by with_reducible assumption) | exact Keep.refl _ | assumption))))
    replace hw := hw.keep kk
    replace hx := hx.keep kk
    replace hX := hX.keep kk
    replace hW := hW.trans kk
    clear hk kk
    have hg := Own.new o5
    obtain ⟨A5, c5, rfl⟩ := hg.form
    clear o5
    (go_wp2_with fail); (go_at_call 23); (refine (laws_eqInt64A2S _ _ _ _ _ _ hpn hg.rd hw.rd).mono ?_); rintro e w6 ⟨rfl, hk⟩
    have kk : Keep w5 w6 := (by ((repeat (first | (with_reducible assumption) | ((with_reducible refine Keep.setCell ?_ ?_ _); rotate_left; focus (first | omega | (simp; done) | (simp; omega))) | (with_reducible refine Keep.alloc ?_ _) | (with_reducible refine Keep.drewN ?_ _) | (with_reducible refine Keep.drew ?_) | (with_reducible exact Keep.refl _) | refine Keep.trans ?_ (by with_reducible assumption) | exact Keep.refl _ | assumption))))
    replace hw := hw.keep kk
    replace hx := hx.keep kk
    replace hg := hg.keep kk
    replace hX := hX.keep kk
    replace hW := hW.trans kk
    clear hk kk
    (go_wp2_with fail); (go_at_call 11); (refine (laws_toStringS _ _ _ _ hn' (hR.keep hW)).mono ?_); rintro e w7 ⟨g7, rfl, ho7, hk⟩
    have kk : Keep w6 w7 := (by ((repeat (first | (with_reducible assumption) | ((with_reducible refine Keep.setCell ?_ ?_ _); rotate_left; focus (first | omega | (simp; done) | (simp; omega))) | (with_reducible refine Keep.alloc ?_ _) | (with_reducible refine Keep.drewN ?_ _) | (with_reducible refine Keep.drew ?_) | (with_reducible exact Keep.refl _) | refine Keep.trans ?_ (by with_reducible assumption) | exact Keep.refl _ | assumption))))
    replace hw := hw.keep kk
    replace hx := hx.keep kk
    replace hg := hg.keep kk
    replace hX := hX.keep kk
    replace hW := hW.trans kk
    clear hk kk
    (go_wp2_with fail); (go_at_call 15); (refine (laws_eqStringS _ _ _ _ _ _ hn' hx.rd (own_rds ho7)).mono ?_); rintro e w8 ⟨rfl, hk⟩
    have kk : Keep w7 w8 := (by ((repeat (first | (with_reducible assumption) | ((with_reducible refine Keep.setCell ?_ ?_ _); rotate_left; focus (first | omega | (simp; done) | (simp; omega))) | (with_reducible refine Keep.alloc ?_ _) | (with_reducible refine Keep.drewN ?_ _) | (with_reducible refine Keep.drew ?_) | (with_reducible exact Keep.refl _) | refine Keep.trans ?_ (by with_reducible assumption) | exact Keep.refl _ | assumption))))
    replace hw := hw.keep kk
    replace hx := hx.keep kk
    replace hg := hg.keep kk
    replace hX := hX.keep kk
    replace hW := hW.trans kk
    clear hk kk
    clear ho7
    (go_wp2_with fail); (go_at_call 17); (refine (laws_markStringS _ _ _ _ _ 1 _ hn' (by decide) (by decide) hx.out).mono ?_); rintro e w9 ⟨rfl, hgr⟩
    replace hw := hw.other hgr (fun k hk => .inr (hx.lt k hk).1)
    replace hg := hg.other hgr (fun k hk => .inl (Nat.lt_of_lt_of_le (hx.lt k hk).2 hz44))
    replace hX := hX.grownBy hgr (fun h => by have := hx.lt _ h.symm; omega)
    replace hW := hx.keepW hW hgr z3
    clear hx hgr
    (go_wp2_with fail); (go_at_call 23); (refine (laws_eqInt64A2S _ _ _ _ _ _ hpn hg.rd hw.rd).mono ?_); rintro e w10 ⟨rfl, hk⟩
    have kk : Keep w9 w10 := (by ((repeat (first | (with_reducible assumption) | ((with_reducible refine Keep.setCell ?_ ?_ _); rotate_left; focus (first | omega | (simp; done) | (simp; omega))) | (with_reducible refine Keep.alloc ?_ _) | (with_reducible refine Keep.drewN ?_ _) | (with_reducible refine Keep.drew ?_) | (with_reducible exact Keep.refl _) | refine Keep.trans ?_ (by with_reducible assumption) | exact Keep.refl _ | assumption))))
    replace hw := hw.keep kk
    replace hg := hg.keep kk
    replace hX := hX.keep kk
    replace hW := hW.trans kk
    clear hk kk
    (go_wp2_with fail); (go_at_call 24); (refine (laws_markInt64A2S _ _ _ _ _ 1 _ hpn (by decide) (by decide) hg.out).mono ?_); rintro e w11 ⟨rfl, om, hgr⟩
    have hm' := Own.mk om hg.lt
    replace hw := hw.other hgr (fun k hk => .inr (Nat.le_trans hz34 (Nat.le_trans hz44 (hg.lt k hk).1)))
    replace hX := hX.grownBy hgr (fun h => by have := hg.lt _ h.symm; omega)
    replace hW := hg.keepW hW hgr z4
    clear hg om hgr
    (go_wp2_with fail); (go_at_call 25); (refine (laws_heldInt64A2S _ _ _ 1 _ hpn (by decide) (by decide) hm'.rd).mono ?_); rintro e w12 ⟨rfl, hk⟩
    have kk : Keep w11 w12 := (by ((repeat (first | (with_reducible assumption) | ((with_reducible refine Keep.setCell ?_ ?_ _); rotate_left; focus (first | omega | (simp; done) | (simp; omega))) | (with_reducible refine Keep.alloc ?_ _) | (with_reducible refine Keep.drewN ?_ _) | (with_reducible refine Keep.drew ?_) | (with_reducible exact Keep.refl _) | refine Keep.trans ?_ (by with_reducible assumption) | exact Keep.refl _ | assumption))))
    replace hw := hw.keep kk
    replace hm' := hm'.keep kk
    replace hX := hX.keep kk
    replace hW := hW.trans kk
    clear hk kk
    clear z3 z4 hz34 hz44 zx2 zX
    have hXs := hX.three
    (go_wp2_with fail); (go_at_call 21); (refine (laws_toMix _ _ _ _).mono ?_); rintro e x12 ⟨rfl, hk⟩
    have kk : Keep w12 x12 := (by ((repeat (first | (with_reducible assumption) | ((with_reducible refine Keep.setCell ?_ ?_ _); rotate_left; focus (first | omega | (simp; done) | (simp; omega))) | (with_reducible refine Keep.alloc ?_ _) | (with_reducible refine Keep.drewN ?_ _) | (with_reducible refine Keep.drew ?_) | (with_reducible exact Keep.refl _) | refine Keep.trans ?_ (by with_reducible assumption) | exact Keep.refl _ | assumption))))
    replace hw := hw.keep kk
    replace hm' := hm'.keep kk
    replace hW := hW.trans kk
    clear hk kk
    clear hXs hX
    (go_wp2_with fail); (go_at_call 11); (refine (laws_toStringS _ _ _ _ hn' (hR.keep hW)).mono ?_); rintro e w13 ⟨g13, rfl, ho13, hk⟩
    have kk : Keep x12 w13 := (by ((repeat (first | (with_reducible assumption) | ((with_reducible refine Keep.setCell ?_ ?_ _); rotate_left; focus (first | omega | (simp; done) | (simp; omega))) | (with_reducible refine Keep.alloc ?_ _) | (with_reducible refine Keep.drewN ?_ _) | (with_reducible refine Keep.drew ?_) | (with_reducible exact Keep.refl _) | refine Keep.trans ?_ (by with_reducible assumption) | exact Keep.refl _ | assumption))))
    replace hw := hw.keep kk
    replace hm' := hm'.keep kk
    replace hW := hW.trans kk
    clear hk kk
    (go_wp2_with fail); (go_at_call 22); (refine (hI.out _ _ _ (own_rds ho13)).mono ?_); rintro e w14 ⟨v14, rfl, o14, hk⟩
    have kk : Keep w13 w14 := (by ((repeat (first | (with_reducible assumption) | ((with_reducible refine Keep.setCell ?_ ?_ _); rotate_left; focus (first | omega | (simp; done) | (simp; omega))) | (with_reducible refine Keep.alloc ?_ _) | (with_reducible refine Keep.drewN ?_ _) | (with_reducible refine Keep.drew ?_) | (with_reducible exact Keep.refl _) | refine Keep.trans ?_ (by with_reducible assumption) | exact Keep.refl _ | assumption))))
    replace hw := hw.keep kk
    replace hm' := hm'.keep kk
    replace hW := hW.trans kk
    clear hk kk
    have hg := Own.new o14
    obtain ⟨A14, c14, rfl⟩ := hg.form
    clear o14 ho13
    (go_wp2_with fail); (go_at_call 23); (refine (laws_eqInt64A2S _ _ _ _ _ _ hpn hg.rd hw.rd).mono ?_); rintro e w15 ⟨rfl, hk⟩
    have kk : Keep w14 w15 := (by ((repeat (first | (with_reducible assumption) | ((with_reducible refine Keep.setCell ?_ ?_ _); rotate_left; focus (first | omega | (simp; done) | (simp; omega))) | (with_reducible refine Keep.alloc ?_ _) | (with_reducible refine Keep.drewN ?_ _) | (with_reducible refine Keep.drew ?_) | (with_reducible exact Keep.refl _) | refine Keep.trans ?_ (by with_reducible assumption) | exact Keep.refl _ | assumption))))
    replace hm' := hm'.keep kk
    replace hW := hW.trans kk
    clear hk kk
    (go_wp2_with fail); (go_at_call 25); (refine (laws_heldInt64A2S _ _ _ 1 _ hpn (by decide) (by decide) hm'.rd).mono ?_); rintro e w16 ⟨rfl, hk⟩
    have kk : Keep w15 w16 := (by ((repeat (first | (with_reducible assumption) | ((with_reducible refine Keep.setCell ?_ ?_ _); rotate_left; focus (first | omega | (simp; done) | (simp; omega))) | (with_reducible refine Keep.alloc ?_ _) | (with_reducible refine Keep.drewN ?_ _) | (with_reducible refine Keep.drew ?_) | (with_reducible exact Keep.refl _) | refine Keep.trans ?_ (by with_reducible assumption) | exact Keep.refl _ | assumption))))
    replace hW := hW.trans kk
    clear hk kk
    clear hw hg hm'
    go_wp2
    go_ret; exact ⟨rfl, (by ((repeat (first | (with_reducible assumption) | ((with_reducible refine Keep.setCell ?_ ?_ _); rotate_left; focus (first | omega | (simp; done) | (simp; omega))) | (with_reducible refine Keep.alloc ?_ _) | (with_reducible refine Keep.drewN ?_ _) | (with_reducible refine Keep.drew ?_) | (with_reducible exact Keep.refl _) | refine Keep.trans ?_ (by with_reducible assumption) | exact Keep.refl _ | assumption))))⟩
end Go.Proofs.YtbbnhbfofdhnbaaDoor

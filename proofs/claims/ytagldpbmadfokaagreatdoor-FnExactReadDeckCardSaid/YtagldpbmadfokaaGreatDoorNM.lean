/- A deck read out of a text: the law. -/
import Derived.Test.YtagldpbmadfokaaGreatDoorNP
import Derived.Test.YtagldpbmadfokaaGreatDoorMC
set_option linter.unusedVariables false
set_option linter.unusedSimpArgs false
namespace Go.Proofs.YtagldpbmadfokaaGreatDoor
open Go.RowKit
set_option maxHeartbeats 4000000
set_option maxRecDepth 20000
theorem laws_FnExactReadDeck (s : ByteArray) (w : World) (hs : s.size ≤ 9223372036854775807) (hg : Gs w) :
    Calls Tryz.prog 3 #[.string s] w fun e w' => e = .returned (.bool true) ∧ Keep w w' := by
  by_cases hn : (1048576 : Int) < s.size
  · go_enter Tryz.func3, Tryz.ntmps3
    go_wp2
    go_ret; exact ⟨rfl, (by ((repeat (first | (with_reducible assumption) | ((with_reducible refine Keep.setCell ?_ ?_ _); rotate_left; focus (first | omega | (simp; done) | (simp; omega))) | (with_reducible refine Keep.alloc ?_ _) | (with_reducible refine Keep.drewN ?_ _) | (with_reducible refine Keep.drew ?_) | (with_reducible exact Keep.refl _) | refine Keep.trans ?_ (by with_reducible assumption) | exact Keep.refl _ | assumption))))⟩
  · have hI := Aside.mk (fun W h => impl_ReadDeck s W (by omega) h)
    have hJ := Aside.mk (fun W => spec_ReadDeck s W (by omega))
    have hp80 := rdL_len s
    generalize rdL s = L at *
    generalize rdE s = E at *
    have hpn : L.length ≤ 1048576 := by omega
    have HGs := Aside.mk (fun W (h : Keep w W) => hg.keep h)
    have hW := Keep.refl w
    clear hg hp80
    go_enter Tryz.func3, Tryz.ntmps3
    (go_wp2_with fail); (go_at_call 4); (refine (hJ.out _).mono ?_); rintro e w3 ⟨v3, rfl, o3, hk⟩
    have kk : Keep w w3 := (by ((repeat (first | (with_reducible assumption) | ((with_reducible refine Keep.setCell ?_ ?_ _); rotate_left; focus (first | omega | (simp; done) | (simp; omega))) | (with_reducible refine Keep.alloc ?_ _) | (with_reducible refine Keep.drewN ?_ _) | (with_reducible refine Keep.drew ?_) | (with_reducible exact Keep.refl _) | refine Keep.trans ?_ (by with_reducible assumption) | exact Keep.refl _ | assumption))))
    replace hW := hW.trans kk
    clear hk kk
    have hw := Own.new o3
    obtain ⟨A3, c3, rfl⟩ := hw.form
    have z3 := hW.size
    clear o3 hJ
    (go_wp2_with fail); (go_at_call 5); (refine (hI.out _ (HGs.out _ hW)).mono ?_); rintro e w5 ⟨v5, rfl, o5, hk⟩
    have kk : Keep w3 w5 := (by ((repeat (first | (with_reducible assumption) | ((with_reducible refine Keep.setCell ?_ ?_ _); rotate_left; focus (first | omega | (simp; done) | (simp; omega))) | (with_reducible refine Keep.alloc ?_ _) | (with_reducible refine Keep.drewN ?_ _) | (with_reducible refine Keep.drew ?_) | (with_reducible exact Keep.refl _) | refine Keep.trans ?_ (by with_reducible assumption) | exact Keep.refl _ | assumption))))
    replace hw := hw.keep kk
    replace hW := hW.trans kk
    clear hk kk
    have hG := Own.new o5
    obtain ⟨A5, c5, rfl⟩ := hG.form
    clear o5
    (go_wp2_with fail); (go_at_call 6); (refine (laws_eqCardS _ _ _ _ _ _ hpn hG.rd hw.rd).mono ?_); rintro e w6 ⟨rfl, hk⟩
    have kk : Keep w5 w6 := (by ((repeat (first | (with_reducible assumption) | ((with_reducible refine Keep.setCell ?_ ?_ _); rotate_left; focus (first | omega | (simp; done) | (simp; omega))) | (with_reducible refine Keep.alloc ?_ _) | (with_reducible refine Keep.drewN ?_ _) | (with_reducible refine Keep.drew ?_) | (with_reducible exact Keep.refl _) | refine Keep.trans ?_ (by with_reducible assumption) | exact Keep.refl _ | assumption))))
    replace hw := hw.keep kk
    replace hG := hG.keep kk
    replace hW := hW.trans kk
    clear hk kk
    (go_wp2_with fail); (go_at_call 7); (refine (laws_markCardS _ _ _ _ _ 1 _ hpn (by decide) (by decide) hG.out).mono ?_); rintro e w11 ⟨rfl, om, hgr⟩
    have hm := Own.mk om hG.lt
    replace hw := hw.other hgr (fun k hk => .inr (hG.lt k hk).1)
    replace hW := hG.keepW hW hgr z3
    clear hG om hgr
    (go_wp2_with fail); (go_at_call 8); (refine (laws_heldCardS _ _ _ 1 _ hpn (by decide) (by decide) hm.rd).mono ?_); rintro e w12 ⟨rfl, hk⟩
    have kk : Keep w11 w12 := (by ((repeat (first | (with_reducible assumption) | ((with_reducible refine Keep.setCell ?_ ?_ _); rotate_left; focus (first | omega | (simp; done) | (simp; omega))) | (with_reducible refine Keep.alloc ?_ _) | (with_reducible refine Keep.drewN ?_ _) | (with_reducible refine Keep.drew ?_) | (with_reducible exact Keep.refl _) | refine Keep.trans ?_ (by with_reducible assumption) | exact Keep.refl _ | assumption))))
    replace hw := hw.keep kk
    replace hm := hm.keep kk
    replace hW := hW.trans kk
    clear hk kk
    (go_wp2_with fail); (go_at_call 5); (refine (hI.out _ (HGs.out _ hW)).mono ?_); rintro e w14 ⟨v14, rfl, o14, hk⟩
    have kk : Keep w12 w14 := (by ((repeat (first | (with_reducible assumption) | ((with_reducible refine Keep.setCell ?_ ?_ _); rotate_left; focus (first | omega | (simp; done) | (simp; omega))) | (with_reducible refine Keep.alloc ?_ _) | (with_reducible refine Keep.drewN ?_ _) | (with_reducible refine Keep.drew ?_) | (with_reducible exact Keep.refl _) | refine Keep.trans ?_ (by with_reducible assumption) | exact Keep.refl _ | assumption))))
    replace hw := hw.keep kk
    replace hm := hm.keep kk
    replace hW := hW.trans kk
    clear hk kk
    have hG := Own.new o14
    obtain ⟨A14, c14, rfl⟩ := hG.form
    clear o14
    (go_wp2_with fail); (go_at_call 6); (refine (laws_eqCardS _ _ _ _ _ _ hpn hG.rd hw.rd).mono ?_); rintro e w15 ⟨rfl, hk⟩
    have kk : Keep w14 w15 := (by ((repeat (first | (with_reducible assumption) | ((with_reducible refine Keep.setCell ?_ ?_ _); rotate_left; focus (first | omega | (simp; done) | (simp; omega))) | (with_reducible refine Keep.alloc ?_ _) | (with_reducible refine Keep.drewN ?_ _) | (with_reducible refine Keep.drew ?_) | (with_reducible exact Keep.refl _) | refine Keep.trans ?_ (by with_reducible assumption) | exact Keep.refl _ | assumption))))
    replace hm := hm.keep kk
    replace hW := hW.trans kk
    clear hk kk
    (go_wp2_with fail); (go_at_call 8); (refine (laws_heldCardS _ _ _ 1 _ hpn (by decide) (by decide) hm.rd).mono ?_); rintro e w16 ⟨rfl, hk⟩
    have kk : Keep w15 w16 := (by ((repeat (first | (with_reducible assumption) | ((with_reducible refine Keep.setCell ?_ ?_ _); rotate_left; focus (first | omega | (simp; done) | (simp; omega))) | (with_reducible refine Keep.alloc ?_ _) | (with_reducible refine Keep.drewN ?_ _) | (with_reducible refine Keep.drew ?_) | (with_reducible exact Keep.refl _) | refine Keep.trans ?_ (by with_reducible assumption) | exact Keep.refl _ | assumption))))
    replace hW := hW.trans kk
    clear hk kk
    clear hw hG hm
    go_wp2
    go_ret; exact ⟨rfl, hW⟩
end Go.Proofs.YtagldpbmadfokaaGreatDoor

/- Passes of needles: the walks. -/
import Derived.Test.YtpmilcfppcmodaaDoorSP
set_option linter.unusedVariables false
set_option linter.unusedSimpArgs false
namespace Go.Proofs.YtpmilcfppcmodaaDoor
open Go.RowKit
set_option maxHeartbeats 1000000
set_option maxRecDepth 20000
def pnE (l : List Cd) (h : Int) : Int := cond (dkB l) (cond (holeB h) 0 2) 1
def pnL (l : List Cd) (h : Int) : List Cd := cond (dkB l) (cond (holeB h) (stL h l ++ drL h l) []) []
def pnN (l : List Cd) (h : Int) : Int := cond (dkB l) (cond (holeB h) ((drL h l).length : Int) 0) 0
def spS (l : List Cd) (h : Int) : List Cd := cond (dkB l) (cond (holeB h) (stL h l) []) []
def spD (l : List Cd) (h : Int) : List Cd := cond (dkB l) (cond (holeB h) (drL h l) []) []
theorem dkB_80 {l : List Cd} (h : dkB l = true) : l.length ≤ 80 := by
  unfold dkB at h; simp at h; exact h.1
theorem cds_one (l : List Cd) : ∀ u ∈ cds l, u.oneCell' = true := by
  intro u hu
  unfold cds at hu
  obtain ⟨x, _, hx⟩ := List.mem_flatMap.1 hu
  simp [cdV] at hx
  rcases hx with rfl | rfl | rfl <;> rfl
theorem spec_l02Asked (A : Option Addr) (l : List Cd) (c : Nat) (h : Int) (w : World) (hm : l.length ≤ 9223372036854775807) (hz : CSz l) (hR : Rd w A (cds l)) :
    Calls Tryd.prog 93 #[.slice A l.length c, .int .i64 h] w fun e w' => e = .returned (.int .i64 (pnE l h)) ∧ Keep w w' := by
  have hd := spec_l02Ok A l c w hm hz hR
  cases h1 : dkB l <;> simp only [pnE, h1, cond_true, cond_false]
  · rw [h1] at hd
    go_enter Tryd.func93, Tryd.ntmps93
    (go_wp2_with fail); (go_at_call 67); (refine (hd).mono ?_); rintro e w1 ⟨rfl, hk1⟩
    go_wp2
    go_ret; exact ⟨rfl, (by ((repeat (first | (with_reducible assumption) | ((with_reducible refine Keep.setCell ?_ ?_ _); rotate_left; focus (first | omega | (simp; done) | (simp; omega))) | (with_reducible refine Keep.alloc ?_ _) | (with_reducible refine Keep.drewN ?_ _) | (with_reducible refine Keep.drew ?_) | (with_reducible exact Keep.refl _) | refine Keep.trans ?_ (by with_reducible assumption) | exact Keep.refl _ | assumption))))⟩
  · rw [h1] at hd
    cases h2 : holeB h
    all_goals
      go_enter Tryd.func93, Tryd.ntmps93
      (go_wp2_with fail); (go_at_call 67); (refine (hd).mono ?_); rintro e w1 ⟨rfl, hk1⟩
      (go_wp2_with fail); (go_at_call 97); (refine (spec_l01Hole _ _).mono ?_); rintro e w2 ⟨rfl, hk2⟩
      rw [h2]
      go_wp2
      go_ret; exact ⟨rfl, (by ((repeat (first | (with_reducible assumption) | ((with_reducible refine Keep.setCell ?_ ?_ _); rotate_left; focus (first | omega | (simp; done) | (simp; omega))) | (with_reducible refine Keep.alloc ?_ _) | (with_reducible refine Keep.drewN ?_ _) | (with_reducible refine Keep.drew ?_) | (with_reducible exact Keep.refl _) | refine Keep.trans ?_ (by with_reducible assumption) | exact Keep.refl _ | assumption))))⟩
theorem impl_PassNeedle (A : Option Addr) (l : List Cd) (c : Nat) (h : Int) (w : World) (hm : l.length ≤ 9223372036854775807) (hcp : l.length ≤ c) (hz : CSz l) (hR : Rd w A (cds l)) :
    Calls Tryd.prog 39 #[.slice A l.length c, .int .i64 h] w fun e w' => ∃ v, e = .returned (.tuple #[v, .int .i64 (pnN l h), .int .i64 (pnE l h)]) ∧ w'.ownsRow w.heap.size 108 3 v (pnL l h).length (cds (pnL l h)) ∧ Keep w w' := by
  obtain ⟨i0, hi0, hz0, hz1, hz2⟩ := info_parts cardE_info
  cases h1 : dkB l
  · have e0 : pnE l h = 1 := by simp only [pnE, h1, cond_false]
    have e1 : pnL l h = [] := by simp only [pnL, h1, cond_false]
    have e2 : pnN l h = 0 := by simp only [pnN, h1, cond_false]
    have hd := impl_isDeck A l c w hm hcp hz hR
    rw [h1] at hd
    rw [e0, e1, e2]
    clear e0 e1 e2
    go_enter Tryd.func39, Tryd.ntmps39
    (go_wp2_with fail); (go_at_call 72); (refine (hd).mono ?_); rintro e w1 ⟨rfl, hk1⟩
    go_wp2
    apply bodyPost_ret; rotate_left; rfl; exact ⟨_, rfl, World.ownsRow_nil _ _ _ _, (by ((repeat (first | (with_reducible assumption) | ((with_reducible refine Keep.setCell ?_ ?_ _); rotate_left; focus (first | omega | (simp; done) | (simp; omega))) | (with_reducible refine Keep.alloc ?_ _) | (with_reducible refine Keep.drewN ?_ _) | (with_reducible refine Keep.drew ?_) | (with_reducible exact Keep.refl _) | refine Keep.trans ?_ (by with_reducible assumption) | exact Keep.refl _ | assumption))))⟩; simp [results, Tryd.results39, go_sem]
  · cases h2 : holeB h
    · have e0 : pnE l h = 2 := by simp only [pnE, h1, h2, cond_false, cond_true]
      have e1 : pnL l h = [] := by simp only [pnL, h1, h2, cond_false, cond_true]
      have e2 : pnN l h = 0 := by simp only [pnN, h1, h2, cond_false, cond_true]
      have hd := impl_isDeck A l c w hm hcp hz hR
      rw [h1] at hd
      rw [e0, e1, e2]
      clear e0 e1 e2
      go_enter Tryd.func39, Tryd.ntmps39
      (go_wp2_with fail); (go_at_call 72); (refine (hd).mono ?_); rintro e w1 ⟨rfl, hk1⟩
      (go_wp2_with fail); (go_at_call 84); (refine (impl_isHole _ _).mono ?_); rintro e w2 ⟨rfl, hk2⟩
      rw [h2]
      go_wp2
      apply bodyPost_ret; rotate_left; rfl; exact ⟨_, rfl, World.ownsRow_nil _ _ _ _, (by ((repeat (first | (with_reducible assumption) | ((with_reducible refine Keep.setCell ?_ ?_ _); rotate_left; focus (first | omega | (simp; done) | (simp; omega))) | (with_reducible refine Keep.alloc ?_ _) | (with_reducible refine Keep.drewN ?_ _) | (with_reducible refine Keep.drew ?_) | (with_reducible exact Keep.refl _) | refine Keep.trans ?_ (by with_reducible assumption) | exact Keep.refl _ | assumption))))⟩; simp [results, Tryd.results39, go_sem]
    · have e0 : pnE l h = 0 := by simp only [pnE, h1, h2, cond_false, cond_true]
      have e1 : pnL l h = stL h l ++ drL h l := by simp only [pnL, h1, h2, cond_false, cond_true]
      have e2 : pnN l h = (drL h l).length := by simp only [pnN, h1, h2, cond_false, cond_true]
      have h80 := dkB_80 h1
      have hho := holeB_iff.1 h2
      have hlen := stL_len h l
      have hsp := fun W k => impl_split A l c h W (by omega) hho k
      have hd := impl_isDeck A l c w hm hcp hz hR
      rw [h1] at hd
      rw [e0, e1, e2]
      clear e0 e1 e2
      generalize stL h l = L1 at *
      generalize drL h l = L2 at *
      go_enter Tryd.func39, Tryd.ntmps39
      (go_wp2_with fail); (go_at_call 72); (refine (hd).mono ?_); rintro e w1 ⟨rfl, hk1⟩
      (go_wp2_with fail); (go_at_call 84); (refine (impl_isHole _ _).mono ?_); rintro e w2 ⟨rfl, hk2⟩
      rw [h2]
      have k2 : Keep w w2 := (by ((repeat (first | (with_reducible assumption) | ((with_reducible refine Keep.setCell ?_ ?_ _); rotate_left; focus (first | omega | (simp; done) | (simp; omega))) | (with_reducible refine Keep.alloc ?_ _) | (with_reducible refine Keep.drewN ?_ _) | (with_reducible refine Keep.drew ?_) | (with_reducible exact Keep.refl _) | refine Keep.trans ?_ (by with_reducible assumption) | exact Keep.refl _ | assumption))))
      clear hk1 hk2
      (go_wp2_with fail); (go_at_call 95); (refine (hsp _ (hR.keep k2)).mono ?_); rintro e w3 ⟨v1, v2, rfl, ⟨g1, c1, g2, c2, rfl, rfl, ho1, ho2, hne, hg1, hg2⟩, hk3⟩
      have k3 : Keep w w3 := (by ((repeat (first | (with_reducible assumption) | ((with_reducible refine Keep.setCell ?_ ?_ _); rotate_left; focus (first | omega | (simp; done) | (simp; omega))) | (with_reducible refine Keep.alloc ?_ _) | (with_reducible refine Keep.drewN ?_ _) | (with_reducible refine Keep.drew ?_) | (with_reducible exact Keep.refl _) | refine Keep.trans ?_ (by with_reducible assumption) | exact Keep.refl _ | assumption))))
      have HO1 := Aside.mk ho1
      have HO2 := Aside.mk ho2
      have zz2 := k2.size
      have zz3 := k3.size
      clear ho1 ho2 hk3 k2
      go_wp2_with (at_builtin; refine wpList_append_own _ rfl _ _ 26 rfl w2.heap.size 108 i0 (.agg #[.string ByteArray.empty, .int .u64 0, .int .u64 0]) 3 32 Tryd.underlying26 hi0 hz0 hz1 hz2 rfl (by decide) _ _ _ rfl HO1.out ⟨g2, 0, none⟩ L2.length c2 (cds L2) rfl ?c0 ?c1 (cds_one L2) ?c3 ?c4 ?c5 ?_)
      case c0 => rw [cds_len]; omega
      case c1 => exact HO2.out.cells rfl
      case c3 => unfold maxLen; omega
      case c4 => omega
      case c5 => have := HO1.out.lt g1 rfl; omega
      intro v' w4 hown hg _
      have hb1 := (HO1.out.lt g1 rfl).1
      have k4 : Keep w w4 := k3.grown hg (fun k hk => by simp [Value.ownBlock] at hk; omega)
      have HT : Aside (w4.ownsRow w.heap.size 108 3 v' (L1 ++ L2).length (cds (L1 ++ L2))) := Aside.mk (by rw [cds_app, List.length_append, hlen]; exact own_base hown (by omega))
      clear HO1 HO2 hown hg hne k3
      go_wp2
      apply bodyPost_ret; rotate_left; rfl; exact ⟨_, rfl, HT.out, (by ((repeat (first | (with_reducible assumption) | ((with_reducible refine Keep.setCell ?_ ?_ _); rotate_left; focus (first | omega | (simp; done) | (simp; omega))) | (with_reducible refine Keep.alloc ?_ _) | (with_reducible refine Keep.drewN ?_ _) | (with_reducible refine Keep.drew ?_) | (with_reducible exact Keep.refl _) | refine Keep.trans ?_ (by with_reducible assumption) | exact Keep.refl _ | assumption))))⟩; simp [results, Tryd.results39, go_sem]
theorem spec_PassNeedle (A : Option Addr) (l : List Cd) (c : Nat) (h : Int) (w : World) (hm : l.length ≤ 9223372036854775807) (hcp : l.length ≤ c) (hz : CSz l) (hR : Rd w A (cds l)) :
    Calls Tryd.prog 38 #[.slice A l.length c, .int .i64 h] w fun e w' => ∃ v, e = .returned (.tuple #[v, .int .i64 (pnN l h), .int .i64 (pnE l h)]) ∧ w'.ownsRow w.heap.size 108 3 v (pnL l h).length (cds (pnL l h)) ∧ Keep w w' := by
  obtain ⟨i0, hi0, hz0, hz1, hz2⟩ := info_parts cardE_info
  cases h1 : dkB l
  · have e0 : pnE l h = 1 := by simp only [pnE, h1, cond_false]
    have e1 : pnL l h = [] := by simp only [pnL, h1, cond_false]
    have e2 : pnN l h = 0 := by simp only [pnN, h1, cond_false]
    have hd := spec_l02Asked A l c h w hm hz hR
    rw [e0] at hd
    rw [e0, e1, e2]
    clear e0 e1 e2
    go_enter Tryd.func38, Tryd.ntmps38
    (go_wp2_with fail); (go_at_call 93); (refine (hd).mono ?_); rintro e w1 ⟨rfl, hk1⟩
    have hz9 := hk1.size
    go_wp2
    apply bodyPost_ret; rotate_left; rfl; exact ⟨_, rfl, own_emptyN w1 _ 108 3 hz9, (by ((repeat (first | (with_reducible assumption) | ((with_reducible refine Keep.setCell ?_ ?_ _); rotate_left; focus (first | omega | (simp; done) | (simp; omega))) | (with_reducible refine Keep.alloc ?_ _) | (with_reducible refine Keep.drewN ?_ _) | (with_reducible refine Keep.drew ?_) | (with_reducible exact Keep.refl _) | refine Keep.trans ?_ (by with_reducible assumption) | exact Keep.refl _ | assumption))))⟩; simp [results, Tryd.results38, go_sem]
  · cases h2 : holeB h
    · have e0 : pnE l h = 2 := by simp only [pnE, h1, h2, cond_false, cond_true]
      have e1 : pnL l h = [] := by simp only [pnL, h1, h2, cond_false, cond_true]
      have e2 : pnN l h = 0 := by simp only [pnN, h1, h2, cond_false, cond_true]
      have hd := spec_l02Asked A l c h w hm hz hR
      rw [e0] at hd
      rw [e0, e1, e2]
      clear e0 e1 e2
      go_enter Tryd.func38, Tryd.ntmps38
      (go_wp2_with fail); (go_at_call 93); (refine (hd).mono ?_); rintro e w1 ⟨rfl, hk1⟩
      have hz9 := hk1.size
      go_wp2
      apply bodyPost_ret; rotate_left; rfl; exact ⟨_, rfl, own_emptyN w1 _ 108 3 hz9, (by ((repeat (first | (with_reducible assumption) | ((with_reducible refine Keep.setCell ?_ ?_ _); rotate_left; focus (first | omega | (simp; done) | (simp; omega))) | (with_reducible refine Keep.alloc ?_ _) | (with_reducible refine Keep.drewN ?_ _) | (with_reducible refine Keep.drew ?_) | (with_reducible exact Keep.refl _) | refine Keep.trans ?_ (by with_reducible assumption) | exact Keep.refl _ | assumption))))⟩; simp [results, Tryd.results38, go_sem]
    · have e0 : pnE l h = 0 := by simp only [pnE, h1, h2, cond_false, cond_true]
      have e1 : pnL l h = stL h l ++ drL h l := by simp only [pnL, h1, h2, cond_false, cond_true]
      have e2 : pnN l h = (drL h l).length := by simp only [pnN, h1, h2, cond_false, cond_true]
      have h80 := dkB_80 h1
      have hho := holeB_iff.1 h2
      have hlen := stL_len h l
      have hsp := fun W k => spec_l02Split A l c h W (by omega) hho k
      have hd := spec_l02Asked A l c h w hm hz hR
      rw [e0] at hd
      rw [e0, e1, e2]
      clear e0 e1 e2
      generalize stL h l = L1 at *
      generalize drL h l = L2 at *
      go_enter Tryd.func38, Tryd.ntmps38
      (go_wp2_with fail); (go_at_call 93); (refine (hd).mono ?_); rintro e w2 ⟨rfl, hk1⟩
      have k2 : Keep w w2 := (by ((repeat (first | (with_reducible assumption) | ((with_reducible refine Keep.setCell ?_ ?_ _); rotate_left; focus (first | omega | (simp; done) | (simp; omega))) | (with_reducible refine Keep.alloc ?_ _) | (with_reducible refine Keep.drewN ?_ _) | (with_reducible refine Keep.drew ?_) | (with_reducible exact Keep.refl _) | refine Keep.trans ?_ (by with_reducible assumption) | exact Keep.refl _ | assumption))))
      clear hk1
      (go_wp2_with fail); (go_at_call 94); (refine (hsp _ (hR.keep k2)).mono ?_); rintro e w3 ⟨v1, v2, rfl, ⟨g1, c1, g2, c2, rfl, rfl, ho1, ho2, hne, hg1, hg2⟩, hk3⟩
      have k3 : Keep w w3 := (by ((repeat (first | (with_reducible assumption) | ((with_reducible refine Keep.setCell ?_ ?_ _); rotate_left; focus (first | omega | (simp; done) | (simp; omega))) | (with_reducible refine Keep.alloc ?_ _) | (with_reducible refine Keep.drewN ?_ _) | (with_reducible refine Keep.drew ?_) | (with_reducible exact Keep.refl _) | refine Keep.trans ?_ (by with_reducible assumption) | exact Keep.refl _ | assumption))))
      have HO1 := Aside.mk ho1
      have HO2 := Aside.mk ho2
      have zz2 := k2.size
      have zz3 := k3.size
      clear ho1 ho2 hk3 k2
      go_wp2_with (at_builtin; refine wpList_append_own _ rfl _ _ 26 rfl w2.heap.size 108 i0 (.agg #[.string ByteArray.empty, .int .u64 0, .int .u64 0]) 3 32 Tryd.underlying26 hi0 hz0 hz1 hz2 rfl (by decide) _ _ _ rfl HO1.out ⟨g2, 0, none⟩ L2.length c2 (cds L2) rfl ?c0 ?c1 (cds_one L2) ?c3 ?c4 ?c5 ?_)
      case c0 => rw [cds_len]; omega
      case c1 => exact HO2.out.cells rfl
      case c3 => unfold maxLen; omega
      case c4 => omega
      case c5 => have := HO1.out.lt g1 rfl; omega
      intro v' w4 hown hg _
      have hb1 := (HO1.out.lt g1 rfl).1
      have k4 : Keep w w4 := k3.grown hg (fun k hk => by simp [Value.ownBlock] at hk; omega)
      have HT : Aside (w4.ownsRow w.heap.size 108 3 v' (L1 ++ L2).length (cds (L1 ++ L2))) := Aside.mk (by rw [cds_app, List.length_append, hlen]; exact own_base hown (by omega))
      clear HO1 HO2 hown hg hne k3
      go_wp2
      apply bodyPost_ret; rotate_left; rfl; exact ⟨_, rfl, HT.out, (by ((repeat (first | (with_reducible assumption) | ((with_reducible refine Keep.setCell ?_ ?_ _); rotate_left; focus (first | omega | (simp; done) | (simp; omega))) | (with_reducible refine Keep.alloc ?_ _) | (with_reducible refine Keep.drewN ?_ _) | (with_reducible refine Keep.drew ?_) | (with_reducible exact Keep.refl _) | refine Keep.trans ?_ (by with_reducible assumption) | exact Keep.refl _ | assumption))))⟩; simp [results, Tryd.results38, go_sem]
end Go.Proofs.YtpmilcfppcmodaaDoor

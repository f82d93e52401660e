/- The field of a hole: the walks. -/
import Derived.Test.YtpmilcfppcmodaaDoorSC2
set_option linter.unusedVariables false
set_option linter.unusedSimpArgs false
namespace Go.Proofs.YtpmilcfppcmodaaDoor
open Go.RowKit
set_option maxHeartbeats 1000000
set_option maxRecDepth 20000
/-- The first place at which something holds, or -1. -/
def fpN {α : Type} (l : List α) (q : α → Bool) : Int := match l.findIdx? q with
  | some i => i
  | none => -1
theorem fpN_no {α : Type} {l : List α} {q : α → Bool} (h : l.any q = false) : fpN l q = -1 := by
  unfold fpN
  rw [List.findIdx?_eq_none_iff.2 (by simpa using h)]
theorem fpN_at {α : Type} {l : List α} {q : α → Bool} {i : Nat} (h : i < l.length) (hb : q l[i] = true) (hn : (l.take i).any q = false) : fpN l q = i := by
  unfold fpN
  have : l.findIdx? q = some i := by
    rw [List.findIdx?_eq_some_iff_getElem]
    refine ⟨h, hb, fun j hj => ?_⟩
    rw [List.any_eq_false] at hn
    have := hn l[j] (by rw [List.mem_take_iff_getElem]; exact ⟨j, by omega, rfl⟩)
    simpa using this
  rw [this]
/-- Does this field have the hole? -/
def phB (h : Int) (f : Fd) : Bool := hasB (paLo f.k f.st f.sz) (paHi f.k f.st f.sz) h
def foN (l : List Fd) (h : Int) : Int := cond (schB l) (cond (holeB h) (if fpN l (phB h) < 0 then 0 else fpN l (phB h)) 0) 0
def foE (l : List Fd) (h : Int) : Int := cond (schB l) (cond (holeB h) (if fpN l (phB h) < 0 then 6 else 0) 2) 1
theorem sch_field {l : List Fd} {i : Nat} (h : schB l = true) (hi : i < l.length) : fieldB l[i].s l[i].k l[i].st l[i].sz = true := by
  unfold schB at h
  simp only [Bool.and_eq_true, List.all_eq_true] at h
  have := h.2 i (List.mem_range.2 hi)
  rw [fineF_at hi] at this
  simp only [Bool.and_eq_true] at this
  exact this.1
theorem impl_FieldOfHole (A : Option Addr) (l : List Fd) (c : Nat) (h : Int) (w : World) (hm : l.length ≤ 9223372036854775807) (hcp : l.length ≤ c) (hz : FdW l) (hR : Rd w A (fds l)) :
    Calls Tryd.prog 45 #[.slice A l.length c, .int .i64 h] w fun e w' => e = .returned (.tuple #[.int .i64 (foN l h), .int .i64 (foE l h)]) ∧ Keep w w' := by
  have hd := impl_isScheme A l c w hm hcp hz hR
  cases h1 : schB l
  · rw [h1] at hd
    have e0 : foN l h = 0 := by simp only [foN, h1, cond_false]
    have e1 : foE l h = 1 := by simp only [foE, h1, cond_false]
    rw [e0, e1]
    go_enter Tryd.func45, Tryd.ntmps45
    (go_wp2_with fail); (go_at_call 91); (refine (hd).mono ?_); rintro e w1 ⟨rfl, hk1⟩
    go_wp2
    go_ret2; exact ⟨rfl, (by ((repeat (first | (with_reducible assumption) | ((with_reducible refine Keep.setCell ?_ ?_ _); rotate_left; focus (first | omega | (simp; done) | (simp; omega))) | (with_reducible refine Keep.alloc ?_ _) | (with_reducible refine Keep.drewN ?_ _) | (with_reducible refine Keep.drew ?_) | (with_reducible exact Keep.refl _) | refine Keep.trans ?_ (by with_reducible assumption) | exact Keep.refl _ | assumption))))⟩
  · rw [h1] at hd
    cases h2 : holeB h
    · have e0 : foN l h = 0 := by simp only [foN, h1, h2, cond_false, cond_true]
      have e1 : foE l h = 2 := by simp only [foE, h1, h2, cond_false, cond_true]
      rw [e0, e1]
      go_enter Tryd.func45, Tryd.ntmps45
      (go_wp2_with fail); (go_at_call 91); (refine (hd).mono ?_); rintro e w1 ⟨rfl, hk1⟩
      (go_wp2_with fail); (go_at_call 84); (refine (impl_isHole _ _).mono ?_); rintro e w2 ⟨rfl, hk2⟩
      rw [h2]
      go_wp2
      go_ret2; exact ⟨rfl, (by ((repeat (first | (with_reducible assumption) | ((with_reducible refine Keep.setCell ?_ ?_ _); rotate_left; focus (first | omega | (simp; done) | (simp; omega))) | (with_reducible refine Keep.alloc ?_ _) | (with_reducible refine Keep.drewN ?_ _) | (with_reducible refine Keep.drew ?_) | (with_reducible exact Keep.refl _) | refine Keep.trans ?_ (by with_reducible assumption) | exact Keep.refl _ | assumption))))⟩
    · have hho := holeB_iff.1 h2
      have e0 : foN l h = (if fpN l (phB h) < 0 then 0 else fpN l (phB h)) := by simp only [foN, h1, h2, cond_true]
      have e1 : foE l h = (if fpN l (phB h) < 0 then 6 else 0) := by simp only [foE, h1, h2, cond_true]
      obtain ⟨rn, hrn⟩ : ∃ x, foN l h = x := ⟨_, rfl⟩
      obtain ⟨re, hre⟩ : ∃ x, foE l h = x := ⟨_, rfl⟩
      rw [hrn, hre]
      have HN := Aside.mk (hrn.symm.trans e0)
      have HE := Aside.mk (hre.symm.trans e1)
      clear hrn hre e0 e1
      go_enter Tryd.func45, Tryd.ntmps45
      (go_wp2_with fail); (go_at_call 91); (refine (hd).mono ?_); rintro e w1 ⟨rfl, hk1⟩
      (go_wp2_with fail); (go_at_call 84); (refine (impl_isHole _ _).mono ?_); rintro e w2 ⟨rfl, hk2⟩
      rw [h2]
      have k2 : Keep w w2 := (by ((repeat (first | (with_reducible assumption) | ((with_reducible refine Keep.setCell ?_ ?_ _); rotate_left; focus (first | omega | (simp; done) | (simp; omega))) | (with_reducible refine Keep.alloc ?_ _) | (with_reducible refine Keep.drewN ?_ _) | (with_reducible refine Keep.drew ?_) | (with_reducible exact Keep.refl _) | refine Keep.trans ?_ (by with_reducible assumption) | exact Keep.refl _ | assumption))))
      clear hk1 hk2 hd
      go_wp2_with fail
      go_loopg [16] l.length (fun k s16 wr => ∃ i : Nat, i + k = l.length ∧ s16 = .int .i64 i ∧ (l.take i).any (phB h) = false ∧ Keep w wr)
      case atStart => exact ⟨0, by omega, rfl, rfl, (by ((repeat (first | (with_reducible assumption) | ((with_reducible refine Keep.setCell ?_ ?_ _); rotate_left; focus (first | omega | (simp; done) | (simp; omega))) | (with_reducible refine Keep.alloc ?_ _) | (with_reducible refine Keep.drewN ?_ _) | (with_reducible refine Keep.drew ?_) | (with_reducible exact Keep.refl _) | refine Keep.trans ?_ (by with_reducible assumption) | exact Keep.refl _ | assumption))))⟩
      case round =>
        obtain ⟨i, hi, rfl, hal, hk⟩ := hrel
        have HL := Aside.mk hal
        clear hal
        by_cases hlt : i < l.length
        · obtain ⟨bb, o, rfl, hc⟩ := (hR.keep hk).at (k := i) (by rw [fds_len]; omega)
          obtain ⟨r1, r2, r3, r4⟩ := fds_at l i hlt
          have p1 := hc _ _ r1
          have p2 := hc _ _ r2
          have p3 := hc _ _ r3
          have p4 := hc _ _ r4
          rw [← Nat.add_assoc] at p2 p3 p4
          have hzs := hz l[i] (List.getElem_mem hlt)
          have hfv := sch_field h1 hlt
          have hT := any_takeD (q := phB h) hlt
          rw [HL.out, Bool.false_or] at hT
          have HT := Aside.mk hT
          have HQ := Aside.mk (fun e => fpN_at (q := phB h) hlt e HL.out)
          clear hc hT r1 r2 r3 r4
          generalize l[i] = x at *
          obtain ⟨s, kd, st, sz⟩ := x
          simp only at p1 p2 p3 p4 hzs hfv HT HQ
          obtain ⟨u1, u2, u3, u4, u5⟩ := fieldB_use hfv
          have hPT := Aside.mk (fun W => impl_part s kd st sz W hzs.2.2.2 hzs.2.2.1 u2 u4 u3)
          rw [show phB h ⟨s, kd, st, sz⟩ = hasB (paLo kd st sz) (paHi kd st sz) h from rfl] at HT HQ
          generalize paLo kd st sz = pl at *
          generalize paHi kd st sz = ph at *
          clear u1 u2 u3 u4 u5 hfv
          (go_wp2_with fail); (go_at_call 100); (refine (hPT.out _).mono ?_); rintro e w3 ⟨rfl, hk3⟩
          have kk : Keep wr w3 := (by ((repeat (first | (with_reducible assumption) | ((with_reducible refine Keep.setCell ?_ ?_ _); rotate_left; focus (first | omega | (simp; done) | (simp; omega))) | (with_reducible refine Keep.alloc ?_ _) | (with_reducible refine Keep.drewN ?_ _) | (with_reducible refine Keep.drew ?_) | (with_reducible exact Keep.refl _) | refine Keep.trans ?_ (by with_reducible assumption) | exact Keep.refl _ | assumption))))
          have k3 := hk.trans kk
          clear hk3 kk p1 p2 p3 p4
          (go_wp2_with fail); (go_at_call 101); (refine (impl_has _ _ _ hho.1 hho.2 _).mono ?_); rintro e w4 ⟨rfl, hk4⟩
          have k4 := k3.trans hk4
          clear hk4 k3
          cases hb : hasB pl ph h
          · rw [hb] at HT
            go_wp2
            go_roundg (l.length - (i + 1))
            case measure => omega
            case rel => exact ⟨i + 1, by omega, by go_num, HT.out, (by ((repeat (first | (with_reducible assumption) | ((with_reducible refine Keep.setCell ?_ ?_ _); rotate_left; focus (first | omega | (simp; done) | (simp; omega))) | (with_reducible refine Keep.alloc ?_ _) | (with_reducible refine Keep.drewN ?_ _) | (with_reducible refine Keep.drew ?_) | (with_reducible exact Keep.refl _) | refine Keep.trans ?_ (by with_reducible assumption) | exact Keep.refl _ | assumption))))⟩
          · have hA := HQ.out hb
            have hA1 : rn = i := by rw [HN.out, if_neg (by omega), hA]
            have hA2 : re = 0 := by rw [HE.out, if_neg (by omega)]
            subst hA1 hA2
            clear HT HQ hA
            go_wp2
            go_ret2; exact ⟨rfl, (by ((repeat (first | (with_reducible assumption) | ((with_reducible refine Keep.setCell ?_ ?_ _); rotate_left; focus (first | omega | (simp; done) | (simp; omega))) | (with_reducible refine Keep.alloc ?_ _) | (with_reducible refine Keep.drewN ?_ _) | (with_reducible refine Keep.drew ?_) | (with_reducible exact Keep.refl _) | refine Keep.trans ?_ (by with_reducible assumption) | exact Keep.refl _ | assumption))))⟩
        · have e2 : i = l.length := by omega
          subst e2
          have hal := HL.out
          rw [List.take_length] at hal
          have hA := fpN_no hal
          have hA1 : rn = 0 := by rw [HN.out, if_pos (by omega)]
          have hA2 : re = 6 := by rw [HE.out, if_pos (by omega)]
          subst hA1 hA2
          clear hal hA
          go_wp2
          go_ret2; exact ⟨rfl, (by ((repeat (first | (with_reducible assumption) | ((with_reducible refine Keep.setCell ?_ ?_ _); rotate_left; focus (first | omega | (simp; done) | (simp; omega))) | (with_reducible refine Keep.alloc ?_ _) | (with_reducible refine Keep.drewN ?_ _) | (with_reducible refine Keep.drew ?_) | (with_reducible exact Keep.refl _) | refine Keep.trans ?_ (by with_reducible assumption) | exact Keep.refl _ | assumption))))⟩
theorem spec_FieldOfHole (A : Option Addr) (l : List Fd) (c : Nat) (h : Int) (w : World) (hm : l.length ≤ 9223372036854775807) (hz : FdW l) (hR : Rd w A (fds l)) :
    Calls Tryd.prog 44 #[.slice A l.length c, .int .i64 h] w fun e w' => e = .returned (.tuple #[.int .i64 (foN l h), .int .i64 (foE l h)]) ∧ Keep w w' := by
  have hd := spec_l01Scheme A l c w hm hz hR
  cases h1 : schB l
  · rw [h1] at hd
    have e0 : foN l h = 0 := by simp only [foN, h1, cond_false]
    have e1 : foE l h = 1 := by simp only [foE, h1, cond_false]
    rw [e0, e1]
    go_enter Tryd.func44, Tryd.ntmps44
    (go_wp2_with fail); (go_at_call 90); (refine (hd).mono ?_); rintro e w1 ⟨rfl, hk1⟩
    go_wp2
    go_ret2; exact ⟨rfl, (by ((repeat (first | (with_reducible assumption) | ((with_reducible refine Keep.setCell ?_ ?_ _); rotate_left; focus (first | omega | (simp; done) | (simp; omega))) | (with_reducible refine Keep.alloc ?_ _) | (with_reducible refine Keep.drewN ?_ _) | (with_reducible refine Keep.drew ?_) | (with_reducible exact Keep.refl _) | refine Keep.trans ?_ (by with_reducible assumption) | exact Keep.refl _ | assumption))))⟩
  · rw [h1] at hd
    cases h2 : holeB h
    · have e0 : foN l h = 0 := by simp only [foN, h1, h2, cond_false, cond_true]
      have e1 : foE l h = 2 := by simp only [foE, h1, h2, cond_false, cond_true]
      rw [e0, e1]
      go_enter Tryd.func44, Tryd.ntmps44
      (go_wp2_with fail); (go_at_call 90); (refine (hd).mono ?_); rintro e w1 ⟨rfl, hk1⟩
      (go_wp2_with fail); (go_at_call 97); (refine (spec_l01Hole _ _).mono ?_); rintro e w2 ⟨rfl, hk2⟩
      rw [h2]
      go_wp2
      go_ret2; exact ⟨rfl, (by ((repeat (first | (with_reducible assumption) | ((with_reducible refine Keep.setCell ?_ ?_ _); rotate_left; focus (first | omega | (simp; done) | (simp; omega))) | (with_reducible refine Keep.alloc ?_ _) | (with_reducible refine Keep.drewN ?_ _) | (with_reducible refine Keep.drew ?_) | (with_reducible exact Keep.refl _) | refine Keep.trans ?_ (by with_reducible assumption) | exact Keep.refl _ | assumption))))⟩
    · have hho := holeB_iff.1 h2
      have e0 : foN l h = (if fpN l (phB h) < 0 then 0 else fpN l (phB h)) := by simp only [foN, h1, h2, cond_true]
      have e1 : foE l h = (if fpN l (phB h) < 0 then 6 else 0) := by simp only [foE, h1, h2, cond_true]
      obtain ⟨rn, hrn⟩ : ∃ x, foN l h = x := ⟨_, rfl⟩
      obtain ⟨re, hre⟩ : ∃ x, foE l h = x := ⟨_, rfl⟩
      rw [hrn, hre]
      have HN := Aside.mk (hrn.symm.trans e0)
      have HE := Aside.mk (hre.symm.trans e1)
      clear hrn hre e0 e1
      go_enter Tryd.func44, Tryd.ntmps44
      (go_wp2_with fail); (go_at_call 90); (refine (hd).mono ?_); rintro e w1 ⟨rfl, hk1⟩
      (go_wp2_with fail); (go_at_call 97); (refine (spec_l01Hole _ _).mono ?_); rintro e w2 ⟨rfl, hk2⟩
      rw [h2]
      have k2 : Keep w w2 := (by ((repeat (first | (with_reducible assumption) | ((with_reducible refine Keep.setCell ?_ ?_ _); rotate_left; focus (first | omega | (simp; done) | (simp; omega))) | (with_reducible refine Keep.alloc ?_ _) | (with_reducible refine Keep.drewN ?_ _) | (with_reducible refine Keep.drew ?_) | (with_reducible exact Keep.refl _) | refine Keep.trans ?_ (by with_reducible assumption) | exact Keep.refl _ | assumption))))
      clear hk1 hk2 hd
      go_wp2_with fail
      go_loopg [6] l.length (fun k s6 wr => ∃ i : Nat, i + k = l.length ∧ s6 = .int .i64 i ∧ (l.take i).any (phB h) = false ∧ Keep w wr)
      case atStart => exact ⟨0, by omega, rfl, rfl, (by ((repeat (first | (with_reducible assumption) | ((with_reducible refine Keep.setCell ?_ ?_ _); rotate_left; focus (first | omega | (simp; done) | (simp; omega))) | (with_reducible refine Keep.alloc ?_ _) | (with_reducible refine Keep.drewN ?_ _) | (with_reducible refine Keep.drew ?_) | (with_reducible exact Keep.refl _) | refine Keep.trans ?_ (by with_reducible assumption) | exact Keep.refl _ | assumption))))⟩
      case round =>
        obtain ⟨i, hi, rfl, hal, hk⟩ := hrel
        have HL := Aside.mk hal
        clear hal
        by_cases hlt : i < l.length
        · obtain ⟨bb, o, rfl, hc⟩ := (hR.keep hk).at (k := i) (by rw [fds_len]; omega)
          obtain ⟨r1, r2, r3, r4⟩ := fds_at l i hlt
          have p1 := hc _ _ r1
          have p2 := hc _ _ r2
          have p3 := hc _ _ r3
          have p4 := hc _ _ r4
          rw [← Nat.add_assoc] at p2 p3 p4
          have hzs := hz l[i] (List.getElem_mem hlt)
          have hfv := sch_field h1 hlt
          have hT := any_takeD (q := phB h) hlt
          rw [HL.out, Bool.false_or] at hT
          have HT := Aside.mk hT
          have HQ := Aside.mk (fun e => fpN_at (q := phB h) hlt e HL.out)
          clear hc hT r1 r2 r3 r4
          generalize l[i] = x at *
          obtain ⟨s, kd, st, sz⟩ := x
          simp only at p1 p2 p3 p4 hzs hfv HT HQ
          obtain ⟨u1, u2, u3, u4, u5⟩ := fieldB_use hfv
          have hPT := Aside.mk (fun W c0 c1 c2 c3 => spec_l01Part s kd st sz bb (o + i * 4) W hzs.2.2.2 hzs.2.2.1 u2 u4 u3 c0 c1 c2 c3)
          rw [show phB h ⟨s, kd, st, sz⟩ = hasB (paLo kd st sz) (paHi kd st sz) h from rfl] at HT HQ
          generalize paLo kd st sz = pl at *
          generalize paHi kd st sz = ph at *
          clear u1 u2 u3 u4 u5 hfv
          (go_wp2_with fail); (go_at_call 99); (refine (hPT.out _ p1 p2 p3 p4).mono ?_); rintro e w3 ⟨rfl, hk3⟩
          have k3 := hk.trans hk3
          clear hk3 p1 p2 p3 p4
          (go_wp2_with fail); (go_at_call 98); (refine (spec_l01Has _ _ _ hho.1 hho.2 _).mono ?_); rintro e w4 ⟨rfl, hk4⟩
          have k4 := k3.trans hk4
          clear hk4 k3
          cases hb : hasB pl ph h
          · rw [hb] at HT
            go_wp2
            go_roundg (l.length - (i + 1))
            case measure => omega
            case rel => exact ⟨i + 1, by omega, by go_num, HT.out, (by ((repeat (first | (with_reducible assumption) | ((with_reducible refine Keep.setCell ?_ ?_ _); rotate_left; focus (first | omega | (simp; done) | (simp; omega))) | (with_reducible refine Keep.alloc ?_ _) | (with_reducible refine Keep.drewN ?_ _) | (with_reducible refine Keep.drew ?_) | (with_reducible exact Keep.refl _) | refine Keep.trans ?_ (by with_reducible assumption) | exact Keep.refl _ | assumption))))⟩
          · have hA := HQ.out hb
            have hA1 : rn = i := by rw [HN.out, if_neg (by omega), hA]
            have hA2 : re = 0 := by rw [HE.out, if_neg (by omega)]
            subst hA1 hA2
            clear HT HQ hA
            go_wp2
            go_ret2; exact ⟨rfl, (by ((repeat (first | (with_reducible assumption) | ((with_reducible refine Keep.setCell ?_ ?_ _); rotate_left; focus (first | omega | (simp; done) | (simp; omega))) | (with_reducible refine Keep.alloc ?_ _) | (with_reducible refine Keep.drewN ?_ _) | (with_reducible refine Keep.drew ?_) | (with_reducible exact Keep.refl _) | refine Keep.trans ?_ (by with_reducible assumption) | exact Keep.refl _ | assumption))))⟩
        · have e2 : i = l.length := by omega
          subst e2
          have hal := HL.out
          rw [List.take_length] at hal
          have hA := fpN_no hal
          have hA1 : rn = 0 := by rw [HN.out, if_pos (by omega)]
          have hA2 : re = 6 := by rw [HE.out, if_pos (by omega)]
          subst hA1 hA2
          clear hal hA
          go_wp2
          go_ret2; exact ⟨rfl, (by ((repeat (first | (with_reducible assumption) | ((with_reducible refine Keep.setCell ?_ ?_ _); rotate_left; focus (first | omega | (simp; done) | (simp; omega))) | (with_reducible refine Keep.alloc ?_ _) | (with_reducible refine Keep.drewN ?_ _) | (with_reducible refine Keep.drew ?_) | (with_reducible exact Keep.refl _) | refine Keep.trans ?_ (by with_reducible assumption) | exact Keep.refl _ | assumption))))⟩
end Go.Proofs.YtpmilcfppcmodaaDoor

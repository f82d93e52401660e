/- Cards found by name: the walks; the laws of valid decks and of cards found. -/
import Derived.Test.YtpmilcfppcmodaaDoorDK2
import Derived.Test.YtpmilcfppcmodaaDoorOW
set_option linter.unusedVariables false
set_option linter.unusedSimpArgs false
namespace Go.Proofs.YtpmilcfppcmodaaDoor
open Go.RowKit
set_option maxHeartbeats 1000000
set_option maxRecDepth 20000
theorem impl_ValidDeck (A : Option Addr) (l : List Cd) (c : Nat) (w : World) (hm : l.length ≤ 9223372036854775807) (hcp : l.length ≤ c) (hz : CSz l) (hR : Rd w A (cds l)) :
    Calls Tryd.prog 29 #[.slice A l.length c] w fun e w' => e = .returned (.bool (dkB l)) ∧ Keep w w' := by
  have h := impl_isDeck A l c w hm hcp hz hR
  generalize dkB l = r at *
  go_enter Tryd.func29, Tryd.ntmps29
  (go_wp2_with fail); (go_at_call 72); (refine (h).mono ?_); rintro e w1 ⟨rfl, hk1⟩
  go_wp2
  go_ret; exact ⟨rfl, (by ((repeat (first | (with_reducible assumption) | ((with_reducible refine Keep.setCell ?_ ?_ _); rotate_left; focus (first | omega | (simp; done) | (simp; omega))) | (with_reducible refine Keep.alloc ?_ _) | (with_reducible refine Keep.drewN ?_ _) | (with_reducible refine Keep.drew ?_) | (with_reducible exact Keep.refl _) | refine Keep.trans ?_ (by with_reducible assumption) | exact Keep.refl _ | assumption))))⟩
theorem spec_ValidDeck (A : Option Addr) (l : List Cd) (c : Nat) (w : World) (hm : l.length ≤ 9223372036854775807) (hz : CSz l) (hR : Rd w A (cds l)) :
    Calls Tryd.prog 27 #[.slice A l.length c] w fun e w' => e = .returned (.bool (dkB l)) ∧ Keep w w' := by
  have h := spec_l02Ok A l c w hm hz hR
  generalize dkB l = r at *
  go_enter Tryd.func27, Tryd.ntmps27
  (go_wp2_with fail); (go_at_call 67); (refine (h).mono ?_); rintro e w1 ⟨rfl, hk1⟩
  go_wp2
  go_ret; exact ⟨rfl, (by ((repeat (first | (with_reducible assumption) | ((with_reducible refine Keep.setCell ?_ ?_ _); rotate_left; focus (first | omega | (simp; done) | (simp; omega))) | (with_reducible refine Keep.alloc ?_ _) | (with_reducible refine Keep.drewN ?_ _) | (with_reducible refine Keep.drew ?_) | (with_reducible exact Keep.refl _) | refine Keep.trans ?_ (by with_reducible assumption) | exact Keep.refl _ | assumption))))⟩
/-- The place of the card with a name, or -1. -/
def fiN (l : List Cd) (s : ByteArray) : Int := match l.findIdx? (fun x => decide (x.s = s)) with
  | some i => i
  | none => -1
theorem fiN_no {l : List Cd} {s : ByteArray} (h : l.any (fun x => decide (x.s = s)) = false) : fiN l s = -1 := by
  unfold fiN
  rw [List.findIdx?_eq_none_iff.2 (by simpa using h)]
theorem fiN_at {l : List Cd} {s : ByteArray} {i : Nat} (h : i < l.length) (hb : l[i].s = s) (hn : (l.take i).any (fun x => decide (x.s = s)) = false) : fiN l s = i := by
  unfold fiN
  have : l.findIdx? (fun x => decide (x.s = s)) = some i := by
    rw [List.findIdx?_eq_some_iff_getElem]
    refine ⟨h, by simpa using hb, fun j hj => ?_⟩
    rw [List.any_eq_false] at hn
    have := hn l[j] (by rw [List.mem_take_iff_getElem]; exact ⟨j, by omega, rfl⟩)
    simpa using this
  rw [this]
theorem fiN_ge (l : List Cd) (s : ByteArray) : fiN l s = -1 ∨ (0 ≤ fiN l s ∧ fiN l s < l.length) := by
  unfold fiN
  cases h : l.findIdx? (fun x => decide (x.s = s)) with
  | none => exact .inl rfl
  | some i =>
    have := (List.findIdx?_eq_some_iff_getElem.1 h).1
    right; constructor <;> simp <;> omega
def fcN (l : List Cd) (s : ByteArray) : Int := cond (dkB l) (if fiN l s < 0 then 0 else fiN l s) 0
def fcE (l : List Cd) (s : ByteArray) : Int := cond (dkB l) (if fiN l s < 0 then 6 else 0) 1
theorem spec_l02Find (A : Option Addr) (l : List Cd) (c : Nat) (s : ByteArray) (w : World) (hm : l.length ≤ 9223372036854775807) (hR : Rd w A (cds l)) :
    Calls Tryd.prog 89 #[.slice A l.length c, .string s] w fun e w' => e = .returned (.int .i64 (fiN l s)) ∧ Keep w w' := by
  go_enter Tryd.func89, Tryd.ntmps89
  go_wp2_with fail
  go_loopg [5] l.length (fun k s5 wr => ∃ i : Nat, i + k = l.length ∧ s5 = .int .i64 i ∧ (l.take i).any (fun x => decide (x.s = s)) = false ∧ Keep w wr)
  case atStart => exact ⟨0, by omega, rfl, rfl, (by ((repeat (first | (with_reducible assumption) | ((with_reducible refine Keep.setCell ?_ ?_ _); rotate_left; focus (first | omega | (simp; done) | (simp; omega))) | (with_reducible refine Keep.alloc ?_ _) | (with_reducible refine Keep.drewN ?_ _) | (with_reducible refine Keep.drew ?_) | (with_reducible exact Keep.refl _) | refine Keep.trans ?_ (by with_reducible assumption) | exact Keep.refl _ | assumption))))⟩
  case round =>
    obtain ⟨i, hi, rfl, hal, hk⟩ := hrel
    have HL := Aside.mk hal
    clear hal
    by_cases hlt : i < l.length
    · obtain ⟨bb, o, rfl, hc⟩ := (hR.keep hk).at (k := i) (by rw [cds_len]; omega)
      have p1 := hc _ _ (cds_at l i hlt).1
      have hT := any_takeD (q := fun x => decide (x.s = s)) hlt
      rw [HL.out, Bool.false_or] at hT
      have HT := Aside.mk hT
      have HQ := Aside.mk (fun h => fiN_at hlt h HL.out)
      clear hc hT
      generalize l[i].s = y at *
      by_cases hy : y = s
      · subst hy
        have HA := Aside.mk (HQ.out rfl)
        clear HT HQ
        go_wp2
        go_ret; exact ⟨by rw [HA.out]; rfl, (by ((repeat (first | (with_reducible assumption) | ((with_reducible refine Keep.setCell ?_ ?_ _); rotate_left; focus (first | omega | (simp; done) | (simp; omega))) | (with_reducible refine Keep.alloc ?_ _) | (with_reducible refine Keep.drewN ?_ _) | (with_reducible refine Keep.drew ?_) | (with_reducible exact Keep.refl _) | refine Keep.trans ?_ (by with_reducible assumption) | exact Keep.refl _ | assumption))))⟩
      · have hy' : ¬ y.toList = s.toList := fun k => hy (toList_eq.1 k)
        have hy2 : (y.toList == s.toList) = false := by simpa using hy'
        have HT2 := Aside.mk (HT.out.trans (decide_eq_false hy))
        clear HT HQ
        go_wp2
        go_roundg (l.length - (i + 1))
        case measure => omega
        case rel => exact ⟨i + 1, by omega, by go_num, HT2.out, (by ((repeat (first | (with_reducible assumption) | ((with_reducible refine Keep.setCell ?_ ?_ _); rotate_left; focus (first | omega | (simp; done) | (simp; omega))) | (with_reducible refine Keep.alloc ?_ _) | (with_reducible refine Keep.drewN ?_ _) | (with_reducible refine Keep.drew ?_) | (with_reducible exact Keep.refl _) | refine Keep.trans ?_ (by with_reducible assumption) | exact Keep.refl _ | assumption))))⟩
    · have e2 : i = l.length := by omega
      subst e2
      have hal := HL.out
      rw [List.take_length] at hal
      have HA := Aside.mk (fiN_no hal)
      clear hal
      go_wp2
      go_ret; exact ⟨by rw [HA.out]; rfl, (by ((repeat (first | (with_reducible assumption) | ((with_reducible refine Keep.setCell ?_ ?_ _); rotate_left; focus (first | omega | (simp; done) | (simp; omega))) | (with_reducible refine Keep.alloc ?_ _) | (with_reducible refine Keep.drewN ?_ _) | (with_reducible refine Keep.drew ?_) | (with_reducible exact Keep.refl _) | refine Keep.trans ?_ (by with_reducible assumption) | exact Keep.refl _ | assumption))))⟩
theorem spec_FindCard (A : Option Addr) (l : List Cd) (c : Nat) (s : ByteArray) (w : World) (hm : l.length ≤ 9223372036854775807) (hz : CSz l) (hR : Rd w A (cds l)) :
    Calls Tryd.prog 31 #[.slice A l.length c, .string s] w fun e w' => e = .returned (.tuple #[.int .i64 (fcN l s), .int .i64 (fcE l s)]) ∧ Keep w w' := by
  have h := spec_l02Ok A l c w hm hz hR
  have hf := fun W h => spec_l02Find A l c s W hm h
  have hge := fiN_ge l s
  cases h1 : dkB l <;> simp only [fcN, fcE, h1, cond_true, cond_false]
  · rw [h1] at h
    go_enter Tryd.func31, Tryd.ntmps31
    (go_wp2_with fail); (go_at_call 67); (refine (h).mono ?_); rintro e w1 ⟨rfl, hk1⟩
    go_wp2
    go_ret2; exact ⟨rfl, (by ((repeat (first | (with_reducible assumption) | ((with_reducible refine Keep.setCell ?_ ?_ _); rotate_left; focus (first | omega | (simp; done) | (simp; omega))) | (with_reducible refine Keep.alloc ?_ _) | (with_reducible refine Keep.drewN ?_ _) | (with_reducible refine Keep.drew ?_) | (with_reducible exact Keep.refl _) | refine Keep.trans ?_ (by with_reducible assumption) | exact Keep.refl _ | assumption))))⟩
  · rw [h1] at h
    generalize fiN l s = n at *
    by_cases hn : n < 0
    · rw [if_pos hn, if_pos hn]
      go_enter Tryd.func31, Tryd.ntmps31
      (go_wp2_with fail); (go_at_call 67); (refine (h).mono ?_); rintro e w1 ⟨rfl, hk1⟩
      (go_wp2_with fail); (go_at_call 89); (refine (hf _ (hR.keep hk1)).mono ?_); rintro e w2 ⟨rfl, hk2⟩
      go_wp2
      go_ret2; exact ⟨rfl, (by ((repeat (first | (with_reducible assumption) | ((with_reducible refine Keep.setCell ?_ ?_ _); rotate_left; focus (first | omega | (simp; done) | (simp; omega))) | (with_reducible refine Keep.alloc ?_ _) | (with_reducible refine Keep.drewN ?_ _) | (with_reducible refine Keep.drew ?_) | (with_reducible exact Keep.refl _) | refine Keep.trans ?_ (by with_reducible assumption) | exact Keep.refl _ | assumption))))⟩
    · rw [if_neg hn, if_neg hn]
      go_enter Tryd.func31, Tryd.ntmps31
      (go_wp2_with fail); (go_at_call 67); (refine (h).mono ?_); rintro e w1 ⟨rfl, hk1⟩
      (go_wp2_with fail); (go_at_call 89); (refine (hf _ (hR.keep hk1)).mono ?_); rintro e w2 ⟨rfl, hk2⟩
      go_wp2
      go_ret2; exact ⟨rfl, (by ((repeat (first | (with_reducible assumption) | ((with_reducible refine Keep.setCell ?_ ?_ _); rotate_left; focus (first | omega | (simp; done) | (simp; omega))) | (with_reducible refine Keep.alloc ?_ _) | (with_reducible refine Keep.drewN ?_ _) | (with_reducible refine Keep.drew ?_) | (with_reducible exact Keep.refl _) | refine Keep.trans ?_ (by with_reducible assumption) | exact Keep.refl _ | assumption))))⟩
theorem impl_FindCard (A : Option Addr) (l : List Cd) (c : Nat) (s : ByteArray) (w : World) (hm : l.length ≤ 9223372036854775807) (hcp : l.length ≤ c) (hz : CSz l) (hR : Rd w A (cds l)) :
    Calls Tryd.prog 32 #[.slice A l.length c, .string s] w fun e w' => e = .returned (.tuple #[.int .i64 (fcN l s), .int .i64 (fcE l s)]) ∧ Keep w w' := by
  have h := impl_isDeck A l c w hm hcp hz hR
  cases h1 : dkB l
  · rw [h1] at h
    simp only [fcN, fcE, h1, cond_true, cond_false]
    go_enter Tryd.func32, Tryd.ntmps32
    (go_wp2_with fail); (go_at_call 72); (refine (h).mono ?_); rintro e w1 ⟨rfl, hk1⟩
    go_wp2
    go_ret2; exact ⟨rfl, (by ((repeat (first | (with_reducible assumption) | ((with_reducible refine Keep.setCell ?_ ?_ _); rotate_left; focus (first | omega | (simp; done) | (simp; omega))) | (with_reducible refine Keep.alloc ?_ _) | (with_reducible refine Keep.drewN ?_ _) | (with_reducible refine Keep.drew ?_) | (with_reducible exact Keep.refl _) | refine Keep.trans ?_ (by with_reducible assumption) | exact Keep.refl _ | assumption))))⟩
  · rw [h1] at h
    simp only [fcN, fcE, h1, cond_true, cond_false]
    obtain ⟨rn, hrn⟩ : ∃ x, (if fiN l s < 0 then 0 else fiN l s) = x := ⟨_, rfl⟩
    obtain ⟨re, hre⟩ : ∃ x, (if fiN l s < 0 then (6 : Int) else 0) = x := ⟨_, rfl⟩
    rw [hrn, hre]
    have HN := Aside.mk hrn
    have HE := Aside.mk hre
    clear hrn hre
    go_enter Tryd.func32, Tryd.ntmps32
    (go_wp2_with fail); (go_at_call 72); (refine (h).mono ?_); rintro e w1 ⟨rfl, hk1⟩
    have k1 : Keep w w1 := (by ((repeat (first | (with_reducible assumption) | ((with_reducible refine Keep.setCell ?_ ?_ _); rotate_left; focus (first | omega | (simp; done) | (simp; omega))) | (with_reducible refine Keep.alloc ?_ _) | (with_reducible refine Keep.drewN ?_ _) | (with_reducible refine Keep.drew ?_) | (with_reducible exact Keep.refl _) | refine Keep.trans ?_ (by with_reducible assumption) | exact Keep.refl _ | assumption))))
    clear hk1 h
    go_wp2_with fail
    go_loopg [13] l.length (fun k s13 wr => ∃ i : Nat, i + k = l.length ∧ s13 = .int .i64 i ∧ (l.take i).any (fun x => decide (x.s = s)) = false ∧ Keep w wr)
    case atStart => exact ⟨0, by omega, rfl, rfl, (by ((repeat (first | (with_reducible assumption) | ((with_reducible refine Keep.setCell ?_ ?_ _); rotate_left; focus (first | omega | (simp; done) | (simp; omega))) | (with_reducible refine Keep.alloc ?_ _) | (with_reducible refine Keep.drewN ?_ _) | (with_reducible refine Keep.drew ?_) | (with_reducible exact Keep.refl _) | refine Keep.trans ?_ (by with_reducible assumption) | exact Keep.refl _ | assumption))))⟩
    case round =>
      obtain ⟨i, hi, rfl, hal, hk⟩ := hrel
      have HL := Aside.mk hal
      clear hal
      by_cases hlt : i < l.length
      · obtain ⟨bb, o, rfl, hc⟩ := (hR.keep hk).at (k := i) (by rw [cds_len]; omega)
        obtain ⟨r1, r2, r3⟩ := cds_at l i hlt
        have p1 := hc _ _ r1
        have p2 := hc _ _ r2
        have p3 := hc _ _ r3
        rw [← Nat.add_assoc] at p2 p3
        have hT := any_takeD (q := fun x => decide (x.s = s)) hlt
        rw [HL.out, Bool.false_or] at hT
        have HT := Aside.mk hT
        have HQ := Aside.mk (fun h => fiN_at hlt h HL.out)
        clear hc hT r1 r2 r3
        generalize l[i] = x at *
        obtain ⟨y, a, b⟩ := x
        simp only at p1 p2 p3 HT HQ
        by_cases hy : y = s
        · subst hy
          have hA := HQ.out rfl
          have hA1 : rn = i := by rw [← HN.out, if_neg (by omega), hA]
          have hA2 : re = 0 := by rw [← HE.out, if_neg (by omega)]
          subst hA1 hA2
          clear HT HQ hA
          go_wp2
          go_ret2; exact ⟨rfl, (by ((repeat (first | (with_reducible assumption) | ((with_reducible refine Keep.setCell ?_ ?_ _); rotate_left; focus (first | omega | (simp; done) | (simp; omega))) | (with_reducible refine Keep.alloc ?_ _) | (with_reducible refine Keep.drewN ?_ _) | (with_reducible refine Keep.drew ?_) | (with_reducible exact Keep.refl _) | refine Keep.trans ?_ (by with_reducible assumption) | exact Keep.refl _ | assumption))))⟩
        · have hy' : ¬ y.toList = s.toList := fun k => hy (toList_eq.1 k)
          have hy2 : (y.toList == s.toList) = false := by simpa using hy'
          have HT2 := Aside.mk (HT.out.trans (decide_eq_false hy))
          clear HT HQ
          go_wp2
          go_roundg (l.length - (i + 1))
          case measure => omega
          case rel => exact ⟨i + 1, by omega, by go_num, HT2.out, (by ((repeat (first | (with_reducible assumption) | ((with_reducible refine Keep.setCell ?_ ?_ _); rotate_left; focus (first | omega | (simp; done) | (simp; omega))) | (with_reducible refine Keep.alloc ?_ _) | (with_reducible refine Keep.drewN ?_ _) | (with_reducible refine Keep.drew ?_) | (with_reducible exact Keep.refl _) | refine Keep.trans ?_ (by with_reducible assumption) | exact Keep.refl _ | assumption))))⟩
      · have e2 : i = l.length := by omega
        subst e2
        have hal := HL.out
        rw [List.take_length] at hal
        have hA := fiN_no hal
        have hA1 : rn = 0 := by rw [← HN.out, if_pos (by omega)]
        have hA2 : re = 6 := by rw [← HE.out, if_pos (by omega)]
        subst hA1 hA2
        clear hal hA
        go_wp2
        go_ret2; exact ⟨rfl, (by ((repeat (first | (with_reducible assumption) | ((with_reducible refine Keep.setCell ?_ ?_ _); rotate_left; focus (first | omega | (simp; done) | (simp; omega))) | (with_reducible refine Keep.alloc ?_ _) | (with_reducible refine Keep.drewN ?_ _) | (with_reducible refine Keep.drew ?_) | (with_reducible exact Keep.refl _) | refine Keep.trans ?_ (by with_reducible assumption) | exact Keep.refl _ | assumption))))⟩
end Go.Proofs.YtpmilcfppcmodaaDoor

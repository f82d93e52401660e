/- The text of a deck: the walks, the two functions and the law. -/
import Derived.Test.YtagldpbmadfokaaDoorCT3
import Derived.Test.YtagldpbmadfokaaDoorDK2
import Derived.Test.YtagldpbmadfokaaDoorDT
import Derived.Test.YtagldpbmadfokaaDoorPN
set_option linter.unusedVariables false
set_option linter.unusedSimpArgs false
namespace Go.Proofs.YtagldpbmadfokaaDoor
open Go.RowKit Go.Shelf
set_option maxHeartbeats 2000000
set_option maxRecDepth 20000
/-- The lines of these cards. -/
def dtF (l : List Cd) : ByteArray := l.foldl (fun acc c => acc ++ (ctT c.s c.a c.b ++ nlS)) ByteArray.empty
theorem dtF_succ {l : List Cd} {i : Nat} (h : i < l.length) : dtF (l.take (i + 1)) = dtF (l.take i) ++ (ctT l[i].s l[i].a l[i].b ++ nlS) := by
  unfold dtF; rw [List.take_succ_eq_append_getElem h, List.foldl_append]; rfl
theorem dtF_size {l : List Cd} (h : ∀ x ∈ l, x.s.size ≤ 16) : ∀ i, i ≤ l.length → (dtF (l.take i)).size ≤ 305 * i
  | 0, _ => by simp [dtF]
  | i + 1, hi => by
    have := dtF_size h i (by omega)
    rw [dtF_succ (by omega), size_app, size_app]
    have h1 := h l[i] (List.getElem_mem _)
    have h2 := ctT_size l[i].s l[i].a l[i].b
    have : nlS.size = 1 := rfl
    omega
theorem dk_names {l : List Cd} (h : dkB l = true) : ∀ x ∈ l, x.s.size ≤ 16 := by
  intro x hx
  obtain ⟨i, hi, rfl⟩ := List.getElem_of_mem hx
  unfold dkB at h
  simp only [Bool.and_eq_true, List.all_eq_true] at h
  have := h.2 i (List.mem_range.2 hi)
  rw [fineAt_at hi] at this
  simp only [Bool.and_eq_true] at this
  exact name_16 this.1
def dtX (l : List Cd) : ByteArray := cond (dkB l) (dtF l) ByteArray.empty
theorem impl_DeckText (A : Option Addr) (l : List Cd) (c : Nat) (w : World) (hm : l.length ≤ 9223372036854775807) (hcp : l.length ≤ c) (hz : CSz l) (hR : Rd w A (cds l)) :
    Calls Tryd.prog 13 #[.slice A l.length c] w fun e w' => e = .returned (.string (dtX l)) ∧ Keep w w' := by
  have h := impl_isDeck A l c w hm hcp hz hR
  cases h1 : dkB l
  · rw [h1] at h
    simp only [dtX, h1, cond_false]
    rw [show ByteArray.empty = ⟨#[]⟩ from rfl]
    go_enter Tryd.func13, Tryd.ntmps13
    (go_wp2_with fail); (go_at_call 25); (refine (h).mono ?_); rintro e w1 ⟨rfl, hk1⟩
    go_wp2
    go_ret; exact ⟨rfl, (by ((repeat (first | (with_reducible assumption) | ((with_reducible refine Keep.setCell ?_ ?_ _); rotate_left; focus (first | omega | (simp; done) | (simp; omega))) | (with_reducible refine Keep.alloc ?_ _) | (with_reducible refine Keep.drewN ?_ _) | (with_reducible refine Keep.drew ?_) | (with_reducible exact Keep.refl _) | refine Keep.trans ?_ (by with_reducible assumption) | exact Keep.refl _ | assumption))))⟩
  · rw [h1] at h
    simp only [dtX, h1, cond_true]
    have h80 := dkB_80 h1
    have hnm := dk_names h1
    have hsz := dtF_size hnm
    go_enter Tryd.func13, Tryd.ntmps13
    (go_wp2_with fail); (go_at_call 25); (refine (h).mono ?_); rintro e w1 ⟨rfl, hk1⟩
    have k1 : Keep w w1 := (by ((repeat (first | (with_reducible assumption) | ((with_reducible refine Keep.setCell ?_ ?_ _); rotate_left; focus (first | omega | (simp; done) | (simp; omega))) | (with_reducible refine Keep.alloc ?_ _) | (with_reducible refine Keep.drewN ?_ _) | (with_reducible refine Keep.drew ?_) | (with_reducible exact Keep.refl _) | refine Keep.trans ?_ (by with_reducible assumption) | exact Keep.refl _ | assumption))))
    clear hk1 h
    go_wp2_with fail
    go_loopg [3, 11] l.length (fun k s3 s11 wr => ∃ i : Nat, i + k = l.length ∧ s3 = .string (dtF (l.take i)) ∧ s11 = .int .i64 i ∧ Keep w wr)
    case atStart => exact ⟨0, by omega, rfl, rfl, (by ((repeat (first | (with_reducible assumption) | ((with_reducible refine Keep.setCell ?_ ?_ _); rotate_left; focus (first | omega | (simp; done) | (simp; omega))) | (with_reducible refine Keep.alloc ?_ _) | (with_reducible refine Keep.drewN ?_ _) | (with_reducible refine Keep.drew ?_) | (with_reducible exact Keep.refl _) | refine Keep.trans ?_ (by with_reducible assumption) | exact Keep.refl _ | assumption))))⟩
    case round =>
      obtain ⟨i, hi, rfl, rfl, hk⟩ := hrel
      by_cases hlt : i < l.length
      · obtain ⟨bb, o, rfl, hc⟩ := (hR.keep hk).at (k := i) (by rw [cds_len]; omega)
        obtain ⟨r1, r2, r3⟩ := cds_at l i hlt
        have p1 := hc _ _ r1
        have p2 := hc _ _ r2
        have p3 := hc _ _ r3
        rw [← Nat.add_assoc] at p2 p3
        have HT := Aside.mk (dtF_succ hlt)
        have hs1 := hsz i (by omega)
        have hs2 := hnm l[i] (List.getElem_mem hlt)
        have hs3 := ctT_size l[i].s l[i].a l[i].b
        have hF := Aside.mk (fun W => impl_cardText l[i].s l[i].a l[i].b W (by omega))
        have ha := size_app (ctT l[i].s l[i].a l[i].b) nlS
        have hsp : nlS.size = 1 := rfl
        clear hc r1 r2 r3
        generalize dtF (l.take i) = t at *
        generalize l[i] = x at *
        obtain ⟨s, a, b⟩ := x
        simp only at p1 p2 p3 HT hs2 hs3 hF ha
        generalize ctT s a b = d at *
        rw [show nlS = ⟨#[10]⟩ from rfl] at *
        go_wp2_with (go_at_call 22; refine (hF.out _).mono ?_; rintro e w3 ⟨rfl, hk3⟩)
        go_wp2
        go_roundg (l.length - (i + 1))
        case measure => omega
        case rel => exact ⟨i + 1, by omega, by rw [HT.out], by go_num, (by ((repeat (first | (with_reducible assumption) | ((with_reducible refine Keep.setCell ?_ ?_ _); rotate_left; focus (first | omega | (simp; done) | (simp; omega))) | (with_reducible refine Keep.alloc ?_ _) | (with_reducible refine Keep.drewN ?_ _) | (with_reducible refine Keep.drew ?_) | (with_reducible exact Keep.refl _) | refine Keep.trans ?_ (by with_reducible assumption) | exact Keep.refl _ | assumption))))⟩
      · obtain rfl : i = l.length := by omega
        rw [List.take_length]
        go_wp2
        go_ret; exact ⟨rfl, (by ((repeat (first | (with_reducible assumption) | ((with_reducible refine Keep.setCell ?_ ?_ _); rotate_left; focus (first | omega | (simp; done) | (simp; omega))) | (with_reducible refine Keep.alloc ?_ _) | (with_reducible refine Keep.drewN ?_ _) | (with_reducible refine Keep.drew ?_) | (with_reducible exact Keep.refl _) | refine Keep.trans ?_ (by with_reducible assumption) | exact Keep.refl _ | assumption))))⟩
theorem spec_l02Text (A : Option Addr) (l : List Cd) (c : Nat) (w : World) (h80 : l.length ≤ 80) (hnm : ∀ x ∈ l, x.s.size ≤ 16) (hR : Rd w A (cds l)) :
    Calls Tryd.prog 24 #[.slice A l.length c] w fun e w' => e = .returned (.string (dtF l)) ∧ Keep w w' := by
  have hsz := dtF_size hnm
  go_enter Tryd.func24, Tryd.ntmps24
  go_wp2_with fail
  go_loopg [3, 4] l.length (fun k s3 s4 wr => ∃ i : Nat, i + k = l.length ∧ s3 = .string (dtF (l.take i)) ∧ s4 = .int .i64 i ∧ Keep w wr)
  case atStart => exact ⟨0, by omega, rfl, rfl, (by ((repeat (first | (with_reducible assumption) | ((with_reducible refine Keep.setCell ?_ ?_ _); rotate_left; focus (first | omega | (simp; done) | (simp; omega))) | (with_reducible refine Keep.alloc ?_ _) | (with_reducible refine Keep.drewN ?_ _) | (with_reducible refine Keep.drew ?_) | (with_reducible exact Keep.refl _) | refine Keep.trans ?_ (by with_reducible assumption) | exact Keep.refl _ | assumption))))⟩
  case round =>
    obtain ⟨i, hi, rfl, rfl, hk⟩ := hrel
    by_cases hlt : i < l.length
    · obtain ⟨bb, o, rfl, hc⟩ := (hR.keep hk).at (k := i) (by rw [cds_len]; omega)
      obtain ⟨r1, r2, r3⟩ := cds_at l i hlt
      have p1 := hc _ _ r1
      have p2 := hc _ _ r2
      have p3 := hc _ _ r3
      rw [← Nat.add_assoc] at p2 p3
      have HT := Aside.mk (dtF_succ hlt)
      have hs1 := hsz i (by omega)
      have hs2 := hnm l[i] (List.getElem_mem hlt)
      have hs3 := ctT_size l[i].s l[i].a l[i].b
      have hle : l[i].s.size ≤ 1048576 := by omega
      have hF := Aside.mk (fun W g oo => spec_l01Text l[i].s l[i].a l[i].b g oo W hle)
      clear hle
      have ha := size_app (ctT l[i].s l[i].a l[i].b) nlS
      have hsp : nlS.size = 1 := rfl
      clear hc r1 r2 r3
      generalize dtF (l.take i) = t at *
      generalize l[i] = x at *
      obtain ⟨s, a, b⟩ := x
      simp only at p1 p2 p3 HT hs2 hs3 hF ha
      generalize ctT s a b = d at *
      rw [show nlS = ⟨#[10]⟩ from rfl] at *
      go_wp2_with (go_at_call 19; refine (hF.out _ _ _ p1 p2 p3).mono ?_; rintro e w3 ⟨rfl, hk3⟩)
      go_wp2
      go_roundg (l.length - (i + 1))
      case measure => omega
      case rel => exact ⟨i + 1, by omega, by rw [HT.out], by go_num, (by ((repeat (first | (with_reducible assumption) | ((with_reducible refine Keep.setCell ?_ ?_ _); rotate_left; focus (first | omega | (simp; done) | (simp; omega))) | (with_reducible refine Keep.alloc ?_ _) | (with_reducible refine Keep.drewN ?_ _) | (with_reducible refine Keep.drew ?_) | (with_reducible exact Keep.refl _) | refine Keep.trans ?_ (by with_reducible assumption) | exact Keep.refl _ | assumption))))⟩
    · obtain rfl : i = l.length := by omega
      rw [List.take_length]
      go_wp2
      go_ret; exact ⟨rfl, (by ((repeat (first | (with_reducible assumption) | ((with_reducible refine Keep.setCell ?_ ?_ _); rotate_left; focus (first | omega | (simp; done) | (simp; omega))) | (with_reducible refine Keep.alloc ?_ _) | (with_reducible refine Keep.drewN ?_ _) | (with_reducible refine Keep.drew ?_) | (with_reducible exact Keep.refl _) | refine Keep.trans ?_ (by with_reducible assumption) | exact Keep.refl _ | assumption))))⟩
theorem spec_DeckText (A : Option Addr) (l : List Cd) (c : Nat) (w : World) (hm : l.length ≤ 9223372036854775807) (hz : CSz l) (hR : Rd w A (cds l)) :
    Calls Tryd.prog 11 #[.slice A l.length c] w fun e w' => e = .returned (.string (dtX l)) ∧ Keep w w' := by
  have h := spec_l02Ok A l c w hm hz hR
  cases h1 : dkB l
  · rw [h1] at h
    simp only [dtX, h1, cond_false]
    rw [show ByteArray.empty = ⟨#[]⟩ from rfl]
    go_enter Tryd.func11, Tryd.ntmps11
    (go_wp2_with fail); (go_at_call 23); (refine (h).mono ?_); rintro e w1 ⟨rfl, hk1⟩
    go_wp2
    go_ret; exact ⟨rfl, (by ((repeat (first | (with_reducible assumption) | ((with_reducible refine Keep.setCell ?_ ?_ _); rotate_left; focus (first | omega | (simp; done) | (simp; omega))) | (with_reducible refine Keep.alloc ?_ _) | (with_reducible refine Keep.drewN ?_ _) | (with_reducible refine Keep.drew ?_) | (with_reducible exact Keep.refl _) | refine Keep.trans ?_ (by with_reducible assumption) | exact Keep.refl _ | assumption))))⟩
  · rw [h1] at h
    simp only [dtX, h1, cond_true]
    have hT := Aside.mk (fun W hr => spec_l02Text A l c W (dkB_80 h1) (dk_names h1) hr)
    generalize dtF l = r at *
    go_enter Tryd.func11, Tryd.ntmps11
    (go_wp2_with fail); (go_at_call 23); (refine (h).mono ?_); rintro e w1 ⟨rfl, hk1⟩
    (go_wp2_with fail); (go_at_call 24); (refine (hT.out _ (hR.keep hk1)).mono ?_); rintro e w2 ⟨rfl, hk2⟩
    go_wp2
    go_ret; exact ⟨rfl, (by ((repeat (first | (with_reducible assumption) | ((with_reducible refine Keep.setCell ?_ ?_ _); rotate_left; focus (first | omega | (simp; done) | (simp; omega))) | (with_reducible refine Keep.alloc ?_ _) | (with_reducible refine Keep.drewN ?_ _) | (with_reducible refine Keep.drew ?_) | (with_reducible exact Keep.refl _) | refine Keep.trans ?_ (by with_reducible assumption) | exact Keep.refl _ | assumption))))⟩
theorem laws_FnExactDeckText (A : Option Addr) (l : List Cd) (c : Nat) (w : World) (hl : l.length ≤ 9223372036854775807 ∧ CSz l ∧ Rd w A (cds l)) :
    Calls Tryd.prog 4 #[.slice A l.length c] w fun e w' => e = .returned (.bool true) ∧ Keep w w' := by
  obtain ⟨hl1, hlz, hR⟩ := hl
  by_cases hn : (1048576 : Int) < (l.length + cSum l : Nat)
  · have e1 := szD_gt hn
    go_enter Tryd.func4, Tryd.ntmps4
    (go_wp2_with fail); (go_at_call 10); (refine (laws_szCardS _ _ _ 1048576 _ (by decide) hl1 hlz hR).mono ?_); rintro e w1 ⟨rfl, hk1⟩
    rw [e1]
    go_wp2
    go_ret; exact ⟨rfl, (by ((repeat (first | (with_reducible assumption) | ((with_reducible refine Keep.setCell ?_ ?_ _); rotate_left; focus (first | omega | (simp; done) | (simp; omega))) | (with_reducible refine Keep.alloc ?_ _) | (with_reducible refine Keep.drewN ?_ _) | (with_reducible refine Keep.drew ?_) | (with_reducible exact Keep.refl _) | refine Keep.trans ?_ (by with_reducible assumption) | exact Keep.refl _ | assumption))))⟩
  · obtain ⟨left, hleft⟩ : ∃ x, szD 1048576 l = x := ⟨_, rfl⟩
    have e1 : left = 1048576 - (l.length + cSum l : Nat) := by rw [← hleft]; exact szD_le hn
    have hl0 : ¬ left < 0 := by omega
    have hln : l.length ≤ 1048576 := by omega
    have hI := fun A c W hc h => impl_DeckText A l c W hl1 hc hlz h
    have hJ := fun A c W h => spec_DeckText A l c W hl1 hlz h
    generalize dtX l = r at *
    clear hn e1
    go_enter Tryd.func4, Tryd.ntmps4
    (go_wp2_with fail); (go_at_call 10); (refine (laws_szCardS _ _ _ 1048576 _ (by decide) hl1 hlz hR).mono ?_); rintro e w1 ⟨rfl, hW⟩
    rw [hleft]
    clear hleft
    (go_wp2_with fail); (go_at_call 12); (refine (laws_toCardS _ _ _ _ hln (hR.keep hW)).mono ?_); rintro e w2 ⟨g2, rfl, ho2, hk⟩
    have kk : Keep w1 w2 := (by ((repeat (first | (with_reducible assumption) | ((with_reducible refine Keep.setCell ?_ ?_ _); rotate_left; focus (first | omega | (simp; done) | (simp; omega))) | (with_reducible refine Keep.alloc ?_ _) | (with_reducible refine Keep.drewN ?_ _) | (with_reducible refine Keep.drew ?_) | (with_reducible exact Keep.refl _) | refine Keep.trans ?_ (by with_reducible assumption) | exact Keep.refl _ | assumption))))
    replace hW := hW.trans kk
    clear hk kk
    (go_wp2_with fail); (go_at_call 11); (refine (hJ _ _ _ (own_rdc ho2)).mono ?_); rintro e w3 ⟨rfl, hk⟩
    have kk : Keep w2 w3 := (by ((repeat (first | (with_reducible assumption) | ((with_reducible refine Keep.setCell ?_ ?_ _); rotate_left; focus (first | omega | (simp; done) | (simp; omega))) | (with_reducible refine Keep.alloc ?_ _) | (with_reducible refine Keep.drewN ?_ _) | (with_reducible refine Keep.drew ?_) | (with_reducible exact Keep.refl _) | refine Keep.trans ?_ (by with_reducible assumption) | exact Keep.refl _ | assumption))))
    replace hW := hW.trans kk
    clear hk kk
    clear ho2
    (go_wp2_with fail); (go_at_call 12); (refine (laws_toCardS _ _ _ _ hln (hR.keep hW)).mono ?_); rintro e w4 ⟨g4, rfl, ho4, hk⟩
    have kk : Keep w3 w4 := (by ((repeat (first | (with_reducible assumption) | ((with_reducible refine Keep.setCell ?_ ?_ _); rotate_left; focus (first | omega | (simp; done) | (simp; omega))) | (with_reducible refine Keep.alloc ?_ _) | (with_reducible refine Keep.drewN ?_ _) | (with_reducible refine Keep.drew ?_) | (with_reducible exact Keep.refl _) | refine Keep.trans ?_ (by with_reducible assumption) | exact Keep.refl _ | assumption))))
    replace hW := hW.trans kk
    clear hk kk
    have h4 := Own.new ho4
    clear ho4
    (go_wp2_with fail); (go_at_call 13); (refine (hI _ _ _ (Nat.le_refl _) h4.rd).mono ?_); rintro e w5 ⟨rfl, hk⟩
    have kk : Keep w4 w5 := (by ((repeat (first | (with_reducible assumption) | ((with_reducible refine Keep.setCell ?_ ?_ _); rotate_left; focus (first | omega | (simp; done) | (simp; omega))) | (with_reducible refine Keep.alloc ?_ _) | (with_reducible refine Keep.drewN ?_ _) | (with_reducible refine Keep.drew ?_) | (with_reducible exact Keep.refl _) | refine Keep.trans ?_ (by with_reducible assumption) | exact Keep.refl _ | assumption))))
    replace h4 := h4.keep kk
    replace hW := hW.trans kk
    clear hk kk
    (go_wp2_with fail); (go_at_call 12); (refine (laws_toCardS _ _ _ _ hln (hR.keep hW)).mono ?_); rintro e w6 ⟨g6, rfl, ho6, hk⟩
    have kk : Keep w5 w6 := (by ((repeat (first | (with_reducible assumption) | ((with_reducible refine Keep.setCell ?_ ?_ _); rotate_left; focus (first | omega | (simp; done) | (simp; omega))) | (with_reducible refine Keep.alloc ?_ _) | (with_reducible refine Keep.drewN ?_ _) | (with_reducible refine Keep.drew ?_) | (with_reducible exact Keep.refl _) | refine Keep.trans ?_ (by with_reducible assumption) | exact Keep.refl _ | assumption))))
    replace h4 := h4.keep kk
    replace hW := hW.trans kk
    clear hk kk
    (go_wp2_with fail); (go_at_call 14); (refine (laws_eqCardS _ _ _ _ _ _ hln h4.rd (own_rdc ho6)).mono ?_); rintro e w7 ⟨rfl, hk⟩
    have kk : Keep w6 w7 := (by ((repeat (first | (with_reducible assumption) | ((with_reducible refine Keep.setCell ?_ ?_ _); rotate_left; focus (first | omega | (simp; done) | (simp; omega))) | (with_reducible refine Keep.alloc ?_ _) | (with_reducible refine Keep.drewN ?_ _) | (with_reducible refine Keep.drew ?_) | (with_reducible exact Keep.refl _) | refine Keep.trans ?_ (by with_reducible assumption) | exact Keep.refl _ | assumption))))
    replace hW := hW.trans kk
    clear hk kk
    clear ho6 h4
    go_wp2
    go_ret; exact ⟨rfl, (by ((repeat (first | (with_reducible assumption) | ((with_reducible refine Keep.setCell ?_ ?_ _); rotate_left; focus (first | omega | (simp; done) | (simp; omega))) | (with_reducible refine Keep.alloc ?_ _) | (with_reducible refine Keep.drewN ?_ _) | (with_reducible refine Keep.drew ?_) | (with_reducible exact Keep.refl _) | refine Keep.trans ?_ (by with_reducible assumption) | exact Keep.refl _ | assumption))))⟩
end Go.Proofs.YtagldpbmadfokaaDoor

/- The text of a card: the walks. -/
import Derived.Test.YtagldpbmadfokaaGreatDoorCT
import Derived.Test.YtagldpbmadfokaaGreatDoorOW
set_option linter.unusedVariables false
set_option linter.unusedSimpArgs false
namespace Go.Proofs.YtagldpbmadfokaaGreatDoor
open Go.RowKit Go.Shelf
set_option maxHeartbeats 2000000
set_option maxRecDepth 20000
theorem hs_small (a b : Wd) : ∀ k, k ≤ 100 → ∀ x ∈ hs a b k, 0 ≤ x ∧ x < 100
  | 0, _, x, h => by rw [hs_zero] at h; simp at h
  | k + 1, hk, x, h => by
    cases hb : hasB a b k
    · rw [hs_no hb] at h
      exact hs_small a b k (by omega) x h
    · rw [hs_yes hb, List.mem_append] at h
      rcases h with h | h
      · exact hs_small a b k (by omega) x h
      · simp at h; omega
/-- The text of a card. -/
def ctT (s : ByteArray) (a b : Wd) : ByteArray := txF s (hs a b 96)
theorem ctT_size (s : ByteArray) (a b : Wd) : (ctT s a b).size ≤ s.size + 288 := by
  have h1 := txF_size (s := s) (hs_small a b 96 (by omega)) (hs a b 96).length (Nat.le_refl _)
  rw [List.take_length] at h1
  have h2 := hs_len a b 96
  unfold ctT; omega
theorem impl_cardText (s : ByteArray) (a b : Wd) (w : World) (hsz : s.size ≤ 1048576) :
    Calls Tryz.prog 29 #[.agg #[.string s, .int .u64 (U a), .int .u64 (U b)]] w fun e w' => e = .returned (.string (ctT s a b)) ∧ Keep w w' := by
  have hC : Bx (w.alloc (.cells #[.string s, .int .u64 (U a), .int .u64 (U b)] 34)) w.heap.size #[.string s, .int .u64 (U a), .int .u64 (U b)] 34 := Bx.new _ _ _
  have hH := Aside.mk (fun W => impl_Mask_holes a b W)
  have h96 := hs_len a b 96
  have hsm := hs_small a b 96 (by omega)
  unfold ctT
  generalize hs a b 96 = L at *
  have hz := txF_size (s := s) hsm
  go_enter Tryz.func29, Tryz.ntmps29
  (go_wp2_with fail); (go_at_call 44); (refine (hH.out _).mono ?_); rintro e w2 ⟨v, rfl, ho, hk2⟩
  have hg := Own.new ho
  obtain ⟨A, c, rfl⟩ := hg.form
  clear ho hC hH
  have hW : Keep w w2 := (by ((repeat (first | (with_reducible assumption) | ((with_reducible refine Keep.setCell ?_ ?_ _); rotate_left; focus (first | omega | (simp; done) | (simp; omega))) | (with_reducible refine Keep.alloc ?_ _) | (with_reducible refine Keep.drewN ?_ _) | (with_reducible refine Keep.drew ?_) | (with_reducible exact Keep.refl _) | refine Keep.trans ?_ (by with_reducible assumption) | exact Keep.refl _ | assumption))))
  have hRd := hg.rd
  clear hg hk2
  go_wp2_with fail
  go_loopg [3, 12] L.length (fun k s3 s12 wr => ∃ i : Nat, i + k = L.length ∧ s3 = .string (txF s (L.take i)) ∧ s12 = .int .i64 i ∧ Keep w2 wr)
  case atStart => exact ⟨0, by omega, rfl, rfl, (by ((repeat (first | (with_reducible assumption) | ((with_reducible refine Keep.setCell ?_ ?_ _); rotate_left; focus (first | omega | (simp; done) | (simp; omega))) | (with_reducible refine Keep.alloc ?_ _) | (with_reducible refine Keep.drewN ?_ _) | (with_reducible refine Keep.drew ?_) | (with_reducible exact Keep.refl _) | refine Keep.trans ?_ (by with_reducible assumption) | exact Keep.refl _ | assumption))))⟩
  case round =>
    obtain ⟨i, hi, rfl, rfl, hk⟩ := hrel
    by_cases hlt : i < L.length
    · obtain ⟨bb, o, rfl, hc⟩ := (hRd.keep hk).at (k := i) (by rw [ints_len]; exact hlt)
      have hcell := hc i _ (ints_at L i hlt)
      have hzi := hz i (by omega)
      have HT := Aside.mk (txF_succ (s := s) hlt)
      obtain ⟨x1, x2⟩ := hsm L[i] (List.getElem_mem hlt)
      obtain ⟨n, hn⟩ : ∃ n : Nat, L[i] = n := ⟨L[i].toNat, by omega⟩
      have hd := decS_size (n := n) (by omega)
      have hF := Aside.mk (fun W => itoa_small n W (by omega))
      rw [hn] at HT hcell
      have ha := size_app spcS (decS n)
      have hsp : spcS.size = 1 := rfl
      clear hc x1 x2
      generalize txF s (L.take i) = t at *
      generalize decS n = d at *
      rw [show spcS = ⟨#[32]⟩ from rfl] at *
      go_wp2_with (go_at_call 41; refine (hF.out _).mono ?_; rintro e w3 ⟨rfl, hk3⟩)
      go_wp2
      go_roundg (L.length - (i + 1))
      case measure => omega
      case rel => exact ⟨i + 1, by omega, by rw [HT.out], by go_num, (by ((repeat (first | (with_reducible assumption) | ((with_reducible refine Keep.setCell ?_ ?_ _); rotate_left; focus (first | omega | (simp; done) | (simp; omega))) | (with_reducible refine Keep.alloc ?_ _) | (with_reducible refine Keep.drewN ?_ _) | (with_reducible refine Keep.drew ?_) | (with_reducible exact Keep.refl _) | refine Keep.trans ?_ (by with_reducible assumption) | exact Keep.refl _ | assumption))))⟩
    · obtain rfl : i = L.length := by omega
      rw [List.take_length]
      go_wp2
      go_ret; exact ⟨rfl, (by ((repeat (first | (with_reducible assumption) | ((with_reducible refine Keep.setCell ?_ ?_ _); rotate_left; focus (first | omega | (simp; done) | (simp; omega))) | (with_reducible refine Keep.alloc ?_ _) | (with_reducible refine Keep.drewN ?_ _) | (with_reducible refine Keep.drew ?_) | (with_reducible exact Keep.refl _) | refine Keep.trans ?_ (by with_reducible assumption) | exact Keep.refl _ | assumption))))⟩
theorem spec_l01Text (s : ByteArray) (a b : Wd) (g o : Nat) (w : World) (hsz : s.size ≤ 1048576)
    (c0 : w.cell? ⟨g, o, none⟩ = some (.string s)) (c1 : w.cell? ⟨g, o + 1, none⟩ = some (.int .u64 (U a))) (c2 : w.cell? ⟨g, o + 2, none⟩ = some (.int .u64 (U b))) :
    Calls Tryz.prog 22 #[.pointer (some ⟨g, o, none⟩)] w fun e w' => e = .returned (.string (ctT s a b)) ∧ Keep w w' := by
  have hH := Aside.mk (fun W => spec_l01Holes a b W)
  have h96 := hs_len a b 96
  have hsm := hs_small a b 96 (by omega)
  unfold ctT
  generalize hs a b 96 = L at *
  have hz := txF_size (s := s) hsm
  go_enter Tryz.func22, Tryz.ntmps22
  (go_wp2_with fail); (go_at_call 36); (refine (hH.out _).mono ?_); rintro e w2 ⟨v, rfl, ho, hk2⟩
  have hg := Own.new ho
  obtain ⟨A, c, rfl⟩ := hg.form
  clear ho hH
  have hW : Keep w w2 := (by ((repeat (first | (with_reducible assumption) | ((with_reducible refine Keep.setCell ?_ ?_ _); rotate_left; focus (first | omega | (simp; done) | (simp; omega))) | (with_reducible refine Keep.alloc ?_ _) | (with_reducible refine Keep.drewN ?_ _) | (with_reducible refine Keep.drew ?_) | (with_reducible exact Keep.refl _) | refine Keep.trans ?_ (by with_reducible assumption) | exact Keep.refl _ | assumption))))
  have hRd := hg.rd
  clear hg hk2
  go_wp2_with fail
  go_loopg [3, 5] L.length (fun k s3 s5 wr => ∃ i : Nat, i + k = L.length ∧ s3 = .string (txF s (L.take i)) ∧ s5 = .int .i64 i ∧ Keep w2 wr)
  case atStart => exact ⟨0, by omega, rfl, rfl, (by ((repeat (first | (with_reducible assumption) | ((with_reducible refine Keep.setCell ?_ ?_ _); rotate_left; focus (first | omega | (simp; done) | (simp; omega))) | (with_reducible refine Keep.alloc ?_ _) | (with_reducible refine Keep.drewN ?_ _) | (with_reducible refine Keep.drew ?_) | (with_reducible exact Keep.refl _) | refine Keep.trans ?_ (by with_reducible assumption) | exact Keep.refl _ | assumption))))⟩
  case round =>
    obtain ⟨i, hi, rfl, rfl, hk⟩ := hrel
    by_cases hlt : i < L.length
    · obtain ⟨bb, oo, rfl, hc⟩ := (hRd.keep hk).at (k := i) (by rw [ints_len]; exact hlt)
      have hcell := hc i _ (ints_at L i hlt)
      have hzi := hz i (by omega)
      have HT := Aside.mk (txF_succ (s := s) hlt)
      obtain ⟨x1, x2⟩ := hsm L[i] (List.getElem_mem hlt)
      obtain ⟨n, hn⟩ : ∃ n : Nat, L[i] = n := ⟨L[i].toNat, by omega⟩
      have hd := decS_size (n := n) (by omega)
      have hF := Aside.mk (fun W => spec_Decimal n W (by omega))
      rw [hn] at HT hcell
      have ha := size_app spcS (decS n)
      have hsp : spcS.size = 1 := rfl
      clear hc x1 x2
      generalize txF s (L.take i) = t at *
      generalize decS n = d at *
      rw [show spcS = ⟨#[32]⟩ from rfl] at *
      go_wp2_with (go_at_call 37; refine (hF.out _).mono ?_; rintro e w3 ⟨rfl, hk3⟩)
      go_wp2
      go_roundg (L.length - (i + 1))
      case measure => omega
      case rel => exact ⟨i + 1, by omega, by rw [HT.out], by go_num, (by ((repeat (first | (with_reducible assumption) | ((with_reducible refine Keep.setCell ?_ ?_ _); rotate_left; focus (first | omega | (simp; done) | (simp; omega))) | (with_reducible refine Keep.alloc ?_ _) | (with_reducible refine Keep.drewN ?_ _) | (with_reducible refine Keep.drew ?_) | (with_reducible exact Keep.refl _) | refine Keep.trans ?_ (by with_reducible assumption) | exact Keep.refl _ | assumption))))⟩
    · obtain rfl : i = L.length := by omega
      rw [List.take_length]
      go_wp2
      go_ret; exact ⟨rfl, (by ((repeat (first | (with_reducible assumption) | ((with_reducible refine Keep.setCell ?_ ?_ _); rotate_left; focus (first | omega | (simp; done) | (simp; omega))) | (with_reducible refine Keep.alloc ?_ _) | (with_reducible refine Keep.drewN ?_ _) | (with_reducible refine Keep.drew ?_) | (with_reducible exact Keep.refl _) | refine Keep.trans ?_ (by with_reducible assumption) | exact Keep.refl _ | assumption))))⟩
end Go.Proofs.YtagldpbmadfokaaGreatDoor

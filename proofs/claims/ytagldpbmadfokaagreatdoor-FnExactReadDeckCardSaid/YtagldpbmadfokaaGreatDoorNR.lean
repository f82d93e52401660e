/- Decks read out of texts: the walks. -/
import Derived.Test.YtagldpbmadfokaaGreatDoorNK
import Derived.Test.YtagldpbmadfokaaGreatDoorOW
import Derived.Deep.AppendLies
set_option linter.unusedVariables false
set_option linter.unusedSimpArgs false
namespace Go.Proofs.YtagldpbmadfokaaGreatDoor
open Go.RowKit Go.Shelf
set_option maxHeartbeats 2000000
set_option maxRecDepth 20000
theorem dkB_most {l : List Cd} (h : dkB l = true) : l.length ≤ 80 := by
  unfold dkB at h; simp at h; exact h.1
theorem own_emptyC (w : World) (B : Nat) (T : TypeId) (n : Nat) (hB : B ≤ w.heap.size) : (w.alloc (.cells #[] T)).ownsRow B T n (.slice (some ⟨w.heap.size, 0, none⟩) 0 0) 0 [] :=
  World.ownsRow_made w #[] 0 hB (by unfold maxLen; omega) (by simp)
/-- The cards that these lines tell. -/
def cdO (s : ByteArray) : Cd := ⟨rcN s, rcA s, rcB s⟩
def cdl (L : List ByteArray) : List Cd := L.map cdO
def rdK (s : ByteArray) : Bool := lnZ s && ((lnL s).all rcO && dkB (cdl (lnL s)))
def rdL (s : ByteArray) : List Cd := cond (rdK s) (cdl (lnL s)) []
def rdE (s : ByteArray) : Int := cond (rdK s) 0 5
theorem rd_no {s : ByteArray} (h : rdK s = false) : rdL s = [] ∧ rdE s = 5 := by unfold rdL rdE; rw [h]; exact ⟨rfl, rfl⟩
theorem rd_yes {s : ByteArray} (h : rdK s = true) : rdL s = cdl (lnL s) ∧ rdE s = 0 := by unfold rdL rdE; rw [h]; exact ⟨rfl, rfl⟩
theorem rdL_len (s : ByteArray) : (rdL s).length ≤ 80 := by
  cases h : rdK s
  · rw [(rd_no h).1]; simp
  · rw [(rd_yes h).1]
    unfold rdK at h
    simp only [Bool.and_eq_true] at h
    exact dkB_most h.2.2
theorem cdl_succ {L : List ByteArray} {i : Nat} (h : i < L.length) : cdl (L.take (i + 1)) = cdl (L.take i) ++ [cdO L[i]] := by
  unfold cdl; rw [List.take_succ_eq_append_getElem h, List.map_append]; rfl
theorem allO_take {L : List ByteArray} {i : Nat} (h : i < L.length) : (L.take (i + 1)).all rcO = ((L.take i).all rcO && rcO L[i]) := by
  rw [List.take_succ_eq_append_getElem h, List.all_append]; simp
theorem rdK_card {s : ByteArray} {i : Nat} (h : i < (lnL s).length) (hb : rcO (lnL s)[i] = false) : rdK s = false := by
  have : (lnL s).all rcO = false := by rw [List.all_eq_false]; exact ⟨_, List.getElem_mem h, by rw [hb]; decide⟩
  unfold rdK; rw [this]; simp
theorem ln_size {s : ByteArray} {i : Nat} (h : i < (lnL s).length) : (lnL s)[i].size ≤ s.size :=
  wds_size (c := 10) (by rw [wds_ln s]; exact List.mem_append_left _ (List.getElem_mem h))
theorem ln_len (s : ByteArray) : (lnL s).length ≤ s.size := by
  have h := (wds_len 10 s).2
  rw [wds_ln, List.length_append] at h
  simp at h; omega
theorem cdl_sz {s : ByteArray} (hs : s.size ≤ 1048576) : CSz (cdl (lnL s)) := by
  intro x hx
  obtain ⟨l, hl, rfl⟩ := List.mem_map.1 hx
  obtain ⟨i, hi, rfl⟩ := List.getElem_of_mem hl
  have h1 := ln_size hi
  have h2 := rcN_size (lnL s)[i]
  show (rcN (lnL s)[i]).size ≤ _
  omega
theorem impl_ReadDeck (s : ByteArray) (w : World) (hs : s.size ≤ 1048576) (hg : Gs w) :
    Calls Tryz.prog 5 #[.string s] w fun e w' => ∃ v, e = .returned (.tuple #[v, .int .i64 (rdE s)]) ∧ w'.ownsRow w.heap.size 34 3 v (rdL s).length (cds (rdL s)) ∧ Keep w w' := by
  obtain ⟨i0, hi0, hz0, hz1, hz2⟩ := info_parts cardE_info
  have hl := Aside.mk (fun W h => impl_linesOf s W hs h)
  cases hZ : lnZ s
  · obtain ⟨e1, e2⟩ := rd_no (s := s) (by unfold rdK; rw [hZ]; rfl)
    rw [e1, e2]
    rw [hZ] at hl
    clear e1 e2
    go_enter Tryz.func5, Tryz.ntmps5
    (go_wp2_with fail); (go_at_call 12); (refine (hl.out _ (hg.keep (by ((repeat (first | (with_reducible assumption) | ((with_reducible refine Keep.setCell ?_ ?_ _); rotate_left; focus (first | omega | (simp; done) | (simp; omega))) | (with_reducible refine Keep.alloc ?_ _) | (with_reducible refine Keep.drewN ?_ _) | (with_reducible refine Keep.drew ?_) | (with_reducible exact Keep.refl _) | refine Keep.trans ?_ (by with_reducible assumption) | exact Keep.refl _ | assumption)))))).mono ?_); rintro e w1 ⟨A, n, c, rfl, _, hk1⟩
    go_wp2
    go_ret2; exact ⟨_, rfl, World.ownsRow_nil _ _ _ _, (by ((repeat (first | (with_reducible assumption) | ((with_reducible refine Keep.setCell ?_ ?_ _); rotate_left; focus (first | omega | (simp; done) | (simp; omega))) | (with_reducible refine Keep.alloc ?_ _) | (with_reducible refine Keep.drewN ?_ _) | (with_reducible refine Keep.drew ?_) | (with_reducible exact Keep.refl _) | refine Keep.trans ?_ (by with_reducible assumption) | exact Keep.refl _ | assumption))))⟩
  · have hsz := Aside.mk (fun (i : Nat) (h : i < (lnL s).length) => ln_size h)
    have hlen := ln_len s
    have HBAD := Aside.mk (fun (h : rdK s = false) => rd_no h)
    have HGOOD := Aside.mk (fun (h : rdK s = true) => rd_yes h)
    have HCARD := Aside.mk (fun (i : Nat) (h : i < (lnL s).length) hb => rdK_card h hb)
    have HFIN : Aside ((lnL s).all rcO = true → rdK s = dkB (cdl (lnL s))) := Aside.mk (fun h => by unfold rdK; rw [hZ, h]; rfl)
    have HSZ := Aside.mk (cdl_sz hs)
    have HLL : Aside ((cdl (lnL s)).length = (lnL s).length) := Aside.mk (by unfold cdl; rw [List.length_map])
    rw [hZ] at hl
    obtain ⟨R, hR⟩ : ∃ R, rdL s = R := ⟨_, rfl⟩
    obtain ⟨E, hE⟩ : ∃ E, rdE s = E := ⟨_, rfl⟩
    rw [hR, hE]
    rw [hR, hE] at HBAD HGOOD
    clear hZ hR hE
    generalize rdK s = K at *
    generalize lnL s = L at *
    go_enter Tryz.func5, Tryz.ntmps5
    (go_wp2_with fail); (go_at_call 12); (refine (hl.out _ (hg.keep (by ((repeat (first | (with_reducible assumption) | ((with_reducible refine Keep.setCell ?_ ?_ _); rotate_left; focus (first | omega | (simp; done) | (simp; omega))) | (with_reducible refine Keep.alloc ?_ _) | (with_reducible refine Keep.drewN ?_ _) | (with_reducible refine Keep.drew ?_) | (with_reducible exact Keep.refl _) | refine Keep.trans ?_ (by with_reducible assumption) | exact Keep.refl _ | assumption)))))).mono ?_); rintro e w1 ⟨A, n, c, rfl, hn, hk1⟩
    obtain ⟨rfl, hRd⟩ := hn trivial
    have k1 : Keep w w1 := (by ((repeat (first | (with_reducible assumption) | ((with_reducible refine Keep.setCell ?_ ?_ _); rotate_left; focus (first | omega | (simp; done) | (simp; omega))) | (with_reducible refine Keep.alloc ?_ _) | (with_reducible refine Keep.drewN ?_ _) | (with_reducible refine Keep.drew ?_) | (with_reducible exact Keep.refl _) | refine Keep.trans ?_ (by with_reducible assumption) | exact Keep.refl _ | assumption))))
    have hg1 := hg.keep k1
    have z1 := k1.size
    clear hk1 hl hg
    go_wp2_with fail
    go_loopg [6, 21] L.length (fun k v6 s21 wr => ∃ i : Nat, i + k = L.length ∧ s21 = .int .i64 i ∧ (L.take i).all rcO = true ∧ wr.ownsRow w1.heap.size 34 3 v6 (cdl (L.take i)).length (cds (cdl (L.take i))) ∧ Keep w1 wr)
    case atStart => exact ⟨0, by omega, rfl, rfl, own_emptyC w1 w1.heap.size 34 3 (Nat.le_refl _), (by ((repeat (first | (with_reducible assumption) | ((with_reducible refine Keep.setCell ?_ ?_ _); rotate_left; focus (first | omega | (simp; done) | (simp; omega))) | (with_reducible refine Keep.alloc ?_ _) | (with_reducible refine Keep.drewN ?_ _) | (with_reducible refine Keep.drew ?_) | (with_reducible exact Keep.refl _) | refine Keep.trans ?_ (by with_reducible assumption) | exact Keep.refl _ | assumption))))⟩
    case round =>
      obtain ⟨i, hi, rfl, hall, hown, hk⟩ := hrel
      have HL := Aside.mk hall
      have HO := Aside.mk hown
      clear hall hown
      by_cases hlt : i < L.length
      · obtain ⟨bb, o, rfl, hc⟩ := (hRd.keep hk).at (k := i) (by rw [strs_len]; omega)
        have p1 := hc _ _ (strs_at L i hlt)
        have hx := hsz.out i hlt
        have HC := Aside.mk (HCARD.out i hlt)
        have HS := Aside.mk (allO_take hlt)
        have HD := Aside.mk (cdl_succ hlt)
        have hdl : (cdl (L.take i)).length ≤ i := by unfold cdl; rw [List.length_map, List.length_take]; omega
        clear hc
        generalize L[i] = x at *
        generalize cdl (L.take i) = D at *
        (go_wp2_with fail); (go_at_call 13); (refine (impl_readCard x _ (by omega) (hg1.keep (by ((repeat (first | (with_reducible assumption) | ((with_reducible refine Keep.setCell ?_ ?_ _); rotate_left; focus (first | omega | (simp; done) | (simp; omega))) | (with_reducible refine Keep.alloc ?_ _) | (with_reducible refine Keep.drewN ?_ _) | (with_reducible refine Keep.drew ?_) | (with_reducible exact Keep.refl _) | refine Keep.trans ?_ (by with_reducible assumption) | exact Keep.refl _ | assumption)))))).mono ?_); rintro e w3 ⟨nn, na, nb, rfl, hr, hk3⟩
        have k3 : Keep w1 w3 := (by ((repeat (first | (with_reducible assumption) | ((with_reducible refine Keep.setCell ?_ ?_ _); rotate_left; focus (first | omega | (simp; done) | (simp; omega))) | (with_reducible refine Keep.alloc ?_ _) | (with_reducible refine Keep.drewN ?_ _) | (with_reducible refine Keep.drew ?_) | (with_reducible exact Keep.refl _) | refine Keep.trans ?_ (by with_reducible assumption) | exact Keep.refl _ | assumption))))
        have HO3 := Aside.mk (own_keep HO.out hk3)
        have z3 := k3.size
        clear hk3 hk p1 HO
        cases ho : rcO x
        · obtain ⟨rfl, rfl⟩ := HBAD.out (HC.out ho)
          clear HC HS HD HO3 hr
          go_wp2
          go_ret2; exact ⟨_, rfl, World.ownsRow_nil _ _ _ _, (by ((repeat (first | (with_reducible assumption) | ((with_reducible refine Keep.setCell ?_ ?_ _); rotate_left; focus (first | omega | (simp; done) | (simp; omega))) | (with_reducible refine Keep.alloc ?_ _) | (with_reducible refine Keep.drewN ?_ _) | (with_reducible refine Keep.drew ?_) | (with_reducible exact Keep.refl _) | refine Keep.trans ?_ (by with_reducible assumption) | exact Keep.refl _ | assumption))))⟩
        · obtain ⟨rfl, rfl, rfl⟩ := hr ho
          have HS2 : Aside ((L.take (i + 1)).all rcO = true) := Aside.mk (by rw [HS.out, HL.out, ho]; rfl)
          have HD2 : Aside (cdl (L.take (i + 1)) = D ++ [⟨rcN x, rcA x, rcB x⟩]) := Aside.mk HD.out
          clear HS HD HC HL hr ho
          generalize rcN x = nn at *
          generalize rcA x = na at *
          generalize rcB x = nb at *
          have hsize : ((w3.alloc (.cells #[.string nn, .int .u64 (U na), .int .u64 (U nb)] 34)).alloc (.cells #[.string nn, .int .u64 (U na), .int .u64 (U nb)] 34)).heap.size = w3.heap.size + 1 + 1 := by simp
          go_wp2_with (at_builtin; refine wpList_append_own _ rfl _ _ 22 rfl w1.heap.size 34 i0 (.agg #[.string ByteArray.empty, .int .u64 0, .int .u64 0]) 3 32 Tryz.underlying22 hi0 hz0 hz1 hz2 rfl (by decide) _ _ _ rfl (own_keep HO3.out (((Keep.refl _).alloc _).alloc _)) ⟨w3.heap.size + 1, 0, none⟩ 1 1 [.string nn, .int .u64 (U na), .int .u64 (U nb)] rfl rfl ?c1 ?c2 ?c3 ?c4 ?c5 ?_)
          case c1 => exact World.news_of_block (Bx.new1 w3 _ #[.string nn, .int .u64 (U na), .int .u64 (U nb)] 34)
          case c2 => intro u hu; simp at hu; rcases hu with rfl | rfl | rfl <;> rfl
          case c3 => unfold maxLen; omega
          case c4 => omega
          case c5 => simp; omega
          · intro v' w4 hown4 hgr _
            have k4 : Keep w1 w4 := ((k3.alloc _).alloc _).grown hgr (fun k hk => (HO3.out.lt k hk).1)
            have HO4 : Aside (w4.ownsRow w1.heap.size 34 3 v' (cdl (L.take (i + 1))).length (cds (cdl (L.take (i + 1))))) := Aside.mk (by
              rw [HD2.out, cds_app, List.length_append]; exact hown4)
            clear hown4 hgr HO3 HD2
            go_wp2
            go_roundg (L.length - (i + 1))
            case measure => omega
            case rel => exact ⟨i + 1, by omega, by go_num, HS2.out, HO4.out, k4⟩
      · obtain rfl : i = L.length := by omega
        rw [List.take_length] at HL HO
        have HG := Aside.mk (Own.new HO.out)
        have hfin := HFIN.out HL.out
        have kw : Keep w wr := k1.trans hk
        obtain ⟨A, c2, rfl⟩ := HG.out.form
        have hrl := rd_len HG.out
        have hid := Aside.mk (fun W h => impl_isDeck A (cdl L) c2 W (by have := HLL.out; omega) hrl HSZ.out h)
        rw [← hfin] at hid
        have HO2 := Aside.mk (own_base HO.out z1)
        have HRd := Aside.mk HG.out.rd
        clear hrl HL HG hfin HSZ HCARD HFIN hsz HLL HO
        generalize cdl L = D at *
        (go_wp2_with fail); (go_at_call 14); (refine (hid.out _ HRd.out).mono ?_); rintro e w5 ⟨rfl, hk5⟩
        have k5 : Keep w w5 := kw.trans hk5
        have HO5 := Aside.mk (own_keep HO2.out hk5)
        clear hid HO2 HRd hk5
        cases K
        · obtain ⟨rfl, rfl⟩ := HBAD.out rfl
          go_wp2
          go_ret2; exact ⟨_, rfl, World.ownsRow_nil _ _ _ _, (by ((repeat (first | (with_reducible assumption) | ((with_reducible refine Keep.setCell ?_ ?_ _); rotate_left; focus (first | omega | (simp; done) | (simp; omega))) | (with_reducible refine Keep.alloc ?_ _) | (with_reducible refine Keep.drewN ?_ _) | (with_reducible refine Keep.drew ?_) | (with_reducible exact Keep.refl _) | refine Keep.trans ?_ (by with_reducible assumption) | exact Keep.refl _ | assumption))))⟩
        · obtain ⟨rfl, rfl⟩ := HGOOD.out rfl
          go_wp2
          go_ret2; exact ⟨_, rfl, HO5.out, (by ((repeat (first | (with_reducible assumption) | ((with_reducible refine Keep.setCell ?_ ?_ _); rotate_left; focus (first | omega | (simp; done) | (simp; omega))) | (with_reducible refine Keep.alloc ?_ _) | (with_reducible refine Keep.drewN ?_ _) | (with_reducible refine Keep.drew ?_) | (with_reducible exact Keep.refl _) | refine Keep.trans ?_ (by with_reducible assumption) | exact Keep.refl _ | assumption))))⟩
end Go.Proofs.YtagldpbmadfokaaGreatDoor

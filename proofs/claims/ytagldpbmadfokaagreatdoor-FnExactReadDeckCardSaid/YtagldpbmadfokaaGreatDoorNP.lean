/- Decks read out of texts: the reference's walk. -/
import Derived.Test.YtagldpbmadfokaaGreatDoorNR
set_option linter.unusedVariables false
set_option linter.unusedSimpArgs false
namespace Go.Proofs.YtagldpbmadfokaaGreatDoor
open Go.RowKit Go.Shelf
set_option maxHeartbeats 2000000
set_option maxRecDepth 20000
/-- What the reference's loop knows: the cards so far, or that the text tells no deck. -/
structure RdRel (s : ByteArray) (b : Bool) (D : List Cd) (i : Nat) : Prop where
  len : D.length = i
  yes : b = true → D = cdl ((lnL s).take i) ∧ ((lnL s).take i).all rcO = true ∧ lnZ s = true
  no : b = false → rdK s = false
theorem RdRel.start (s : ByteArray) : RdRel s (lnZ s) [] 0 := ⟨rfl, fun h => ⟨rfl, rfl, h⟩, fun h => by unfold rdK; rw [h]; rfl⟩
theorem RdRel.next {s : ByteArray} {D : List Cd} {i : Nat} {n : ByteArray} {a b : Wd} (h : RdRel s true D i) (hi : i < (lnL s).length) (hr : rdC (lnL s)[i] n a b) : RdRel s (rcO (lnL s)[i]) (D ++ [⟨n, a, b⟩]) (i + 1) := by
  obtain ⟨h1, h2, h3⟩ := h.yes rfl
  refine ⟨by rw [List.length_append, h.len]; rfl, fun ho => ?_, fun ho => rdK_card hi ho⟩
  obtain ⟨rfl, rfl, rfl⟩ := hr ho
  exact ⟨by rw [cdl_succ hi, h1]; rfl, by rw [allO_take hi, h2, ho]; rfl, h3⟩
theorem RdRel.fin {s : ByteArray} {D : List Cd} (h : RdRel s true D (lnL s).length) : D = cdl (lnL s) ∧ rdK s = dkB (cdl (lnL s)) := by
  obtain ⟨h1, h2, h3⟩ := h.yes rfl
  rw [List.take_length] at h1 h2
  exact ⟨h1, by unfold rdK; rw [h2, h3]; rfl⟩
theorem wds_at {s : ByteArray} {w : World} {A : Option Addr} (h : Rd w A (strs (wds 10 s))) : ∃ b o, A = some ⟨b, o, none⟩ ∧ w.cell? ⟨b, o + (lnL s).length, none⟩ = some (.string (lnW s)) ∧ ∀ i (h : i < (lnL s).length), w.cell? ⟨b, o + i, none⟩ = some (.string (lnL s)[i]) := by
  obtain ⟨b, o, e, hc⟩ := h.at (k := 0) (by rw [strs_len]; have := (wds_len 10 s).1; omega)
  refine ⟨b, o, e, hc _ _ ?_, fun i hi => hc _ _ ?_⟩
  · rw [wds_ln s, strs_at _ _ (by simp)]; simp
  · rw [wds_ln s, strs_at _ _ (by simp; omega)]; simp [hi]
theorem spec_ReadDeck (s : ByteArray) (w : World) (hs : s.size ≤ 1048576) :
    Calls Tryz.prog 4 #[.string s] w fun e w' => ∃ v, e = .returned (.tuple #[v, .int .i64 (rdE s)]) ∧ w'.ownsRow w.heap.size 34 3 v (rdL s).length (cds (rdL s)) ∧ Keep w w' := by
  obtain ⟨i0, hi0, hz0, hz1, hz2⟩ := info_parts cardE_info
  have hsp := Aside.mk (fun W => spec_l01Split s 10 W hs)
  have hlw : (wds 10 s).length = (lnL s).length + 1 := by rw [wds_ln, List.length_append]; rfl
  have HWA := Aside.mk (fun W A (h : Rd W A (strs (wds 10 s))) => wds_at h)
  have hsz := Aside.mk (fun (i : Nat) (h : i < (lnL s).length) => ln_size h)
  have hlen := ln_len s
  have HBAD := Aside.mk (fun (h : rdK s = false) => rd_no h)
  have HGOOD := Aside.mk (fun (h : rdK s = true) => rd_yes h)
  have HSZ := Aside.mk (cdl_sz hs)
  have HST := Aside.mk (RdRel.start s)
  have HNX := Aside.mk (fun (D : List Cd) (i : Nat) (n : ByteArray) (a b : Wd) (h : RdRel s true D i) (hi : i < (lnL s).length) hr => RdRel.next h hi (n := n) (a := a) (b := b) hr)
  have HFN := Aside.mk (fun (D : List Cd) (h : RdRel s true D (lnL s).length) => h.fin)
  have HN := Aside.mk (fun (D : List Cd) (i : Nat) (h : RdRel s false D i) => h.no rfl)
  have HLL : Aside ((cdl (lnL s)).length = (lnL s).length) := Aside.mk (by unfold cdl; rw [List.length_map])
  rw [hlw] at hsp
  obtain ⟨R, hR⟩ : ∃ R, rdL s = R := ⟨_, rfl⟩
  obtain ⟨E, hE⟩ : ∃ E, rdE s = E := ⟨_, rfl⟩
  rw [hR, hE]
  rw [hR, hE] at HBAD HGOOD
  clear hR hE hlw
  have hzd : lnZ s = (lnW s).toList.isEmpty := rfl
  rw [hzd] at HST
  clear hzd
  generalize rdK s = K at *
  obtain ⟨m, hm⟩ : ∃ m, (lnL s).length = m := ⟨_, rfl⟩
  have HM := Aside.mk hm
  rw [hm] at hsp hlen HLL
  clear hm
  have hwm : IntKind.i64.wrap (m : Int) = m := wrapI64 ⟨by omega, by omega⟩
  go_enter Tryz.func4, Tryz.ntmps4
  (go_wp2_with fail); (go_at_call 9); (refine (hsp.out _).mono ?_); rintro e w1 ⟨v, rfl, ho, hk1⟩
  have hg := Own.new ho
  obtain ⟨A, c, rfl⟩ := hg.form
  obtain ⟨b, o, rfl, hcW, hcL⟩ := HWA.out _ _ hg.rd
  rw [HM.out] at hcW
  have HCL := Aside.mk hcL
  have hbl : b < w1.heap.size := World.block_lt_of_cell? w1 _ hcW
  have k1 : Keep w w1 := (by ((repeat (first | (with_reducible assumption) | ((with_reducible refine Keep.setCell ?_ ?_ _); rotate_left; focus (first | omega | (simp; done) | (simp; omega))) | (with_reducible refine Keep.alloc ?_ _) | (with_reducible refine Keep.drewN ?_ _) | (with_reducible refine Keep.drew ?_) | (with_reducible exact Keep.refl _) | refine Keep.trans ?_ (by with_reducible assumption) | exact Keep.refl _ | assumption))))
  have z1 := k1.size
  clear hk1 hsp HWA ho hg hcL
  generalize lnW s = W0 at *
  go_wp2_with fail
  go_loopg [5, 6, 7] m (fun k v5 v6 v7 wr => ∃ (i : Nat) (q : Bool) (D : List Cd), i + k = m ∧ v7 = .int .i64 i ∧ v6 = .bool q ∧ RdRel s q D i ∧ wr.ownsRow w1.heap.size 34 3 v5 D.length (cds D) ∧ Keep w1 wr)
  case atStart => exact ⟨0, _, [], by omega, rfl, rfl, HST.out, own_emptyC w1 w1.heap.size 34 3 (Nat.le_refl _), (by ((repeat (first | (with_reducible assumption) | ((with_reducible refine Keep.setCell ?_ ?_ _); rotate_left; focus (first | omega | (simp; done) | (simp; omega))) | (with_reducible refine Keep.alloc ?_ _) | (with_reducible refine Keep.drewN ?_ _) | (with_reducible refine Keep.drew ?_) | (with_reducible exact Keep.refl _) | refine Keep.trans ?_ (by with_reducible assumption) | exact Keep.refl _ | assumption))))⟩
  case round =>
    obtain ⟨i, q, D, hi, rfl, rfl, hrd, hown, hk⟩ := hrel
    have hDl := hrd.len
    have HR := Aside.mk hrd
    have HO := Aside.mk hown
    have kw : Keep w wr := k1.trans hk
    clear hrd hown HST hcW hbl
    cases q
    · obtain ⟨rfl, rfl⟩ := HBAD.out (HN.out D i HR.out)
      have zr := kw.size
      have HE := Aside.mk (own_emptyC wr w.heap.size 34 3 zr)
      clear hDl HR HO HNX HFN HN HCL hsz
      by_cases him : i < m
      all_goals
        go_wp2
        go_ret2; exact ⟨_, rfl, HE.out, (by ((repeat (first | (with_reducible assumption) | ((with_reducible refine Keep.setCell ?_ ?_ _); rotate_left; focus (first | omega | (simp; done) | (simp; omega))) | (with_reducible refine Keep.alloc ?_ _) | (with_reducible refine Keep.drewN ?_ _) | (with_reducible refine Keep.drew ?_) | (with_reducible exact Keep.refl _) | refine Keep.trans ?_ (by with_reducible assumption) | exact Keep.refl _ | assumption))))⟩
    · by_cases hlt : i < m
      · have hlt2 : i < (lnL s).length := by rw [HM.out]; exact hlt
        have p1 := hk.cell (HCL.out i hlt2)
        have hx := hsz.out i hlt2
        have hNX := Aside.mk (fun n a b h => HNX.out D i n a b HR.out hlt2 h)
        have hD2 : D.length ≤ i := by omega
        generalize (lnL s)[i] = x at *
        clear hDl hlt2
        (go_wp2_with fail); (go_at_call 10); (refine (spec_l01ReadCard x _ (by omega)).mono ?_); rintro e w3 ⟨nn, na, nb, rfl, hr, hk3⟩
        have k3 : Keep w1 w3 := (by ((repeat (first | (with_reducible assumption) | ((with_reducible refine Keep.setCell ?_ ?_ _); rotate_left; focus (first | omega | (simp; done) | (simp; omega))) | (with_reducible refine Keep.alloc ?_ _) | (with_reducible refine Keep.drewN ?_ _) | (with_reducible refine Keep.drew ?_) | (with_reducible exact Keep.refl _) | refine Keep.trans ?_ (by with_reducible assumption) | exact Keep.refl _ | assumption))))
        have HO3 := Aside.mk (own_keep HO.out hk3)
        have HR2 := Aside.mk (hNX.out nn na nb hr)
        have z3 := k3.size
        clear hk3 hk p1 HO hr hNX HR
        generalize rcO x = r at *
        have hsize : ((w3.alloc (.cells #[.string nn, .int .u64 (U na), .int .u64 (U nb)] 34)).alloc (.cells #[.string nn, .int .u64 (U na), .int .u64 (U nb)] 34)).heap.size = w3.heap.size + 1 + 1 := by simp
        go_wp2_with (at_builtin; refine wpList_append_own _ rfl _ _ 22 rfl w1.heap.size 34 i0 (.agg #[.string ByteArray.empty, .int .u64 0, .int .u64 0]) 3 32 Tryz.underlying22 hi0 hz0 hz1 hz2 rfl (by decide) _ _ _ rfl (own_keep HO3.out (((Keep.refl _).alloc _).alloc _)) ⟨w3.heap.size + 1, 0, none⟩ 1 1 [.string nn, .int .u64 (U na), .int .u64 (U nb)] rfl rfl ?c1 ?c2 ?c3 ?c4 ?c5 ?_)
        case c1 => exact World.news_of_block (Bx.new1 w3 _ #[.string nn, .int .u64 (U na), .int .u64 (U nb)] 34)
        case c2 => intro u hu; simp at hu; rcases hu with rfl | rfl | rfl <;> rfl
        case c3 => unfold maxLen; omega
        case c4 => omega
        case c5 => simp; omega
        · intro v' w4 hown4 hgr _
          have k4 : Keep w1 w4 := ((k3.alloc _).alloc _).grown hgr (fun k hk => (HO3.out.lt k hk).1)
          have HO4 : Aside (w4.ownsRow w1.heap.size 34 3 v' (D ++ [(⟨nn, na, nb⟩ : Cd)]).length (cds (D ++ [(⟨nn, na, nb⟩ : Cd)]))) := Aside.mk (by
            rw [cds_app, List.length_append]; exact hown4)
          clear hown4 hgr HO3
          go_wp2
          go_roundg (m - (i + 1))
          case measure => omega
          case rel => exact ⟨i + 1, r, D ++ [⟨nn, na, nb⟩], by omega, by go_num, rfl, HR2.out, HO4.out, k4⟩
      · have him : i = m := by omega
        have hrd := HR.out
        rw [him, ← HM.out] at hrd
        obtain ⟨e1, e2⟩ := HFN.out D hrd
        subst him
        have hdk : Aside (D.length ≤ 1048577) := Aside.mk (by omega)
        have HSZ2 := Aside.mk (show CSz D by rw [e1]; exact HSZ.out)
        have HGD := Aside.mk (fun (h : K = true) => (⟨(HGOOD.out h).1.trans e1.symm, (HGOOD.out h).2⟩ : R = D ∧ E = 0))
        have HKD := Aside.mk (show K = dkB D by rw [e2, e1])
        have HG := Aside.mk (Own.new HO.out)
        obtain ⟨A, c2, rfl⟩ := HG.out.form
        have hid := Aside.mk (fun W h => spec_l02Ok A D c2 W (by have := hdk.out; omega) HSZ2.out h)
        rw [← HKD.out] at hid
        have HO2 := Aside.mk (own_base HO.out z1)
        have HRd := Aside.mk HG.out.rd
        clear e1 e2 hrd HG HKD HSZ2 HSZ HGOOD HFN HNX HN HM HR HO hsz HLL HCL hdk hDl
        (go_wp2_with fail); (go_at_call 11); (refine (hid.out _ HRd.out).mono ?_); rintro e w5 ⟨rfl, hk5⟩
        have k5 : Keep w w5 := kw.trans hk5
        have z5 := k5.size
        have HO5 := Aside.mk (own_keep HO2.out hk5)
        have HE := Aside.mk (own_emptyC w5 w.heap.size 34 3 z5)
        clear hid HO2 HRd hk5
        cases K
        · obtain ⟨rfl, rfl⟩ := HBAD.out rfl
          go_wp2
          go_ret2; exact ⟨_, rfl, HE.out, (by ((repeat (first | (with_reducible assumption) | ((with_reducible refine Keep.setCell ?_ ?_ _); rotate_left; focus (first | omega | (simp; done) | (simp; omega))) | (with_reducible refine Keep.alloc ?_ _) | (with_reducible refine Keep.drewN ?_ _) | (with_reducible refine Keep.drew ?_) | (with_reducible exact Keep.refl _) | refine Keep.trans ?_ (by with_reducible assumption) | exact Keep.refl _ | assumption))))⟩
        · obtain ⟨rfl, rfl⟩ := HGD.out rfl
          go_wp2
          go_ret2; exact ⟨_, rfl, HO5.out, (by ((repeat (first | (with_reducible assumption) | ((with_reducible refine Keep.setCell ?_ ?_ _); rotate_left; focus (first | omega | (simp; done) | (simp; omega))) | (with_reducible refine Keep.alloc ?_ _) | (with_reducible refine Keep.drewN ?_ _) | (with_reducible refine Keep.drew ?_) | (with_reducible exact Keep.refl _) | refine Keep.trans ?_ (by with_reducible assumption) | exact Keep.refl _ | assumption))))⟩
end Go.Proofs.YtagldpbmadfokaaGreatDoor

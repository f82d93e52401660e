/- Codes of values: plain facts. -/
import Derived.Test.YtpmilcfppcmodaaDoorN5
import Derived.Test.YtpmilcfppcmodaaDoorPop
import Derived.Test.YtpmilcfppcmodaaDoorM5
import Derived.Test.YtpmilcfppcmodaaDoorAu
set_option linter.unusedVariables false
set_option linter.unusedSimpArgs false
namespace Go.Proofs.YtpmilcfppcmodaaDoor
open Go.RowKit
/-- The notches of a digit, as a number. -/
def dcode (k d : Int) : Int := if k = 2 then ([24, 20, 18, 17, 12, 10, 9, 6, 5, 3] : List Int).getD d.toNat 0 else ([12, 1, 2, 3, 4, 5, 6, 8, 9, 10] : List Int).getD d.toNat 0
/-- The notches of a digit, as a list. -/
def dhs (k d : Int) : List Int := if k = 1 then ([[0, 1], [3], [2], [2, 3], [1], [1, 3], [1, 2], [0], [0, 3], [0, 2]] : List (List Int)).getD d.toNat []
  else ([[0, 1], [0, 2], [0, 3], [0, 4], [1, 2], [1, 3], [1, 4], [2, 3], [2, 4], [3, 4]] : List (List Int)).getD d.toNat []
def wdt (k : Int) : Int := if k = 2 then 5 else 4
def ntB (h b : Int) (k : Nat) : Bool := decide (b / pw 2 (h - 1 - k).toNat % 2 = 1)
def nLo (a : Wd) (p h b : Int) : Nat → Wd
  | 0 => a
  | k + 1 => cond (ntB h b k) (nLo a p h b k ||| bitLo (p + k)) (nLo a p h b k)
def nHi (a : Wd) (p h b : Int) : Nat → Wd
  | 0 => a
  | k + 1 => cond (ntB h b k) (nHi a p h b k ||| bitHi (p + k)) (nHi a p h b k)
theorem nLo_yes {a : Wd} {p h b : Int} {k : Nat} (hb : ntB h b k = true) : nLo a p h b (k + 1) = nLo a p h b k ||| bitLo (p + k) := by simp [nLo, hb]
theorem nHi_yes {a : Wd} {p h b : Int} {k : Nat} (hb : ntB h b k = true) : nHi a p h b (k + 1) = nHi a p h b k ||| bitHi (p + k) := by simp [nHi, hb]
theorem nLo_no {a : Wd} {p h b : Int} {k : Nat} (hb : ntB h b k = false) : nLo a p h b (k + 1) = nLo a p h b k := by simp [nLo, hb]
theorem nHi_no {a : Wd} {p h b : Int} {k : Nat} (hb : ntB h b k = false) : nHi a p h b (k + 1) = nHi a p h b k := by simp [nHi, hb]
theorem nLo_zero (a : Wd) (p h b : Int) : nLo a p h b 0 = a := rfl
theorem nHi_zero (a : Wd) (p h b : Int) : nHi a p h b 0 = a := rfl
theorem nLo_or (a : Wd) (p h b : Int) (n : Nat) : nLo a p h b n = a ||| nLo 0#64 p h b n := by
  induction n with
  | zero => simp [nLo]
  | succ n ih =>
    cases hb : ntB h b n
    · rw [nLo_no hb, nLo_no hb, ih]
    · rw [nLo_yes hb, nLo_yes hb, ih, BitVec.or_assoc]
theorem nHi_or (a : Wd) (p h b : Int) (n : Nat) : nHi a p h b n = a ||| nHi 0#64 p h b n := by
  induction n with
  | zero => simp [nHi]
  | succ n ih =>
    cases hb : ntB h b n
    · rw [nHi_no hb, nHi_no hb, ih]
    · rw [nHi_yes hb, nHi_yes hb, ih, BitVec.or_assoc]
/-- The digits of a value, the highest one first. -/
def dgt (v sz : Int) (i : Nat) : Int := v / pw 10 (sz - 1 - i).toNat % 10
def eLo (k st sz v : Int) : Nat → Wd
  | 0 => 0#64
  | i + 1 => nLo (eLo k st sz v i) (st + wdt k * i) (wdt k) (dcode k (dgt v sz i)) (wdt k).toNat
def eHi (k st sz v : Int) : Nat → Wd
  | 0 => 0#64
  | i + 1 => nHi (eHi k st sz v i) (st + wdt k * i) (wdt k) (dcode k (dgt v sz i)) (wdt k).toNat
theorem eLo_succ (k st sz v : Int) (i : Nat) : eLo k st sz v (i + 1) = nLo (eLo k st sz v i) (st + wdt k * i) (wdt k) (dcode k (dgt v sz i)) (wdt k).toNat := rfl
theorem eHi_succ (k st sz v : Int) (i : Nat) : eHi k st sz v (i + 1) = nHi (eHi k st sz v i) (st + wdt k * i) (wdt k) (dcode k (dgt v sz i)) (wdt k).toNat := rfl
theorem eLo_zero (k st sz v : Int) : eLo k st sz v 0 = 0#64 := rfl
theorem eHi_zero (k st sz v : Int) : eHi k st sz v 0 = 0#64 := rfl
def binLo (st sz v : Int) : Wd := nLo 0#64 st sz v sz.toNat
def binHi (st sz v : Int) : Wd := nHi 0#64 st sz v sz.toNat
def evenB (a b : Wd) : Bool := decide ((pc a + pc b) % 2 = 0)
def encLo (k st sz v : Int) : Wd := if k = 0 then bitLo (st + v) else if k = 3 then cond (evenB (binLo st sz v) (binHi st sz v)) (binLo st sz v ||| bitLo (st + sz)) (binLo st sz v) else eLo k st sz v sz.toNat
def encHi (k st sz v : Int) : Wd := if k = 0 then bitHi (st + v) else if k = 3 then cond (evenB (binLo st sz v) (binHi st sz v)) (binHi st sz v ||| bitHi (st + sz)) (binHi st sz v) else eHi k st sz v sz.toNat
theorem dgt_range (v sz : Int) (i : Nat) : 0 ≤ dgt v sz i ∧ dgt v sz i < 10 := by unfold dgt; omega
theorem ten {d : Int} (h : 0 ≤ d ∧ d < 10) : d = 0 ∨ d = 1 ∨ d = 2 ∨ d = 3 ∨ d = 4 ∨ d = 5 ∨ d = 6 ∨ d = 7 ∨ d = 8 ∨ d = 9 := by omega
theorem dcode_range {k d : Int} (hk : k = 1 ∨ k = 2) (h : 0 ≤ d ∧ d < 10) : 0 ≤ dcode k d ∧ dcode k d ≤ 24 := by
  rcases hk with rfl | rfl <;> rcases ten h with rfl | rfl | rfl | rfl | rfl | rfl | rfl | rfl | rfl | rfl <;> decide
/-- A list's holes from a place on. -/
def atP (p : Int) (l : List Int) : List Int := l.map (p + ·)
theorem nLo_dhs (a : Wd) (p : Int) {k d : Int} (hk : k = 1 ∨ k = 2) (h : 0 ≤ d ∧ d < 10) : orLo a (atP p (dhs k d)) = nLo a p (wdt k) (dcode k d) (wdt k).toNat := by
  have p2 : pw 2 0 = 1 ∧ pw 2 1 = 2 ∧ pw 2 2 = 4 ∧ pw 2 3 = 8 ∧ pw 2 4 = 16 := by decide
  rcases hk with rfl | rfl <;> rcases ten h with rfl | rfl | rfl | rfl | rfl | rfl | rfl | rfl | rfl | rfl <;> simp [orLo, atP, dhs, wdt, dcode, nLo, ntB, p2]
theorem nHi_dhs (a : Wd) (p : Int) {k d : Int} (hk : k = 1 ∨ k = 2) (h : 0 ≤ d ∧ d < 10) : orHi a (atP p (dhs k d)) = nHi a p (wdt k) (dcode k d) (wdt k).toNat := by
  have p2 : pw 2 0 = 1 ∧ pw 2 1 = 2 ∧ pw 2 2 = 4 ∧ pw 2 3 = 8 ∧ pw 2 4 = 16 := by decide
  rcases hk with rfl | rfl <;> rcases ten h with rfl | rfl | rfl | rfl | rfl | rfl | rfl | rfl | rfl | rfl <;> simp [orHi, atP, dhs, wdt, dcode, nHi, ntB, p2]
/-- One digit more from behind: what is still to come joins it. -/
theorem eLo_back {n : Nat} {k st sz v : Int} {m : Wd} {r : Nat} (h : m ||| eLo k st sz v (r + 1) = eLo k st sz v n) :
    nLo m (st + wdt k * r) (wdt k) (dcode k (dgt v sz r)) (wdt k).toNat ||| eLo k st sz v r = eLo k st sz v n := by
  rw [← h, eLo_succ, nLo_or m, nLo_or (eLo k st sz v r)]
  rw [BitVec.or_assoc, BitVec.or_comm (nLo 0#64 _ _ _ _) (eLo k st sz v r)]
theorem eHi_back {n : Nat} {k st sz v : Int} {m : Wd} {r : Nat} (h : m ||| eHi k st sz v (r + 1) = eHi k st sz v n) :
    nHi m (st + wdt k * r) (wdt k) (dcode k (dgt v sz r)) (wdt k).toNat ||| eHi k st sz v r = eHi k st sz v n := by
  rw [← h, eHi_succ, nHi_or m, nHi_or (eHi k st sz v r)]
  rw [BitVec.or_assoc, BitVec.or_comm (nHi 0#64 _ _ _ _) (eHi k st sz v r)]
end Go.Proofs.YtpmilcfppcmodaaDoor

set_option linter.unusedVariables false
set_option linter.unusedSimpArgs false
namespace Go.Proofs.YtpmilcfppcmodaaDoor
open Go.RowKit
set_option maxHeartbeats 2000000
theorem pw2_le {n : Nat} (h : n ≤ 12) : pw 2 n ≤ 4096 := by
  have a := pw_mono (b := 2) (by decide) h
  have c : pw 2 12 = 4096 := by decide
  omega
theorem pw10_le {n : Nat} (h : n ≤ 4) : pw 10 n ≤ 10000 := by
  have a := pw_mono (b := 10) (by decide) h
  have c : pw 10 4 = 10000 := by decide
  omega
theorem nt_tmod {h bits : Int} {i : Nat} (b0 : 0 ≤ bits) : (bits / pw 2 (h - 1 - i).toNat).tmod 2 = cond (ntB h bits i) 1 0 := by
  have pp := pw_pos (b := 2) (by decide) (h - 1 - i).toNat
  have h0 : 0 ≤ bits / pw 2 (h - 1 - i).toNat := Int.ediv_nonneg b0 (by omega)
  rw [Int.tmod_eq_emod_of_nonneg h0]
  unfold ntB
  generalize bits / pw 2 (h - 1 - i).toNat = q at *
  by_cases e : q % 2 = 1
  · simp [e]
  · simp [e]; omega
theorem spec_l01Notch (a b : Wd) (p h bits : Int) (w : World) (p0 : 0 ≤ p) (h0 : 0 ≤ h) (h1 : h ≤ 12) (h2 : p + h ≤ 96) (b0 : 0 ≤ bits) (b1 : bits ≤ 1000000) :
    Calls Tryd.prog 153 #[.agg #[.int .u64 (U a), .int .u64 (U b)], .int .i64 p, .int .i64 h, .int .i64 bits] w fun e w' => e = .returned (.agg #[.int .u64 (U (nLo a p h bits h.toNat)), .int .u64 (U (nHi b p h bits h.toNat))]) ∧ Keep w w' := by
  go_enter Tryd.func153, Tryd.ntmps153
  go_wp2_with fail
  go_loopg [9] h.toNat (fun k s1 wr => ∃ i : Nat, i + k = h.toNat ∧ s1 = .int .i64 i ∧ Bx wr w.heap.size #[.int .u64 (U (nLo a p h bits i)), .int .u64 (U (nHi b p h bits i))] 33 ∧ Bx wr (w.heap.size + 1) #[.int .u64 0, .int .u64 0] 33 ∧ Keep w wr)
  case atStart => exact ⟨0, by omega, rfl, (Bx.new _ _ _).alloc _, Bx.new1 _ _ _ _, (by ((repeat (first | (with_reducible assumption) | ((with_reducible refine Keep.setCell ?_ ?_ _); rotate_left; focus (first | omega | (simp; done) | (simp; omega))) | (with_reducible refine Keep.alloc ?_ _) | (with_reducible refine Keep.drewN ?_ _) | (with_reducible refine Keep.drew ?_) | (with_reducible exact Keep.refl _) | refine Keep.trans ?_ (by with_reducible assumption) | exact Keep.refl _ | assumption))))⟩
  case round =>
    obtain ⟨i, hi, rfl, hA, hB, hk⟩ := hrel
    by_cases hlt : (i : Int) < h
    · have e1 : IntKind.i64.wrap (h - 1) = h - 1 := wrapI64 ⟨by omega, by omega⟩
      have e2 : IntKind.i64.wrap (h - 1 - i) = h - 1 - i := wrapI64 ⟨by omega, by omega⟩
      have pp := pw_pos (b := 2) (by decide) (h - 1 - i).toNat
      have pq := pw2_le (n := (h - 1 - i).toNat) (by omega)
      (go_wp2_with fail); (go_at_call 157); (refine (spec_l01Power 2 (h - 1 - i) _ (by decide) (by decide) (by omega) (by omega) (by omega)).mono ?_); rintro e w1 ⟨rfl, hk1⟩
      have hA1 := hA.keep hk1
      have hB1 := hB.keep hk1
      have k1 : Keep w w1 := (by ((repeat (first | (with_reducible assumption) | ((with_reducible refine Keep.setCell ?_ ?_ _); rotate_left; focus (first | omega | (simp; done) | (simp; omega))) | (with_reducible refine Keep.alloc ?_ _) | (with_reducible refine Keep.drewN ?_ _) | (with_reducible refine Keep.drew ?_) | (with_reducible exact Keep.refl _) | refine Keep.trans ?_ (by with_reducible assumption) | exact Keep.refl _ | assumption))))
      clear hA hB hk1 hk
      have hc := nt_tmod (h := h) (i := i) b0
      generalize hP : pw 2 (h - 1 - i).toNat = P at *
      clear hP
      cases hb : ntB h bits i <;> rw [hb] at hc <;> simp only [cond_true, cond_false] at hc
      · have HA := Aside.mk hA1
        have HB := Aside.mk hB1
        have HL := Aside.mk (nLo_no (a := a) (p := p) hb)
        have HH := Aside.mk (nHi_no (a := b) (p := p) hb)
        clear hA1 hB1 hb
        go_wp2
        go_roundg (h.toNat - (i + 1))
        case measure => omega
        case rel => exact ⟨i + 1, by omega, by go_num, by rw [HL.out, HH.out]; exact HA.out, HB.out, (by ((repeat (first | (with_reducible assumption) | ((with_reducible refine Keep.setCell ?_ ?_ _); rotate_left; focus (first | omega | (simp; done) | (simp; omega))) | (with_reducible refine Keep.alloc ?_ _) | (with_reducible refine Keep.drewN ?_ _) | (with_reducible refine Keep.drew ?_) | (with_reducible exact Keep.refl _) | refine Keep.trans ?_ (by with_reducible assumption) | exact Keep.refl _ | assumption))))⟩
      · have e3 : IntKind.i64.wrap (p + i) = p + i := wrapI64 ⟨by omega, by omega⟩
        have HL := Aside.mk (nLo_yes (a := a) (p := p) hb)
        have HH := Aside.mk (nHi_yes (a := b) (p := p) hb)
        clear hb
        go_wp2_with fail
        apply wp_region_mono 6 [Fx _, Fx _, Fx _, Fx _, Fx _, Fx _] (by kernel_rfl) (by kernel_rfl) (mono_of ⟨Fx.mono _, Fx.mono _, Fx.mono _, Fx.mono _, Fx.mono _, Fx.mono _, trivial⟩) ?st5 ?tl5
        case st5 =>
          simp only [List.take_succ_cons, List.take_zero, List.drop_succ_cons, List.drop_zero, putAll, Act.put, List.setIfInBounds_toArray, List.set_cons_succ, List.set_cons_zero, Nat.zero_add, Nat.reduceAdd]
          refine steps_cons ?_ (steps_cons ?_ (steps_cons ?_ (steps_cons ?_ (steps_cons ?_ (steps_cons ?_ steps_nil)))))
          all_goals
            intro v w2 hk hd
            obtain ⟨hA1_0, hA1_1, hA1_2, hA1_3, hA1_4⟩ := (hA1.keep hk).two
            obtain ⟨hB1_0, hB1_1, hB1_2, hB1_3, hB1_4⟩ := (hB1.keep hk).two
            have hkz := hk.size
            simp [DepsOf, factAt, Fx, Region.binds] at hd
            simp only [factAt, List.getD_cons_zero, List.getD_cons_succ]
            refine Gives.mk ?_
            go_simp
            first | exact ⟨Keep.refl _, Fx.self _ _⟩ | exact ⟨(Keep.refl _).alloc _, _, rfl, Bx.new _ _ _, by first | omega | (simp; omega)⟩ | (go_at_call 123; exact gives_fx (spec_l01Bit _ (by omega) (by omega) _)) | (go_at_call 120; exact gives_fx (spec_l01Join _ _ _ _ _))
        simp only [List.take_succ_cons, List.take_zero, List.drop_succ_cons, List.drop_zero, putAll, Act.put, List.setIfInBounds_toArray, List.set_cons_succ, List.set_cons_zero, Nat.zero_add, Nat.reduceAdd]
        intro v w2 hk hh
        obtain ⟨hA1_0, hA1_1, hA1_2, hA1_3, hA1_4⟩ := (hA1.keep hk).two
        obtain ⟨hB1_0, hB1_1, hB1_2, hB1_3, hB1_4⟩ := (hB1.keep hk).two
        have hkz := hk.size
        simp only [Held, factAt, List.getD_cons_zero, List.getD_cons_succ, Fx, true_and] at hh
        obtain ⟨⟨⟨⟨⟨v_0, v_1⟩, v_2⟩, v_3⟩, v_4⟩, v_5⟩ := hh
        simp only [v_0, v_1, v_2, v_3, v_4, v_5]
        have HA := Aside.mk (hA1.keep hk)
        have HB := Aside.mk (hB1.keep hk)
        clear hA1 hB1
        go_wp2
        go_roundg (h.toNat - (i + 1))
        case measure => omega
        case rel => exact ⟨i + 1, by omega, by go_num, by rw [HL.out, HH.out]; exact (HA.out.set _).set _, (HB.out.set' (by simp) _).set' (by simp) _, (by ((repeat (first | (with_reducible assumption) | ((with_reducible refine Keep.setCell ?_ ?_ _); rotate_left; focus (first | omega | (simp; done) | (simp; omega))) | (with_reducible refine Keep.alloc ?_ _) | (with_reducible refine Keep.drewN ?_ _) | (with_reducible refine Keep.drew ?_) | (with_reducible exact Keep.refl _) | refine Keep.trans ?_ (by with_reducible assumption) | exact Keep.refl _ | assumption))))⟩
    · obtain rfl : i = h.toNat := by omega
      have hAs := hA.two
      have hBs := hB.two
      go_wp2
      (apply bodyPost_ret; rotate_left; rfl; exact ⟨rfl, (by ((repeat (first | (with_reducible assumption) | ((with_reducible refine Keep.setCell ?_ ?_ _); rotate_left; focus (first | omega | (simp; done) | (simp; omega))) | (with_reducible refine Keep.alloc ?_ _) | (with_reducible refine Keep.drewN ?_ _) | (with_reducible refine Keep.drew ?_) | (with_reducible exact Keep.refl _) | refine Keep.trans ?_ (by with_reducible assumption) | exact Keep.refl _ | assumption))))⟩; simp [results, Tryd.results153, go_sem, U_zero, *])
def sums : List Int := [12, 1, 2, 3, 4, 5, 6, 8, 9, 10]
def pairsL : List Int := [24, 20, 18, 17, 12, 10, 9, 6, 5, 3]
theorem spec_l01Sums (w : World) : Calls Tryd.prog 155 #[] w fun e w' => ∃ g, e = .returned (.slice (some ⟨g, 0, none⟩) 10 10) ∧ Bx w' g (ints sums).toArray 2 ∧ w.heap.size ≤ g ∧ Keep w w' := by
  go_enter Tryd.func155, Tryd.ntmps155
  go_wp2
  go_ret; exact ⟨w.heap.size, rfl, Bx.new _ _ _, Nat.le_refl _, (by ((repeat (first | (with_reducible assumption) | ((with_reducible refine Keep.setCell ?_ ?_ _); rotate_left; focus (first | omega | (simp; done) | (simp; omega))) | (with_reducible refine Keep.alloc ?_ _) | (with_reducible refine Keep.drewN ?_ _) | (with_reducible refine Keep.drew ?_) | (with_reducible exact Keep.refl _) | refine Keep.trans ?_ (by with_reducible assumption) | exact Keep.refl _ | assumption))))⟩
theorem spec_l01Pairs (w : World) : Calls Tryd.prog 156 #[] w fun e w' => ∃ g, e = .returned (.slice (some ⟨g, 0, none⟩) 10 10) ∧ Bx w' g (ints pairsL).toArray 2 ∧ w.heap.size ≤ g ∧ Keep w w' := by
  go_enter Tryd.func156, Tryd.ntmps156
  go_wp2
  go_ret; exact ⟨w.heap.size, rfl, Bx.new _ _ _, Nat.le_refl _, (by ((repeat (first | (with_reducible assumption) | ((with_reducible refine Keep.setCell ?_ ?_ _); rotate_left; focus (first | omega | (simp; done) | (simp; omega))) | (with_reducible refine Keep.alloc ?_ _) | (with_reducible refine Keep.drewN ?_ _) | (with_reducible refine Keep.drew ?_) | (with_reducible exact Keep.refl _) | refine Keep.trans ?_ (by with_reducible assumption) | exact Keep.refl _ | assumption))))⟩
theorem dcode_sums {d : Int} (h : 0 ≤ d ∧ d < 10) : (ints sums).toArray[d.toNat]? = some (.int .i64 (dcode 1 d)) := by
  rcases ten h with rfl | rfl | rfl | rfl | rfl | rfl | rfl | rfl | rfl | rfl <;> rfl
theorem dcode_pairs {d : Int} (h : 0 ≤ d ∧ d < 10) : (ints pairsL).toArray[d.toNat]? = some (.int .i64 (dcode 2 d)) := by
  rcases ten h with rfl | rfl | rfl | rfl | rfl | rfl | rfl | rfl | rfl | rfl <;> rfl
end Go.Proofs.YtpmilcfppcmodaaDoor

set_option linter.unusedVariables false
set_option linter.unusedSimpArgs false
namespace Go.Proofs.YtpmilcfppcmodaaDoor
open Go.RowKit
set_option maxHeartbeats 4000000
theorem dg_tmod {v sz : Int} {i : Nat} (h : 0 ≤ v) : (v / pw 10 (sz - 1 - i).toNat).tmod 10 = dgt v sz i := by
  have pp := pw_pos (b := 10) (by decide) (sz - 1 - i).toNat
  exact Int.tmod_eq_emod_of_nonneg (Int.ediv_nonneg h (by omega))
theorem even_cond (a b : Wd) : (((pc a : Int) + (pc b : Int)).tmod 2) = cond (evenB a b) 0 1 := by
  rw [show (pc a : Int) + (pc b : Int) = ((pc a + pc b : Nat) : Int) by omega, Int.tmod_eq_emod_of_nonneg (by omega)]
  unfold evenB
  by_cases h : (pc a + pc b) % 2 = 0
  · simp [h]; omega
  · simp [h]; omega
theorem encLo_0 {st sz v : Int} : encLo 0 st sz v = bitLo (st + v) := by simp [encLo]
theorem encHi_0 {st sz v : Int} : encHi 0 st sz v = bitHi (st + v) := by simp [encHi]
theorem encLo_3 {st sz v : Int} : encLo 3 st sz v = cond (evenB (binLo st sz v) (binHi st sz v)) (binLo st sz v ||| bitLo (st + sz)) (binLo st sz v) := by simp [encLo]
theorem encHi_3 {st sz v : Int} : encHi 3 st sz v = cond (evenB (binLo st sz v) (binHi st sz v)) (binHi st sz v ||| bitHi (st + sz)) (binHi st sz v) := by simp [encHi]
theorem encLo_d {k st sz v : Int} (h : k = 1 ∨ k = 2) : encLo k st sz v = eLo k st sz v sz.toNat := by rcases h with rfl | rfl <;> simp [encLo]
theorem encHi_d {k st sz v : Int} (h : k = 1 ∨ k = 2) : encHi k st sz v = eHi k st sz v sz.toNat := by rcases h with rfl | rfl <;> simp [encHi]
theorem valB {k sz v : Int} (hz : okSz k sz) (hv : v ≤ mostN k sz) : v ≤ 9999 := by have := mostN_bound hz; omega
theorem spec_l01Code_0 (s : ByteArray) (st sz v : Int) (g o : Nat) (w : World) (hz : 1 ≤ sz ∧ sz ≤ 24) (h0 : 0 ≤ st) (h2 : st + sz ≤ 96) (v0 : 0 ≤ v) (v1 : v < sz)
    (c0 : w.cell? ⟨g, o, none⟩ = some (.string s)) (c1 : w.cell? ⟨g, o + 1, none⟩ = some (.int .i8 0)) (c2 : w.cell? ⟨g, o + 2, none⟩ = some (.int .i16 st)) (c3 : w.cell? ⟨g, o + 3, none⟩ = some (.int .i16 sz)) :
    Calls Tryd.prog 121 #[.pointer (some ⟨g, o, none⟩), .int .i64 v] w fun e w' => e = .returned (.agg #[.int .u64 (U (bitLo (st + v))), .int .u64 (U (bitHi (st + v)))]) ∧ Keep w w' := by
  have gz : g < w.heap.size := World.block_lt_of_cell? w _ c0
  have e1 : IntKind.i64.wrap st = st := wrapI64 ⟨by omega, by omega⟩
  have e2 : IntKind.i64.wrap sz = sz := wrapI64 ⟨by omega, by omega⟩
  have e3 : IntKind.i64.wrap (st + v) = st + v := wrapI64 ⟨by omega, by omega⟩
  go_enter Tryd.func121, Tryd.ntmps121
  (go_wp2_with fail); (go_at_call 123); (refine (spec_l01Bit _ (by omega) (by omega) _).mono ?_); rintro e w1 ⟨rfl, hk1⟩
  have hR := ((Bx.new w #[.int .u64 0, .int .u64 0] 33).alloc (Obj.cells #[.int .u64 0, .int .u64 0] 33)).keep hk1
  have k1 : Keep w w1 := (by ((repeat (first | (with_reducible assumption) | ((with_reducible refine Keep.setCell ?_ ?_ _); rotate_left; focus (first | omega | (simp; done) | (simp; omega))) | (with_reducible refine Keep.alloc ?_ _) | (with_reducible refine Keep.drewN ?_ _) | (with_reducible refine Keep.drew ?_) | (with_reducible exact Keep.refl _) | refine Keep.trans ?_ (by with_reducible assumption) | exact Keep.refl _ | assumption))))
  clear hk1 c0 c1 c2 c3
  have hRs := hR.two
  go_wp2
  (apply bodyPost_ret; rotate_left; rfl; exact ⟨rfl, (by ((repeat (first | (with_reducible assumption) | ((with_reducible refine Keep.setCell ?_ ?_ _); rotate_left; focus (first | omega | (simp; done) | (simp; omega))) | (with_reducible refine Keep.alloc ?_ _) | (with_reducible refine Keep.drewN ?_ _) | (with_reducible refine Keep.drew ?_) | (with_reducible exact Keep.refl _) | refine Keep.trans ?_ (by with_reducible assumption) | exact Keep.refl _ | assumption))))⟩; simp [results, Tryd.results121, go_sem, U_zero, *])
theorem spec_l01Code_3 (s : ByteArray) (st sz v : Int) (g o : Nat) (w : World) (hz : 1 ≤ sz ∧ sz ≤ 12) (h0 : 0 ≤ st) (h2 : st + sz + 1 ≤ 96) (v0 : 0 ≤ v) (v1 : v ≤ 9999)
    (c0 : w.cell? ⟨g, o, none⟩ = some (.string s)) (c1 : w.cell? ⟨g, o + 1, none⟩ = some (.int .i8 3)) (c2 : w.cell? ⟨g, o + 2, none⟩ = some (.int .i16 st)) (c3 : w.cell? ⟨g, o + 3, none⟩ = some (.int .i16 sz)) :
    Calls Tryd.prog 121 #[.pointer (some ⟨g, o, none⟩), .int .i64 v] w fun e w' => e = .returned (.agg #[.int .u64 (U (encLo 3 st sz v)), .int .u64 (U (encHi 3 st sz v))]) ∧ Keep w w' := by
  have gz : g < w.heap.size := World.block_lt_of_cell? w _ c0
  have e1 : IntKind.i64.wrap st = st := wrapI64 ⟨by omega, by omega⟩
  have e2 : IntKind.i64.wrap sz = sz := wrapI64 ⟨by omega, by omega⟩
  have e3 : IntKind.i64.wrap (st + sz) = st + sz := wrapI64 ⟨by omega, by omega⟩
  have hN := spec_l01Notch 0#64 0#64 st sz v
  have hc := even_cond (binLo st sz v) (binHi st sz v)
  rw [show nLo 0#64 st sz v sz.toNat = binLo st sz v from rfl, show nHi 0#64 st sz v sz.toNat = binHi st sz v from rfl] at hN
  rw [encLo_3, encHi_3]
  generalize binLo st sz v = a at *
  generalize binHi st sz v = b at *
  simp only [U_zero] at hN
  go_enter Tryd.func121, Tryd.ntmps121
  (go_wp2_with fail); (go_at_call 153); (refine (hN _ h0 (by omega) (by omega) (by omega) v0 (by omega)).mono ?_); rintro e w1 ⟨rfl, hk1⟩
  have hR1 := ((Bx.new w #[.int .u64 0, .int .u64 0] 33).alloc (Obj.cells #[.int .u64 0, .int .u64 0] 33)).keep hk1
  have hA1 := (Bx.new1 w (Obj.cells #[.int .u64 0, .int .u64 0] 33) #[.int .u64 0, .int .u64 0] 33).keep hk1
  have k1 : Keep w w1 := (by ((repeat (first | (with_reducible assumption) | ((with_reducible refine Keep.setCell ?_ ?_ _); rotate_left; focus (first | omega | (simp; done) | (simp; omega))) | (with_reducible refine Keep.alloc ?_ _) | (with_reducible refine Keep.drewN ?_ _) | (with_reducible refine Keep.drew ?_) | (with_reducible exact Keep.refl _) | refine Keep.trans ?_ (by with_reducible assumption) | exact Keep.refl _ | assumption))))
  clear hk1 c0 c1 c2 c3
  have hRs := hR1.two
  have hAs := hA1.two
  (go_wp2_with fail); (go_at_call 154); (refine (spec_CountHoles _ _ _).mono ?_); rintro e w2 ⟨rfl, hk2⟩
  have hR := ((hR1.set' (a := ⟨w.heap.size + 1, 0, none⟩) (by simp) (.int .u64 (U a))).set' (a := ⟨w.heap.size + 1, 1, none⟩) (by simp) (.int .u64 (U b))).keep hk2
  have hA : Bx w2 (w.heap.size + 1) #[.int .u64 (U a), .int .u64 (U b)] 33 := ((hA1.set (.int .u64 (U a))).set (.int .u64 (U b))).keep hk2
  have hW : Keep w w2 := (by ((repeat (first | (with_reducible assumption) | ((with_reducible refine Keep.setCell ?_ ?_ _); rotate_left; focus (first | omega | (simp; done) | (simp; omega))) | (with_reducible refine Keep.alloc ?_ _) | (with_reducible refine Keep.drewN ?_ _) | (with_reducible refine Keep.drew ?_) | (with_reducible exact Keep.refl _) | refine Keep.trans ?_ (by with_reducible assumption) | exact Keep.refl _ | assumption))))
  clear hk2 hRs hAs hR1 hA1 k1
  have hRs := hR.two
  have hAs := hA.two
  cases hb : evenB a b <;> rw [hb] at hc <;> simp only [cond_true, cond_false] at hc ⊢
  · go_wp2
    (apply bodyPost_ret; rotate_left; rfl; exact ⟨rfl, (by ((repeat (first | (with_reducible assumption) | ((with_reducible refine Keep.setCell ?_ ?_ _); rotate_left; focus (first | omega | (simp; done) | (simp; omega))) | (with_reducible refine Keep.alloc ?_ _) | (with_reducible refine Keep.drewN ?_ _) | (with_reducible refine Keep.drew ?_) | (with_reducible exact Keep.refl _) | refine Keep.trans ?_ (by with_reducible assumption) | exact Keep.refl _ | assumption))))⟩; simp [results, Tryd.results121, go_sem, U_zero, *])
  · go_wp2_with fail
    clear hAs hRs
    apply wp_region_mono 6 [Fx _, Fx _, Fx _, Fx _, Fx _, Fx _] (by kernel_rfl) (by kernel_rfl) (mono_of ⟨Fx.mono _, Fx.mono _, Fx.mono _, Fx.mono _, Fx.mono _, Fx.mono _, trivial⟩) ?st6 ?tl6
    case st6 =>
      simp only [List.take_succ_cons, List.take_zero, List.drop_succ_cons, List.drop_zero, putAll, Act.put, List.setIfInBounds_toArray, List.set_cons_succ, List.set_cons_zero, Nat.zero_add, Nat.reduceAdd]
      refine steps_cons ?_ (steps_cons ?_ (steps_cons ?_ (steps_cons ?_ (steps_cons ?_ (steps_cons ?_ steps_nil)))))
      all_goals
        intro v w2 hk hd
        obtain ⟨hR_0, hR_1, hR_2, hR_3, hR_4⟩ := (hR.keep hk).two
        obtain ⟨hA_0, hA_1, hA_2, hA_3, hA_4⟩ := (hA.keep hk).two
        have hkz := hk.size
        simp [DepsOf, factAt, Fx, Region.binds] at hd
        simp only [factAt, List.getD_cons_zero, List.getD_cons_succ]
        refine Gives.mk ?_
        go_simp
        first | exact ⟨Keep.refl _, Fx.self _ _⟩ | exact ⟨(Keep.refl _).alloc _, _, rfl, Bx.new _ _ _, by first | omega | (simp; omega)⟩ | (go_at_call 123; exact gives_fx (spec_l01Bit _ (by omega) (by omega) _)) | (go_at_call 120; exact gives_fx (spec_l01Join _ _ _ _ _))
    simp only [List.take_succ_cons, List.take_zero, List.drop_succ_cons, List.drop_zero, putAll, Act.put, List.setIfInBounds_toArray, List.set_cons_succ, List.set_cons_zero, Nat.zero_add, Nat.reduceAdd]
    intro v w2 hk hh
    obtain ⟨hR_0, hR_1, hR_2, hR_3, hR_4⟩ := (hR.keep hk).two
    obtain ⟨hA_0, hA_1, hA_2, hA_3, hA_4⟩ := (hA.keep hk).two
    have hkz := hk.size
    simp only [Held, factAt, List.getD_cons_zero, List.getD_cons_succ, Fx, true_and] at hh
    obtain ⟨⟨⟨⟨⟨v_0, v_1⟩, v_2⟩, v_3⟩, v_4⟩, v_5⟩ := hh
    simp only [v_0, v_1, v_2, v_3, v_4, v_5]
    go_wp2
    (apply bodyPost_ret; rotate_left; rfl; exact ⟨rfl, (by ((repeat (first | (with_reducible assumption) | ((with_reducible refine Keep.setCell ?_ ?_ _); rotate_left; focus (first | omega | (simp; done) | (simp; omega))) | (with_reducible refine Keep.alloc ?_ _) | (with_reducible refine Keep.drewN ?_ _) | (with_reducible refine Keep.drew ?_) | (with_reducible exact Keep.refl _) | refine Keep.trans ?_ (by with_reducible assumption) | exact Keep.refl _ | assumption))))⟩; simp [results, Tryd.results121, go_sem, U_zero, *])
theorem spec_l01Code_1 (s : ByteArray) (st sz v : Int) (g o : Nat) (w : World) (hz : 1 ≤ sz ∧ sz ≤ 4) (h0 : 0 ≤ st) (h2 : st + 4 * sz ≤ 96) (v0 : 0 ≤ v) (v1 : v ≤ 9999)
    (c0 : w.cell? ⟨g, o, none⟩ = some (.string s)) (c1 : w.cell? ⟨g, o + 1, none⟩ = some (.int .i8 1)) (c2 : w.cell? ⟨g, o + 2, none⟩ = some (.int .i16 st)) (c3 : w.cell? ⟨g, o + 3, none⟩ = some (.int .i16 sz)) :
    Calls Tryd.prog 121 #[.pointer (some ⟨g, o, none⟩), .int .i64 v] w fun e w' => e = .returned (.agg #[.int .u64 (U (eLo 1 st sz v sz.toNat)), .int .u64 (U (eHi 1 st sz v sz.toNat))]) ∧ Keep w w' := by
  have gz : g < w.heap.size := World.block_lt_of_cell? w _ c0
  have e1 : IntKind.i64.wrap st = st := wrapI64 ⟨by omega, by omega⟩
  have e2 : IntKind.i64.wrap sz = sz := wrapI64 ⟨by omega, by omega⟩
  go_enter Tryd.func121, Tryd.ntmps121
  (go_wp2_with fail); (go_at_call 155); (refine (spec_l01Sums _).mono ?_); rintro e w1 ⟨g1, rfl, hC1, hgs1, hk1⟩
  have hR1 := ((Bx.new w #[.int .u64 0, .int .u64 0] 33).alloc (Obj.cells #[.int .u64 0, .int .u64 0] 33)).keep hk1
  have hA1 := (Bx.new1 w (Obj.cells #[.int .u64 0, .int .u64 0] 33) #[.int .u64 0, .int .u64 0] 33).keep hk1
  have k1 : Keep w w1 := (by ((repeat (first | (with_reducible assumption) | ((with_reducible refine Keep.setCell ?_ ?_ _); rotate_left; focus (first | omega | (simp; done) | (simp; omega))) | (with_reducible refine Keep.alloc ?_ _) | (with_reducible refine Keep.drewN ?_ _) | (with_reducible refine Keep.drew ?_) | (with_reducible exact Keep.refl _) | refine Keep.trans ?_ (by with_reducible assumption) | exact Keep.refl _ | assumption))))
  have d0 := k1.cell c0
  have d1 := k1.cell c1
  have d2 := k1.cell c2
  have d3 := k1.cell c3
  have z1 : w.heap.size + 1 < g1 := by simp at hgs1; omega
  clear hk1 hgs1
  have hR1s := hR1.two
  have hA1s := hA1.two
  obtain ⟨gs, hC, zs⟩ : ∃ gs, Bx w1 gs (ints sums).toArray 2 ∧ gs = g1 := ⟨g1, hC1, rfl⟩
  have zg : w.heap.size + 1 < gs := by omega
  subst zs
  clear hC1
  clear hR1s hA1s
  go_wp2_with fail
  go_loopg [10] sz.toNat (fun m s1 wr => ∃ i : Nat, i + m = sz.toNat ∧ s1 = .int .i64 i ∧ Bx wr w.heap.size #[.int .u64 0, .int .u64 0] 33 ∧ Bx wr (w.heap.size + 1) #[.int .u64 (U (eLo 1 st sz v i)), .int .u64 (U (eHi 1 st sz v i))] 33 ∧ Bx wr gs (ints sums).toArray 2 ∧ Keep w wr)
  case atStart => exact ⟨0, by omega, rfl, hR1, hA1, hC, (by ((repeat (first | (with_reducible assumption) | ((with_reducible refine Keep.setCell ?_ ?_ _); rotate_left; focus (first | omega | (simp; done) | (simp; omega))) | (with_reducible refine Keep.alloc ?_ _) | (with_reducible refine Keep.drewN ?_ _) | (with_reducible refine Keep.drew ?_) | (with_reducible exact Keep.refl _) | refine Keep.trans ?_ (by with_reducible assumption) | exact Keep.refl _ | assumption))))⟩
  case round =>
    obtain ⟨i, hi, rfl, hR, hA, hC, hk⟩ := hrel
    by_cases hlt : (i : Int) < sz
    · have e3 : IntKind.i64.wrap (sz - 1) = sz - 1 := wrapI64 ⟨by omega, by omega⟩
      have e4 : IntKind.i64.wrap (sz - 1 - i) = sz - 1 - i := wrapI64 ⟨by omega, by omega⟩
      have pp := pw_pos (b := 10) (by decide) (sz - 1 - i).toNat
      have pq := pw10_le (n := (sz - 1 - i).toNat) (by omega)
      (go_wp2_with fail); (go_at_call 157); (refine (spec_l01Power 10 (sz - 1 - i) _ (by decide) (by decide) (by omega) (by omega) (by omega)).mono ?_); rintro e w2 ⟨rfl, hk2⟩
      have hR2 := hR.keep hk2
      have hA2 := hA.keep hk2
      have hC2 := hC.keep hk2
      have k2 : Keep w w2 := (by ((repeat (first | (with_reducible assumption) | ((with_reducible refine Keep.setCell ?_ ?_ _); rotate_left; focus (first | omega | (simp; done) | (simp; omega))) | (with_reducible refine Keep.alloc ?_ _) | (with_reducible refine Keep.drewN ?_ _) | (with_reducible refine Keep.drew ?_) | (with_reducible exact Keep.refl _) | refine Keep.trans ?_ (by with_reducible assumption) | exact Keep.refl _ | assumption))))
      clear hR hA hC hk2 hk
      have hc := dg_tmod (sz := sz) (i := i) v0
      have hr := dgt_range v sz i
      obtain ⟨dn, hdn⟩ := Int.eq_ofNat_of_zero_le hr.1
      have hD : CellAt w2 gs dn (.int .i64 (dcode 1 (dgt v sz i))) := ⟨by rw [hC2.cell dn]; have := dcode_sums hr; rw [hdn] at this ⊢; exact this⟩
      have hdc := dcode_range (k := 1) (by decide) hr
      have HL := Aside.mk (eLo_succ 1 st sz v i)
      have HH := Aside.mk (eHi_succ 1 st sz v i)
      have hN := spec_l01Notch (eLo 1 st sz v i) (eHi 1 st sz v i) (st + 4 * i) 4 (dcode 1 (dgt v sz i))
      rw [hdn] at hc hr
      generalize hP : pw 10 (sz - 1 - i).toNat = P at *
      generalize dcode 1 (dgt v sz i) = dc at *
      generalize eLo 1 st sz v i = x at *
      generalize eHi 1 st sz v i = y at *
      have e5 : IntKind.i64.wrap (4 * i) = 4 * i := wrapI64 ⟨by omega, by omega⟩
      have e6 : IntKind.i64.wrap (st + 4 * i) = st + 4 * i := wrapI64 ⟨by omega, by omega⟩
      clear hP
      go_wp2_with fail
      apply wp_region_mono 12 [Fx _, Fx _, Fx _, Fx _, Fx _, Fx _, Fx _, Fx _, Fx _, Fx _, Fx _, Fx _] (by kernel_rfl) (by kernel_rfl) (mono_of ⟨Fx.mono _, Fx.mono _, Fx.mono _, Fx.mono _, Fx.mono _, Fx.mono _, Fx.mono _, Fx.mono _, Fx.mono _, Fx.mono _, Fx.mono _, Fx.mono _, trivial⟩) ?st7 ?tl7
      case st7 =>
        simp only [List.take_succ_cons, List.take_zero, List.drop_succ_cons, List.drop_zero, putAll, Act.put, List.setIfInBounds_toArray, List.set_cons_succ, List.set_cons_zero, Nat.zero_add, Nat.reduceAdd]
        refine steps_cons ?_ (steps_cons ?_ (steps_cons ?_ (steps_cons ?_ (steps_cons ?_ (steps_cons ?_ (steps_cons ?_ (steps_cons ?_ (steps_cons ?_ (steps_cons ?_ (steps_cons ?_ (steps_cons ?_ steps_nil)))))))))))
        all_goals
          intro v w2 hk hd
          obtain ⟨hR2_0, hR2_1, hR2_2, hR2_3, hR2_4⟩ := (hR2.keep hk).two
          obtain ⟨hA2_0, hA2_1, hA2_2, hA2_3, hA2_4⟩ := (hA2.keep hk).two
          obtain ⟨hD_0, hD_1⟩ := (hD.keep hk).at2
          have hkz := hk.size
          simp [DepsOf, factAt, Fx, Region.binds] at hd
          simp only [factAt, List.getD_cons_zero, List.getD_cons_succ]
          refine Gives.mk ?_
          go_simp
          first | exact ⟨Keep.refl _, Fx.self _ _⟩ | exact ⟨(Keep.refl _).alloc _, _, rfl, Bx.new _ _ _, by first | omega | (simp; omega)⟩ | (go_at_call 153; exact gives_fx (hN _ (by omega) (by omega) (by omega) (by omega) (by omega) (by omega)))
      simp only [List.take_succ_cons, List.take_zero, List.drop_succ_cons, List.drop_zero, putAll, Act.put, List.setIfInBounds_toArray, List.set_cons_succ, List.set_cons_zero, Nat.zero_add, Nat.reduceAdd]
      intro v w2 hk hh
      obtain ⟨hR2_0, hR2_1, hR2_2, hR2_3, hR2_4⟩ := (hR2.keep hk).two
      obtain ⟨hA2_0, hA2_1, hA2_2, hA2_3, hA2_4⟩ := (hA2.keep hk).two
      obtain ⟨hD_0, hD_1⟩ := (hD.keep hk).at2
      have hkz := hk.size
      simp only [Held, factAt, List.getD_cons_zero, List.getD_cons_succ, Fx, true_and] at hh
      obtain ⟨⟨⟨⟨⟨⟨⟨⟨⟨⟨⟨v_0, v_1⟩, v_2⟩, v_3⟩, v_4⟩, v_5⟩, v_6⟩, v_7⟩, v_8⟩, v_9⟩, v_10⟩, v_11⟩ := hh
      simp only [v_0, v_1, v_2, v_3, v_4, v_5, v_6, v_7, v_8, v_9, v_10, v_11]
      have HR := Aside.mk (hR2.keep hk)
      have HA := Aside.mk (hA2.keep hk)
      have HC := Aside.mk (hC2.keep hk)
      clear hR2 hA2 hC2 hN
      go_wp2
      go_roundg (sz.toNat - (i + 1))
      case measure => omega
      case rel => exact ⟨i + 1, by omega, by go_num, (HR.out.set' (by simp) _).set' (by simp) _, by rw [HL.out, HH.out]; exact (HA.out.set _).set _, (HC.out.set' (by simp; omega) _).set' (by simp; omega) _, (by ((repeat (first | (with_reducible assumption) | ((with_reducible refine Keep.setCell ?_ ?_ _); rotate_left; focus (first | omega | (simp; done) | (simp; omega))) | (with_reducible refine Keep.alloc ?_ _) | (with_reducible refine Keep.drewN ?_ _) | (with_reducible refine Keep.drew ?_) | (with_reducible exact Keep.refl _) | refine Keep.trans ?_ (by with_reducible assumption) | exact Keep.refl _ | assumption))))⟩
    · obtain rfl : i = sz.toNat := by omega
      have hAs := hA.two
      have hRs := hR.two
      go_wp2
      (apply bodyPost_ret; rotate_left; rfl; exact ⟨rfl, (by ((repeat (first | (with_reducible assumption) | ((with_reducible refine Keep.setCell ?_ ?_ _); rotate_left; focus (first | omega | (simp; done) | (simp; omega))) | (with_reducible refine Keep.alloc ?_ _) | (with_reducible refine Keep.drewN ?_ _) | (with_reducible refine Keep.drew ?_) | (with_reducible exact Keep.refl _) | refine Keep.trans ?_ (by with_reducible assumption) | exact Keep.refl _ | assumption))))⟩; simp [results, Tryd.results121, go_sem, U_zero, *])
theorem spec_l01Code_2 (s : ByteArray) (st sz v : Int) (g o : Nat) (w : World) (hz : 1 ≤ sz ∧ sz ≤ 4) (h0 : 0 ≤ st) (h2 : st + 5 * sz ≤ 96) (v0 : 0 ≤ v) (v1 : v ≤ 9999)
    (c0 : w.cell? ⟨g, o, none⟩ = some (.string s)) (c1 : w.cell? ⟨g, o + 1, none⟩ = some (.int .i8 2)) (c2 : w.cell? ⟨g, o + 2, none⟩ = some (.int .i16 st)) (c3 : w.cell? ⟨g, o + 3, none⟩ = some (.int .i16 sz)) :
    Calls Tryd.prog 121 #[.pointer (some ⟨g, o, none⟩), .int .i64 v] w fun e w' => e = .returned (.agg #[.int .u64 (U (eLo 2 st sz v sz.toNat)), .int .u64 (U (eHi 2 st sz v sz.toNat))]) ∧ Keep w w' := by
  have gz : g < w.heap.size := World.block_lt_of_cell? w _ c0
  have e1 : IntKind.i64.wrap st = st := wrapI64 ⟨by omega, by omega⟩
  have e2 : IntKind.i64.wrap sz = sz := wrapI64 ⟨by omega, by omega⟩
  go_enter Tryd.func121, Tryd.ntmps121
  (go_wp2_with fail); (go_at_call 155); (refine (spec_l01Sums _).mono ?_); rintro e w1 ⟨g1, rfl, hC1, hgs1, hk1⟩
  have hR1 := ((Bx.new w #[.int .u64 0, .int .u64 0] 33).alloc (Obj.cells #[.int .u64 0, .int .u64 0] 33)).keep hk1
  have hA1 := (Bx.new1 w (Obj.cells #[.int .u64 0, .int .u64 0] 33) #[.int .u64 0, .int .u64 0] 33).keep hk1
  have k1 : Keep w w1 := (by ((repeat (first | (with_reducible assumption) | ((with_reducible refine Keep.setCell ?_ ?_ _); rotate_left; focus (first | omega | (simp; done) | (simp; omega))) | (with_reducible refine Keep.alloc ?_ _) | (with_reducible refine Keep.drewN ?_ _) | (with_reducible refine Keep.drew ?_) | (with_reducible exact Keep.refl _) | refine Keep.trans ?_ (by with_reducible assumption) | exact Keep.refl _ | assumption))))
  have d0 := k1.cell c0
  have d1 := k1.cell c1
  have d2 := k1.cell c2
  have d3 := k1.cell c3
  have z1 : w.heap.size + 1 < g1 := by simp at hgs1; omega
  clear hk1 hgs1
  have hR1s := hR1.two
  have hA1s := hA1.two
  (go_wp2_with fail); (go_at_call 156); (refine (spec_l01Pairs _).mono ?_); rintro e w3 ⟨gs, rfl, hC, hgs, hk3⟩
  replace hR1 := hR1.keep hk3
  replace hA1 := hA1.keep hk3
  have k3 : Keep w w3 := (by ((repeat (first | (with_reducible assumption) | ((with_reducible refine Keep.setCell ?_ ?_ _); rotate_left; focus (first | omega | (simp; done) | (simp; omega))) | (with_reducible refine Keep.alloc ?_ _) | (with_reducible refine Keep.drewN ?_ _) | (with_reducible refine Keep.drew ?_) | (with_reducible exact Keep.refl _) | refine Keep.trans ?_ (by with_reducible assumption) | exact Keep.refl _ | assumption))))
  have zg : w.heap.size + 1 < gs := by have := k1.size; have := hA1s.2.2.2.2; omega
  clear hk3 hgs k1 d0 d1 d2 d3 hC1 hR1s hA1s z1
  have hR1s := hR1.two
  have hA1s := hA1.two
  clear hR1s hA1s
  go_wp2_with fail
  go_loopg [10] sz.toNat (fun m s1 wr => ∃ i : Nat, i + m = sz.toNat ∧ s1 = .int .i64 i ∧ Bx wr w.heap.size #[.int .u64 0, .int .u64 0] 33 ∧ Bx wr (w.heap.size + 1) #[.int .u64 (U (eLo 2 st sz v i)), .int .u64 (U (eHi 2 st sz v i))] 33 ∧ Bx wr gs (ints pairsL).toArray 2 ∧ Keep w wr)
  case atStart => exact ⟨0, by omega, rfl, hR1, hA1, hC, (by ((repeat (first | (with_reducible assumption) | ((with_reducible refine Keep.setCell ?_ ?_ _); rotate_left; focus (first | omega | (simp; done) | (simp; omega))) | (with_reducible refine Keep.alloc ?_ _) | (with_reducible refine Keep.drewN ?_ _) | (with_reducible refine Keep.drew ?_) | (with_reducible exact Keep.refl _) | refine Keep.trans ?_ (by with_reducible assumption) | exact Keep.refl _ | assumption))))⟩
  case round =>
    obtain ⟨i, hi, rfl, hR, hA, hC, hk⟩ := hrel
    by_cases hlt : (i : Int) < sz
    · have e3 : IntKind.i64.wrap (sz - 1) = sz - 1 := wrapI64 ⟨by omega, by omega⟩
      have e4 : IntKind.i64.wrap (sz - 1 - i) = sz - 1 - i := wrapI64 ⟨by omega, by omega⟩
      have pp := pw_pos (b := 10) (by decide) (sz - 1 - i).toNat
      have pq := pw10_le (n := (sz - 1 - i).toNat) (by omega)
      (go_wp2_with fail); (go_at_call 157); (refine (spec_l01Power 10 (sz - 1 - i) _ (by decide) (by decide) (by omega) (by omega) (by omega)).mono ?_); rintro e w2 ⟨rfl, hk2⟩
      have hR2 := hR.keep hk2
      have hA2 := hA.keep hk2
      have hC2 := hC.keep hk2
      have k2 : Keep w w2 := (by ((repeat (first | (with_reducible assumption) | ((with_reducible refine Keep.setCell ?_ ?_ _); rotate_left; focus (first | omega | (simp; done) | (simp; omega))) | (with_reducible refine Keep.alloc ?_ _) | (with_reducible refine Keep.drewN ?_ _) | (with_reducible refine Keep.drew ?_) | (with_reducible exact Keep.refl _) | refine Keep.trans ?_ (by with_reducible assumption) | exact Keep.refl _ | assumption))))
      clear hR hA hC hk2 hk
      have hc := dg_tmod (sz := sz) (i := i) v0
      have hr := dgt_range v sz i
      obtain ⟨dn, hdn⟩ := Int.eq_ofNat_of_zero_le hr.1
      have hD : CellAt w2 gs dn (.int .i64 (dcode 2 (dgt v sz i))) := ⟨by rw [hC2.cell dn]; have := dcode_pairs hr; rw [hdn] at this ⊢; exact this⟩
      have hdc := dcode_range (k := 2) (by decide) hr
      have HL := Aside.mk (eLo_succ 2 st sz v i)
      have HH := Aside.mk (eHi_succ 2 st sz v i)
      have hN := spec_l01Notch (eLo 2 st sz v i) (eHi 2 st sz v i) (st + 5 * i) 5 (dcode 2 (dgt v sz i))
      rw [hdn] at hc hr
      generalize hP : pw 10 (sz - 1 - i).toNat = P at *
      generalize dcode 2 (dgt v sz i) = dc at *
      generalize eLo 2 st sz v i = x at *
      generalize eHi 2 st sz v i = y at *
      have e5 : IntKind.i64.wrap (5 * i) = 5 * i := wrapI64 ⟨by omega, by omega⟩
      have e6 : IntKind.i64.wrap (st + 5 * i) = st + 5 * i := wrapI64 ⟨by omega, by omega⟩
      clear hP
      go_wp2_with fail
      apply wp_region_mono 12 [Fx _, Fx _, Fx _, Fx _, Fx _, Fx _, Fx _, Fx _, Fx _, Fx _, Fx _, Fx _] (by kernel_rfl) (by kernel_rfl) (mono_of ⟨Fx.mono _, Fx.mono _, Fx.mono _, Fx.mono _, Fx.mono _, Fx.mono _, Fx.mono _, Fx.mono _, Fx.mono _, Fx.mono _, Fx.mono _, Fx.mono _, trivial⟩) ?st8 ?tl8
      case st8 =>
        simp only [List.take_succ_cons, List.take_zero, List.drop_succ_cons, List.drop_zero, putAll, Act.put, List.setIfInBounds_toArray, List.set_cons_succ, List.set_cons_zero, Nat.zero_add, Nat.reduceAdd]
        refine steps_cons ?_ (steps_cons ?_ (steps_cons ?_ (steps_cons ?_ (steps_cons ?_ (steps_cons ?_ (steps_cons ?_ (steps_cons ?_ (steps_cons ?_ (steps_cons ?_ (steps_cons ?_ (steps_cons ?_ steps_nil)))))))))))
        all_goals
          intro v w2 hk hd
          obtain ⟨hR2_0, hR2_1, hR2_2, hR2_3, hR2_4⟩ := (hR2.keep hk).two
          obtain ⟨hA2_0, hA2_1, hA2_2, hA2_3, hA2_4⟩ := (hA2.keep hk).two
          obtain ⟨hD_0, hD_1⟩ := (hD.keep hk).at2
          have hkz := hk.size
          simp [DepsOf, factAt, Fx, Region.binds] at hd
          simp only [factAt, List.getD_cons_zero, List.getD_cons_succ]
          refine Gives.mk ?_
          go_simp
          first | exact ⟨Keep.refl _, Fx.self _ _⟩ | exact ⟨(Keep.refl _).alloc _, _, rfl, Bx.new _ _ _, by first | omega | (simp; omega)⟩ | (go_at_call 153; exact gives_fx (hN _ (by omega) (by omega) (by omega) (by omega) (by omega) (by omega)))
      simp only [List.take_succ_cons, List.take_zero, List.drop_succ_cons, List.drop_zero, putAll, Act.put, List.setIfInBounds_toArray, List.set_cons_succ, List.set_cons_zero, Nat.zero_add, Nat.reduceAdd]
      intro v w2 hk hh
      obtain ⟨hR2_0, hR2_1, hR2_2, hR2_3, hR2_4⟩ := (hR2.keep hk).two
      obtain ⟨hA2_0, hA2_1, hA2_2, hA2_3, hA2_4⟩ := (hA2.keep hk).two
      obtain ⟨hD_0, hD_1⟩ := (hD.keep hk).at2
      have hkz := hk.size
      simp only [Held, factAt, List.getD_cons_zero, List.getD_cons_succ, Fx, true_and] at hh
      obtain ⟨⟨⟨⟨⟨⟨⟨⟨⟨⟨⟨v_0, v_1⟩, v_2⟩, v_3⟩, v_4⟩, v_5⟩, v_6⟩, v_7⟩, v_8⟩, v_9⟩, v_10⟩, v_11⟩ := hh
      simp only [v_0, v_1, v_2, v_3, v_4, v_5, v_6, v_7, v_8, v_9, v_10, v_11]
      have HR := Aside.mk (hR2.keep hk)
      have HA := Aside.mk (hA2.keep hk)
      have HC := Aside.mk (hC2.keep hk)
      clear hR2 hA2 hC2 hN
      go_wp2
      go_roundg (sz.toNat - (i + 1))
      case measure => omega
      case rel => exact ⟨i + 1, by omega, by go_num, (HR.out.set' (by simp) _).set' (by simp) _, by rw [HL.out, HH.out]; exact (HA.out.set _).set _, (HC.out.set' (by simp; omega) _).set' (by simp; omega) _, (by ((repeat (first | (with_reducible assumption) | ((with_reducible refine Keep.setCell ?_ ?_ _); rotate_left; focus (first | omega | (simp; done) | (simp; omega))) | (with_reducible refine Keep.alloc ?_ _) | (with_reducible refine Keep.drewN ?_ _) | (with_reducible refine Keep.drew ?_) | (with_reducible exact Keep.refl _) | refine Keep.trans ?_ (by with_reducible assumption) | exact Keep.refl _ | assumption))))⟩
    · obtain rfl : i = sz.toNat := by omega
      have hAs := hA.two
      have hRs := hR.two
      go_wp2
      (apply bodyPost_ret; rotate_left; rfl; exact ⟨rfl, (by ((repeat (first | (with_reducible assumption) | ((with_reducible refine Keep.setCell ?_ ?_ _); rotate_left; focus (first | omega | (simp; done) | (simp; omega))) | (with_reducible refine Keep.alloc ?_ _) | (with_reducible refine Keep.drewN ?_ _) | (with_reducible refine Keep.drew ?_) | (with_reducible exact Keep.refl _) | refine Keep.trans ?_ (by with_reducible assumption) | exact Keep.refl _ | assumption))))⟩; simp [results, Tryd.results121, go_sem, U_zero, *])
end Go.Proofs.YtpmilcfppcmodaaDoor

set_option linter.unusedVariables false
set_option linter.unusedSimpArgs false
namespace Go.Proofs.YtpmilcfppcmodaaDoor
open Go.RowKit
set_option maxHeartbeats 4000000
set_option maxRecDepth 20000
theorem spec_l01Code (s : ByteArray) (k st sz v : Int) (g o : Nat) (w : World) (hz : okSz k sz) (h0 : 0 ≤ st) (h2 : st + widthN k sz ≤ 96) (v0 : 0 ≤ v) (v1 : v ≤ mostN k sz)
    (c0 : w.cell? ⟨g, o, none⟩ = some (.string s)) (c1 : w.cell? ⟨g, o + 1, none⟩ = some (.int .i8 k)) (c2 : w.cell? ⟨g, o + 2, none⟩ = some (.int .i16 st)) (c3 : w.cell? ⟨g, o + 3, none⟩ = some (.int .i16 sz)) :
    Calls Tryd.prog 121 #[.pointer (some ⟨g, o, none⟩), .int .i64 v] w fun e w' => e = .returned (.agg #[.int .u64 (U (encLo k st sz v)), .int .u64 (U (encHi k st sz v))]) ∧ Keep w w' := by
  have vb := valB hz v1
  obtain ⟨z1, z2⟩ := hz
  rcases z2 with ⟨rfl, z2⟩ | ⟨rfl, z2⟩ | ⟨rfl, z2⟩ | ⟨rfl, z2⟩
  · rw [encLo_0, encHi_0]
    simp [mostN] at v1
    simp [widthN] at h2
    exact spec_l01Code_0 s st sz v g o w ⟨z1, z2⟩ h0 h2 v0 (by omega) c0 c1 c2 c3
  · rw [encLo_d (.inl rfl), encHi_d (.inl rfl)]
    simp [widthN] at h2
    exact spec_l01Code_1 s st sz v g o w ⟨z1, z2⟩ h0 h2 v0 vb c0 c1 c2 c3
  · rw [encLo_d (.inr rfl), encHi_d (.inr rfl)]
    simp [widthN] at h2
    exact spec_l01Code_2 s st sz v g o w ⟨z1, z2⟩ h0 h2 v0 vb c0 c1 c2 c3
  · simp [widthN] at h2
    exact spec_l01Code_3 s st sz v g o w ⟨z1, z2⟩ h0 (by omega) v0 vb c0 c1 c2 c3
theorem Bx.new' {w : World} {g : Nat} {cs : Array Value} {T : TypeId} (h : g = w.heap.size) : Bx (w.alloc (.cells cs T)) g cs T := by subst h; exact Bx.new _ _ _
theorem Bx.rd {w : World} {g : Nat} {l : List Int} {T : TypeId} (h : Bx w g (ints l).toArray T) : Rd w (some ⟨g, 0, none⟩) (ints l) :=
  .inr ⟨g, 0, rfl, fun j v hj => by rw [h.cell]; simpa using hj⟩
end Go.Proofs.YtpmilcfppcmodaaDoor

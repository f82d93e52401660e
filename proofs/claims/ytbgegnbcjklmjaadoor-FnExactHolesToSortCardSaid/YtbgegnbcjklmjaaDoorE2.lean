/- Codes of values: the reference's walks. -/
import Derived.Test.YtbgegnbcjklmjaaDoorE1
import Derived.Test.YtbgegnbcjklmjaaDoorM5
import Derived.Test.YtbgegnbcjklmjaaDoorAu
set_option linter.unusedVariables false
set_option linter.unusedSimpArgs false
namespace Go.Proofs.YtbgegnbcjklmjaaDoor
open Go.RowKit
set_option maxHeartbeats 2000000
theorem pw2_le {n : Nat} (h : n ≤ 12) : pw 2 n ≤ 4096 := by
  have a := pw_mono (b := 2) (by decide) h
  have c : pw 2 12 = 4096 := by decide
  omega
theorem pw10_le {n : Nat} (h : n ≤ 4) : pw 10 n ≤ 10000 := by
  have a := pw_mono (b := 10) (by decide) h
  have c : pw 10 4 = 10000 := by decide
  omega
theorem nt_tmod {h bits : Int} {i : Nat} (b0 : 0 ≤ bits) : (bits / pw 2 (h - 1 - i).toNat).tmod 2 = cond (ntB h bits i) 1 0 := by
  have pp := pw_pos (b := 2) (by decide) (h - 1 - i).toNat
  have h0 : 0 ≤ bits / pw 2 (h - 1 - i).toNat := Int.ediv_nonneg b0 (by omega)
  rw [Int.tmod_eq_emod_of_nonneg h0]
  unfold ntB
  generalize bits / pw 2 (h - 1 - i).toNat = q at *
  by_cases e : q % 2 = 1
  · simp [e]
  · simp [e]; omega
theorem spec_l01Notch (a b : Wd) (p h bits : Int) (w : World) (p0 : 0 ≤ p) (h0 : 0 ≤ h) (h1 : h ≤ 12) (h2 : p + h ≤ 96) (b0 : 0 ≤ bits) (b1 : bits ≤ 1000000) :
    Calls Tryd.prog 84 #[.agg #[.int .u64 (U a), .int .u64 (U b)], .int .i64 p, .int .i64 h, .int .i64 bits] w fun e w' => e = .returned (.agg #[.int .u64 (U (nLo a p h bits h.toNat)), .int .u64 (U (nHi b p h bits h.toNat))]) ∧ Keep w w' := by
  go_enter Tryd.func84, Tryd.ntmps84
  go_wp2_with fail
  go_loopg [9] h.toNat (fun k s1 wr => ∃ i : Nat, i + k = h.toNat ∧ s1 = .int .i64 i ∧ Bx wr w.heap.size #[.int .u64 (U (nLo a p h bits i)), .int .u64 (U (nHi b p h bits i))] 28 ∧ Bx wr (w.heap.size + 1) #[.int .u64 0, .int .u64 0] 28 ∧ Keep w wr)
  case atStart => exact ⟨0, by omega, rfl, (Bx.new _ _ _).alloc _, Bx.new1 _ _ _ _, (by ((repeat (first | (with_reducible assumption) | ((with_reducible refine Keep.setCell ?_ ?_ _); rotate_left; focus (first | omega | (simp; done) | (simp; omega))) | (with_reducible refine Keep.alloc ?_ _) | (with_reducible refine Keep.drewN ?_ _) | (with_reducible refine Keep.drew ?_) | (with_reducible exact Keep.refl _) | refine Keep.trans ?_ (by with_reducible assumption) | exact Keep.refl _ | assumption))))⟩
  case round =>
    obtain ⟨i, hi, rfl, hA, hB, hk⟩ := hrel
    by_cases hlt : (i : Int) < h
    · have e1 : IntKind.i64.wrap (h - 1) = h - 1 := wrapI64 ⟨by omega, by omega⟩
      have e2 : IntKind.i64.wrap (h - 1 - i) = h - 1 - i := wrapI64 ⟨by omega, by omega⟩
      have pp := pw_pos (b := 2) (by decide) (h - 1 - i).toNat
      have pq := pw2_le (n := (h - 1 - i).toNat) (by omega)
      (go_wp2_with fail); (go_at_call 77); (refine (spec_l01Power 2 (h - 1 - i) _ (by decide) (by decide) (by omega) (by omega) (by omega)).mono ?_); rintro e w1 ⟨rfl, hk1⟩
      have hA1 := hA.keep hk1
      have hB1 := hB.keep hk1
      have k1 : Keep w w1 := (by ((repeat (first | (with_reducible assumption) | ((with_reducible refine Keep.setCell ?_ ?_ _); rotate_left; focus (first | omega | (simp; done) | (simp; omega))) | (with_reducible refine Keep.alloc ?_ _) | (with_reducible refine Keep.drewN ?_ _) | (with_reducible refine Keep.drew ?_) | (with_reducible exact Keep.refl _) | refine Keep.trans ?_ (by with_reducible assumption) | exact Keep.refl _ | assumption))))
      clear hA hB hk1 hk
      have hc := nt_tmod (h := h) (i := i) b0
      generalize hP : pw 2 (h - 1 - i).toNat = P at *
      clear hP
      cases hb : ntB h bits i <;> rw [hb] at hc <;> simp only [cond_true, cond_false] at hc
      · have HA := Aside.mk hA1
        have HB := Aside.mk hB1
        have HL := Aside.mk (nLo_no (a := a) (p := p) hb)
        have HH := Aside.mk (nHi_no (a := b) (p := p) hb)
        clear hA1 hB1 hb
        go_wp2
        go_roundg (h.toNat - (i + 1))
        case measure => omega
        case rel => exact ⟨i + 1, by omega, by go_num, by rw [HL.out, HH.out]; exact HA.out, HB.out, (by ((repeat (first | (with_reducible assumption) | ((with_reducible refine Keep.setCell ?_ ?_ _); rotate_left; focus (first | omega | (simp; done) | (simp; omega))) | (with_reducible refine Keep.alloc ?_ _) | (with_reducible refine Keep.drewN ?_ _) | (with_reducible refine Keep.drew ?_) | (with_reducible exact Keep.refl _) | refine Keep.trans ?_ (by with_reducible assumption) | exact Keep.refl _ | assumption))))⟩
      · have e3 : IntKind.i64.wrap (p + i) = p + i := wrapI64 ⟨by omega, by omega⟩
        have HL := Aside.mk (nLo_yes (a := a) (p := p) hb)
        have HH := Aside.mk (nHi_yes (a := b) (p := p) hb)
        clear hb
        go_wp2_with fail
        apply wp_region_mono 6 [Fx _, Fx _, Fx _, Fx _, Fx _, Fx _] (by kernel_rfl) (by kernel_rfl) (mono_of ⟨Fx.mono _, Fx.mono _, Fx.mono _, Fx.mono _, Fx.mono _, Fx.mono _, trivial⟩) ?st7 ?tl7
        case st7 =>
          simp only [List.take_succ_cons, List.take_zero, List.drop_succ_cons, List.drop_zero, putAll, Act.put, List.setIfInBounds_toArray, List.set_cons_succ, List.set_cons_zero, Nat.zero_add, Nat.reduceAdd]
          refine steps_cons ?_ (steps_cons ?_ (steps_cons ?_ (steps_cons ?_ (steps_cons ?_ (steps_cons ?_ steps_nil)))))
          all_goals
            intro v w2 hk hd
            obtain ⟨hA1_0, hA1_1, hA1_2, hA1_3, hA1_4⟩ := (hA1.keep hk).two
            obtain ⟨hB1_0, hB1_1, hB1_2, hB1_3, hB1_4⟩ := (hB1.keep hk).two
            have hkz := hk.size
            simp [DepsOf, factAt, Fx, Region.binds] at hd
            simp only [factAt, List.getD_cons_zero, List.getD_cons_succ]
            refine Gives.mk ?_
            go_simp
            first | exact ⟨Keep.refl _, Fx.self _ _⟩ | exact ⟨(Keep.refl _).alloc _, _, rfl, Bx.new _ _ _, by first | omega | (simp; omega)⟩ | (go_at_call 78; exact gives_fx (spec_l01Bit _ (by omega) (by omega) _)) | (go_at_call 73; exact gives_fx (spec_l01Join _ _ _ _ _))
        simp only [List.take_succ_cons, List.take_zero, List.drop_succ_cons, List.drop_zero, putAll, Act.put, List.setIfInBounds_toArray, List.set_cons_succ, List.set_cons_zero, Nat.zero_add, Nat.reduceAdd]
        intro v w2 hk hh
        obtain ⟨hA1_0, hA1_1, hA1_2, hA1_3, hA1_4⟩ := (hA1.keep hk).two
        obtain ⟨hB1_0, hB1_1, hB1_2, hB1_3, hB1_4⟩ := (hB1.keep hk).two
        have hkz := hk.size
        simp only [Held, factAt, List.getD_cons_zero, List.getD_cons_succ, Fx, true_and] at hh
        obtain ⟨⟨⟨⟨⟨v_0, v_1⟩, v_2⟩, v_3⟩, v_4⟩, v_5⟩ := hh
        simp only [v_0, v_1, v_2, v_3, v_4, v_5]
        have HA := Aside.mk (hA1.keep hk)
        have HB := Aside.mk (hB1.keep hk)
        clear hA1 hB1
        go_wp2
        go_roundg (h.toNat - (i + 1))
        case measure => omega
        case rel => exact ⟨i + 1, by omega, by go_num, by rw [HL.out, HH.out]; exact (HA.out.set _).set _, (HB.out.set' (by simp) _).set' (by simp) _, (by ((repeat (first | (with_reducible assumption) | ((with_reducible refine Keep.setCell ?_ ?_ _); rotate_left; focus (first | omega | (simp; done) | (simp; omega))) | (with_reducible refine Keep.alloc ?_ _) | (with_reducible refine Keep.drewN ?_ _) | (with_reducible refine Keep.drew ?_) | (with_reducible exact Keep.refl _) | refine Keep.trans ?_ (by with_reducible assumption) | exact Keep.refl _ | assumption))))⟩
    · obtain rfl : i = h.toNat := by omega
      have hAs := hA.two
      have hBs := hB.two
      go_wp2
      (apply bodyPost_ret; rotate_left; rfl; exact ⟨rfl, (by ((repeat (first | (with_reducible assumption) | ((with_reducible refine Keep.setCell ?_ ?_ _); rotate_left; focus (first | omega | (simp; done) | (simp; omega))) | (with_reducible refine Keep.alloc ?_ _) | (with_reducible refine Keep.drewN ?_ _) | (with_reducible refine Keep.drew ?_) | (with_reducible exact Keep.refl _) | refine Keep.trans ?_ (by with_reducible assumption) | exact Keep.refl _ | assumption))))⟩; simp [results, Tryd.results84, go_sem, U_zero, *])
def sums : List Int := [12, 1, 2, 3, 4, 5, 6, 8, 9, 10]
def pairsL : List Int := [24, 20, 18, 17, 12, 10, 9, 6, 5, 3]
theorem spec_l01Sums (w : World) : Calls Tryd.prog 86 #[] w fun e w' => ∃ g, e = .returned (.slice (some ⟨g, 0, none⟩) 10 10) ∧ Bx w' g (ints sums).toArray 2 ∧ w.heap.size ≤ g ∧ Keep w w' := by
  go_enter Tryd.func86, Tryd.ntmps86
  go_wp2
  go_ret; exact ⟨w.heap.size, rfl, Bx.new _ _ _, Nat.le_refl _, (by ((repeat (first | (with_reducible assumption) | ((with_reducible refine Keep.setCell ?_ ?_ _); rotate_left; focus (first | omega | (simp; done) | (simp; omega))) | (with_reducible refine Keep.alloc ?_ _) | (with_reducible refine Keep.drewN ?_ _) | (with_reducible refine Keep.drew ?_) | (with_reducible exact Keep.refl _) | refine Keep.trans ?_ (by with_reducible assumption) | exact Keep.refl _ | assumption))))⟩
theorem spec_l01Pairs (w : World) : Calls Tryd.prog 87 #[] w fun e w' => ∃ g, e = .returned (.slice (some ⟨g, 0, none⟩) 10 10) ∧ Bx w' g (ints pairsL).toArray 2 ∧ w.heap.size ≤ g ∧ Keep w w' := by
  go_enter Tryd.func87, Tryd.ntmps87
  go_wp2
  go_ret; exact ⟨w.heap.size, rfl, Bx.new _ _ _, Nat.le_refl _, (by ((repeat (first | (with_reducible assumption) | ((with_reducible refine Keep.setCell ?_ ?_ _); rotate_left; focus (first | omega | (simp; done) | (simp; omega))) | (with_reducible refine Keep.alloc ?_ _) | (with_reducible refine Keep.drewN ?_ _) | (with_reducible refine Keep.drew ?_) | (with_reducible exact Keep.refl _) | refine Keep.trans ?_ (by with_reducible assumption) | exact Keep.refl _ | assumption))))⟩
theorem dcode_sums {d : Int} (h : 0 ≤ d ∧ d < 10) : (ints sums).toArray[d.toNat]? = some (.int .i64 (dcode 1 d)) := by
  rcases ten h with rfl | rfl | rfl | rfl | rfl | rfl | rfl | rfl | rfl | rfl <;> rfl
theorem dcode_pairs {d : Int} (h : 0 ≤ d ∧ d < 10) : (ints pairsL).toArray[d.toNat]? = some (.int .i64 (dcode 2 d)) := by
  rcases ten h with rfl | rfl | rfl | rfl | rfl | rfl | rfl | rfl | rfl | rfl <;> rfl
end Go.Proofs.YtbgegnbcjklmjaaDoor

/- Masks and lists of holes: loops. -/
import Derived.Test.YtpmilcfppcmodaaDoorM2
import Derived.Test.YtpmilcfppcmodaaDoorRd
set_option linter.unusedVariables false
set_option linter.unusedSimpArgs false
namespace Go.Proofs.YtpmilcfppcmodaaDoor
open Go.RowKit
set_option maxHeartbeats 400000
theorem impl_with (a b : Wd) (A : Option Addr) (l : List Int) (c : Nat) (w : World) (hl : ∀ h ∈ l, 0 ≤ h ∧ h < 96) (hn : l.length ≤ 9223372036854775807) (hR : Rd w A (ints l)) :
    Calls Tryd.prog 74 #[.agg #[.int .u64 (U a), .int .u64 (U b)], .slice A l.length c] w fun e w' => e = .returned (.agg #[.int .u64 (U (orLo a l)), .int .u64 (U (orHi b l))]) ∧ Keep w w' := by
  go_enter Tryd.func74, Tryd.ntmps74
  go_wp2_with fail
  go_loopg [9] (l.length) (fun k s wr => ∃ i : Nat, i + k = l.length ∧ s = .int .i64 i ∧ Bx wr w.heap.size #[.int .u64 (U (orLo a (l.take i))), .int .u64 (U (orHi b (l.take i)))] 33 ∧ Bx wr (w.heap.size + 1) #[.int .u64 0, .int .u64 0] 33 ∧ Keep w wr)
  case atStart => exact ⟨0, by omega, rfl, by simpa [orLo, orHi] using (Bx.new _ _ _).alloc _, by simpa using Bx.new (w.alloc _) _ _, (by ((repeat (first | (with_reducible assumption) | ((with_reducible refine Keep.setCell ?_ ?_ _); rotate_left; focus (first | omega | (simp; done) | (simp; omega))) | (with_reducible refine Keep.alloc ?_ _) | (with_reducible refine Keep.drewN ?_ _) | (with_reducible refine Keep.drew ?_) | (with_reducible exact Keep.refl _) | refine Keep.trans ?_ (by with_reducible assumption) | exact Keep.refl _ | assumption))))⟩
  case round =>
    obtain ⟨i, hi, rfl, hA, hB, hk⟩ := hrel
    obtain ⟨c0, c1, f0, f1, z0⟩ := hA.two
    by_cases hlt : i < l.length
    · obtain ⟨bb, o, rfl, hc⟩ := (hR.keep hk).at (k := i) (by rw [ints_len]; exact hlt)
      have hcell := hc i _ (ints_at l i hlt)
      obtain ⟨h0, h1⟩ := hl l[i] (List.getElem_mem hlt)
      have HS := Aside.mk (orLo_succ a l i hlt)
      have HT := Aside.mk (orHi_succ b l i hlt)
      have HA := Aside.mk hA
      have HB := Aside.mk hB
      clear hc hl hA hB
      generalize l[i] = h at *
      by_cases hh : h < 64
      · have e1 : h / 64 = 0 := by omega
        have e2 : h % 64 = h := by omega
        go_wp2
        go_region
        rw [or_lo_lt _ hh h0]
        go_wp2
        go_roundg (l.length - (i + 1))
        case measure => omega
        case rel => exact ⟨i + 1, by omega, by go_num, by rw [HS.out, HT.out, or_hi_lt _ hh]; exact (HA.out.set _).drew, (HB.out.set' (by simp) _).drew, (by ((repeat (first | (with_reducible assumption) | ((with_reducible refine Keep.setCell ?_ ?_ _); rotate_left; focus (first | omega | (simp; done) | (simp; omega))) | (with_reducible refine Keep.alloc ?_ _) | (with_reducible refine Keep.drewN ?_ _) | (with_reducible refine Keep.drew ?_) | (with_reducible exact Keep.refl _) | refine Keep.trans ?_ (by with_reducible assumption) | exact Keep.refl _ | assumption))))⟩
      · have e1 : h / 64 = 1 := by omega
        have e2 : h % 64 = h - 64 := by omega
        go_wp2
        go_region
        rw [or_hi_ge (h := h) _ (by omega) h1]
        go_wp2
        go_roundg (l.length - (i + 1))
        case measure => omega
        case rel => exact ⟨i + 1, by omega, by go_num, by rw [HS.out, HT.out, or_lo_ge (h := h) _ (by omega)]; exact (HA.out.set _).drew, (HB.out.set' (by simp) _).drew, (by ((repeat (first | (with_reducible assumption) | ((with_reducible refine Keep.setCell ?_ ?_ _); rotate_left; focus (first | omega | (simp; done) | (simp; omega))) | (with_reducible refine Keep.alloc ?_ _) | (with_reducible refine Keep.drewN ?_ _) | (with_reducible refine Keep.drew ?_) | (with_reducible exact Keep.refl _) | refine Keep.trans ?_ (by with_reducible assumption) | exact Keep.refl _ | assumption))))⟩
    · obtain rfl : i = l.length := by omega
      rw [List.take_length] at c0 c1
      obtain ⟨d0, d1, g0, g1, z1⟩ := hB.two
      clear hA hB
      go_wp2
      (apply bodyPost_ret; rotate_left; rfl; exact ⟨rfl, (by ((repeat (first | (with_reducible assumption) | ((with_reducible refine Keep.setCell ?_ ?_ _); rotate_left; focus (first | omega | (simp; done) | (simp; omega))) | (with_reducible refine Keep.alloc ?_ _) | (with_reducible refine Keep.drewN ?_ _) | (with_reducible refine Keep.drew ?_) | (with_reducible exact Keep.refl _) | refine Keep.trans ?_ (by with_reducible assumption) | exact Keep.refl _ | assumption))))⟩; simp [results, Tryd.results74, go_sem, U_zero, *])
end Go.Proofs.YtpmilcfppcmodaaDoor

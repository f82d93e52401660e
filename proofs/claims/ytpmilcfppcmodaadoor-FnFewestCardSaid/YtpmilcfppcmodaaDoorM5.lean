/- Holes counted. -/
import Derived.Test.YtpmilcfppcmodaaDoorM2
import Derived.Test.YtpmilcfppcmodaaDoorRd
import Derived.Test.YtpmilcfppcmodaaDoorPop
import Derived.Test.YtpmilcfppcmodaaDoorMono
import Derived.IntWalk
set_option linter.unusedVariables false
set_option linter.unusedSimpArgs false
namespace Go.Proofs.YtpmilcfppcmodaaDoor
open Go.RowKit
set_option maxHeartbeats 1000000
theorem ones_mask (y : Wd) : bits .and .i64 (wrap64 (U y)) (127 : Int) = ((y.toNat % 128 : Nat) : Int) := by
  rw [← IntWalk.i64_left]
  have e : BitVec.ofInt 64 (IntKind.i64.wrap (U y)) = y := by
    apply BitVec.eq_of_toNat_eq
    rw [BitVec.toNat_ofInt]
    have := y.isLt
    unfold U
    simp [IntKind.wrap, IntKind.bits, IntKind.signed]
    omega
  show IntKind.i64.wrap ((BitVec.ofInt 64 (IntKind.i64.wrap (U y)) &&& BitVec.ofInt 64 127).toNat : Int) = _
  rw [e, BitVec.toNat_and, show (BitVec.ofInt 64 127).toNat = 2 ^ 7 - 1 from rfl, Nat.and_two_pow_sub_one_eq_mod]
  have : y.toNat % 2 ^ 7 < 128 := Nat.mod_lt _ (by decide)
  simp [IntKind.wrap, IntKind.bits, IntKind.signed]
  omega
theorem pc_half (y : Wd) : pc y = y.toNat % 2 + pc (y >>> 1) := by
  unfold pc
  have h := pcN_add 1 63 y.toNat
  have h1 : pcN 1 y.toNat = y.toNat % 2 := by simp [pcN]
  have h2 := pcN_more 63 (y.toNat / 2) (by have := y.isLt; omega) 64 (by omega)
  simp only [Nat.reduceAdd, Nat.pow_one] at h
  rw [h, h1, BitVec.toNat_ushiftRight, Nat.shiftRight_eq_div_pow, Nat.pow_one, h2]
theorem spec_CountHoles (a b : Wd) (w : World) :
    Calls Tryd.prog 154 #[.agg #[.int .u64 (U a), .int .u64 (U b)]] w fun e w' => e = .returned (.int .i64 ((pc a + pc b : Nat) : Int)) ∧ Keep w w' := by
  have la := pc_le a
  have lb := pc_le b
  go_enter Tryd.func154, Tryd.ntmps154
  go_wp2_with fail
  refine wp_loop_rounds 3 ?_
  rw [rounds_succ]
  go_wp2_with fail
  go_loopg [3, 5] (a.toNat) (fun k s1 s2 wr => ∃ (n : Nat) (y : Wd), k = y.toNat ∧ n + pc y = pc a ∧ s1 = .int .i64 n ∧ s2 = .int .u64 (U y) ∧ Bx wr w.heap.size #[.int .u64 (U a), .int .u64 (U b)] 33 ∧ Keep w wr)
  case atStart => exact ⟨0, a, rfl, by omega, rfl, rfl, Bx.new _ _ _, (by ((repeat (first | (with_reducible assumption) | ((with_reducible refine Keep.setCell ?_ ?_ _); rotate_left; focus (first | omega | (simp; done) | (simp; omega))) | (with_reducible refine Keep.alloc ?_ _) | (with_reducible refine Keep.drewN ?_ _) | (with_reducible refine Keep.drew ?_) | (with_reducible exact Keep.refl _) | refine Keep.trans ?_ (by with_reducible assumption) | exact Keep.refl _ | assumption))))⟩
  case round =>
    obtain ⟨n, y, hk0, hn, rfl, rfl, hA, hk⟩ := hrel
    obtain ⟨c0, c1, f0, f1, z0⟩ := hA.two
    have hU := U_nonneg y
    have hy2 := y.isLt
    have hh := pc_half y
    have hle := pc_le y
    by_cases hy : y.toNat = 0
    · have e0 : U y = 0 := by unfold U; omega
      have e1 : pc y = 0 := by rw [show y = 0#64 from BitVec.eq_of_toNat_eq (by simpa using hy)]; exact pc_zero
      rw [e0]
      have e2 : n = pc a := by omega
      subst e2
      have HA := Aside.mk hA
      go_wp2_with fail
      rw [rounds_succ]
      go_wp2_with fail
      clear hA hn hh hle hy hy2 hU e0 e1 c0 c1 f0 f1 z0
      go_loopg [3, 5] (b.toNat) (fun k s1 s2 wr => ∃ (n : Nat) (y : Wd), k = y.toNat ∧ n + pc y = pc a + pc b ∧ s1 = .int .i64 n ∧ s2 = .int .u64 (U y) ∧ Bx wr w.heap.size #[.int .u64 (U a), .int .u64 (U b)] 33 ∧ Keep w wr)
      case atStart => exact ⟨pc a, b, rfl, rfl, rfl, rfl, HA.out, (by ((repeat (first | (with_reducible assumption) | ((with_reducible refine Keep.setCell ?_ ?_ _); rotate_left; focus (first | omega | (simp; done) | (simp; omega))) | (with_reducible refine Keep.alloc ?_ _) | (with_reducible refine Keep.drewN ?_ _) | (with_reducible refine Keep.drew ?_) | (with_reducible exact Keep.refl _) | refine Keep.trans ?_ (by with_reducible assumption) | exact Keep.refl _ | assumption))))⟩
      case round =>
        obtain ⟨n, y, hk0, hn, rfl, rfl, hA, hk⟩ := hrel
        obtain ⟨c0, c1, f0, f1, z0⟩ := hA.two
        have hU := U_nonneg y
        have hy2 := y.isLt
        have hh := pc_half y
        have hle := pc_le y
        by_cases hy : y.toNat = 0
        · have e0 : U y = 0 := by unfold U; omega
          have e1 : pc y = 0 := by rw [show y = 0#64 from BitVec.eq_of_toNat_eq (by simpa using hy)]; exact pc_zero
          rw [e0]
          have e2 : n = pc a + pc b := by omega
          subst e2
          go_wp2_with fail
          rw [rounds_succ]
          go_wp2
          go_ret; exact ⟨rfl, (by ((repeat (first | (with_reducible assumption) | ((with_reducible refine Keep.setCell ?_ ?_ _); rotate_left; focus (first | omega | (simp; done) | (simp; omega))) | (with_reducible refine Keep.alloc ?_ _) | (with_reducible refine Keep.drewN ?_ _) | (with_reducible refine Keep.drew ?_) | (with_reducible exact Keep.refl _) | refine Keep.trans ?_ (by with_reducible assumption) | exact Keep.refl _ | assumption))))⟩
        · have e0 : 0 < U y := by unfold U; omega
          have e1 : (U y).tdiv 2 = U (y >>> 1) := by rw [Int.tdiv_eq_ediv_of_nonneg hU]; exact shr_1 y
          have e2 : (U y).tmod 2 = ((y.toNat % 2 : Nat) : Int) := by rw [Int.tmod_eq_emod_of_nonneg hU]; rfl
          have e3 : (y >>> 1).toNat = y.toNat / 2 := by rw [BitVec.toNat_ushiftRight, Nat.shiftRight_eq_div_pow, Nat.pow_one]
          have e4 := wrap_U (y >>> 1)
          go_wp2
          go_roundg (y >>> 1).toNat
          case measure => omega
          case rel => exact ⟨n + y.toNat % 2, y >>> 1, rfl, by omega, by go_num, by go_num, hA, (by ((repeat (first | (with_reducible assumption) | ((with_reducible refine Keep.setCell ?_ ?_ _); rotate_left; focus (first | omega | (simp; done) | (simp; omega))) | (with_reducible refine Keep.alloc ?_ _) | (with_reducible refine Keep.drewN ?_ _) | (with_reducible refine Keep.drew ?_) | (with_reducible exact Keep.refl _) | refine Keep.trans ?_ (by with_reducible assumption) | exact Keep.refl _ | assumption))))⟩
    · have e0 : 0 < U y := by unfold U; omega
      have e1 : (U y).tdiv 2 = U (y >>> 1) := by rw [Int.tdiv_eq_ediv_of_nonneg hU]; exact shr_1 y
      have e2 : (U y).tmod 2 = ((y.toNat % 2 : Nat) : Int) := by rw [Int.tmod_eq_emod_of_nonneg hU]; rfl
      have e3 : (y >>> 1).toNat = y.toNat / 2 := by rw [BitVec.toNat_ushiftRight, Nat.shiftRight_eq_div_pow, Nat.pow_one]
      have e4 := wrap_U (y >>> 1)
      go_wp2
      go_roundg (y >>> 1).toNat
      case measure => omega
      case rel => exact ⟨n + y.toNat % 2, y >>> 1, rfl, by omega, by go_num, by go_num, hA, (by ((repeat (first | (with_reducible assumption) | ((with_reducible refine Keep.setCell ?_ ?_ _); rotate_left; focus (first | omega | (simp; done) | (simp; omega))) | (with_reducible refine Keep.alloc ?_ _) | (with_reducible refine Keep.drewN ?_ _) | (with_reducible refine Keep.drew ?_) | (with_reducible exact Keep.refl _) | refine Keep.trans ?_ (by with_reducible assumption) | exact Keep.refl _ | assumption))))⟩
end Go.Proofs.YtpmilcfppcmodaaDoor

/- The holes of a range. -/
import Derived.Test.YtpmilcfppcmodaaDoorM4
set_option linter.unusedVariables false
set_option linter.unusedSimpArgs false
namespace Go.Proofs.YtpmilcfppcmodaaDoor
open Go.RowKit
set_option maxHeartbeats 1000000
/-- The mask of so many holes from one on. -/
def rlo (s : Int) : Nat → Wd
  | 0 => 0#64
  | n + 1 => rlo s n ||| bitLo (s + n)
def rhi (s : Int) : Nat → Wd
  | 0 => 0#64
  | n + 1 => rhi s n ||| bitHi (s + n)
theorem Bx.grown {w w' : World} {g i : Nat} {cs : Array Value} {T : TypeId} (h : Bx w i cs T) (hg : w.grownBy w' (some g)) (hne : i ≠ g) : Bx w' i cs T := (hg.block i h.lt (by simpa using hne)).trans h
theorem impl_rangeMask (s n : Int) (w : World) (h0 : 0 ≤ s) (h1 : 0 ≤ n) (h2 : s + n ≤ 96) :
    Calls Tryd.prog 141 #[.int .i64 s, .int .i64 n] w fun e w' => e = .returned (.agg #[.int .u64 (U (rlo s n.toNat)), .int .u64 (U (rhi s n.toNat))]) ∧ Keep w w' := by
  go_enter Tryd.func141, Tryd.ntmps141
  go_wp2_with fail
  go_loopg [6] n.toNat (fun k s1 wr => ∃ i : Nat, i + k = n.toNat ∧ s1 = .int .i64 (s + i) ∧ Bx wr w.heap.size #[.int .u64 0, .int .u64 0] 33 ∧ Bx wr (w.heap.size + 1) #[.int .u64 (U (rlo s i)), .int .u64 (U (rhi s i))] 33 ∧ Keep w wr)
  case atStart => exact ⟨0, by omega, by simp, (Bx.new _ _ _).alloc _, Bx.new1 _ _ _ _, (by ((repeat (first | (with_reducible assumption) | ((with_reducible refine Keep.setCell ?_ ?_ _); rotate_left; focus (first | omega | (simp; done) | (simp; omega))) | (with_reducible refine Keep.alloc ?_ _) | (with_reducible refine Keep.drewN ?_ _) | (with_reducible refine Keep.drew ?_) | (with_reducible exact Keep.refl _) | refine Keep.trans ?_ (by with_reducible assumption) | exact Keep.refl _ | assumption))))⟩
  case round =>
    obtain ⟨i, hi, rfl, hA, hB, hk⟩ := hrel
    have hAs := hA.two
    have hBs := hB.two
    have e1 : IntKind.i64.wrap (s + n) = s + n := wrapI64 ⟨by omega, by omega⟩
    by_cases hlt : (i : Int) < n
    · (go_wp2_with fail); (go_at_call 74); (refine (impl_with1 _ _ _ _ _ _ (by omega) (by omega) ((Bx.new wr _ _).cell 0)).mono ?_); rintro e w1 ⟨rfl, hk1⟩
      have hA1 := (hA.alloc _).keep hk1
      have hB1 := (hB.alloc _).keep hk1
      have k1 : Keep w w1 := (by ((repeat (first | (with_reducible assumption) | ((with_reducible refine Keep.setCell ?_ ?_ _); rotate_left; focus (first | omega | (simp; done) | (simp; omega))) | (with_reducible refine Keep.alloc ?_ _) | (with_reducible refine Keep.drewN ?_ _) | (with_reducible refine Keep.drew ?_) | (with_reducible exact Keep.refl _) | refine Keep.trans ?_ (by with_reducible assumption) | exact Keep.refl _ | assumption))))
      clear hAs hBs hA hB
      have hAs := hA1.two
      have hBs := hB1.two
      have HA := Aside.mk hA1
      have HB := Aside.mk hB1
      clear hk1 hk hA1 hB1
      go_wp2
      go_roundg (n.toNat - (i + 1))
      case measure => omega
      case rel => exact ⟨i + 1, by omega, by go_num, HA.out.set' (by simp) _ |>.set' (by simp) _, (HB.out.set _).set _, (by ((repeat (first | (with_reducible assumption) | ((with_reducible refine Keep.setCell ?_ ?_ _); rotate_left; focus (first | omega | (simp; done) | (simp; omega))) | (with_reducible refine Keep.alloc ?_ _) | (with_reducible refine Keep.drewN ?_ _) | (with_reducible refine Keep.drew ?_) | (with_reducible exact Keep.refl _) | refine Keep.trans ?_ (by with_reducible assumption) | exact Keep.refl _ | assumption))))⟩
    · have e2 : i = n.toNat := by omega
      subst e2
      go_wp2
      (apply bodyPost_ret; rotate_left; rfl; exact ⟨rfl, (by ((repeat (first | (with_reducible assumption) | ((with_reducible refine Keep.setCell ?_ ?_ _); rotate_left; focus (first | omega | (simp; done) | (simp; omega))) | (with_reducible refine Keep.alloc ?_ _) | (with_reducible refine Keep.drewN ?_ _) | (with_reducible refine Keep.drew ?_) | (with_reducible exact Keep.refl _) | refine Keep.trans ?_ (by with_reducible assumption) | exact Keep.refl _ | assumption))))⟩; simp [results, Tryd.results141, go_sem, U_zero, *])
/-- The part of a mix. -/
def mpLo (s z p : Int) : Wd := cond (mixB s z p) (rlo s z.toNat) 0#64
def mpHi (s z p : Int) : Wd := cond (mixB s z p) (rhi s z.toNat) 0#64
def mpE (s z p : Int) : Int := cond (mixB s z p) 0 1
end Go.Proofs.YtpmilcfppcmodaaDoor

/- The holes of a range. -/
import Derived.Test.YtbbnhbfofdhnbaaDoorM4
set_option linter.unusedVariables false
set_option linter.unusedSimpArgs false
namespace Go.Proofs.YtbbnhbfofdhnbaaDoor
open Go.RowKit
set_option maxHeartbeats 1000000
/-- The mask of so many holes from one on. -/
def rlo (s : Int) : Nat → Wd
  | 0 => 0#64
  | n + 1 => rlo s n ||| bitLo (s + n)
def rhi (s : Int) : Nat → Wd
  | 0 => 0#64
  | n + 1 => rhi s n ||| bitHi (s + n)
theorem Bx.grown {w w' : World} {g i : Nat} {cs : Array Value} {T : TypeId} (h : Bx w i cs T) (hg : w.grownBy w' (some g)) (hne : i ≠ g) : Bx w' i cs T := (hg.block i h.lt (by simpa using hne)).trans h
theorem impl_rangeMask (s n : Int) (w : World) (h0 : 0 ≤ s) (h1 : 0 ≤ n) (h2 : s + n ≤ 96) :
    Calls Tryd.prog 93 #[.int .i64 s, .int .i64 n] w fun e w' => e = .returned (.agg #[.int .u64 (U (rlo s n.toNat)), .int .u64 (U (rhi s n.toNat))]) ∧ Keep w w' := by
  go_enter Tryd.func93, Tryd.ntmps93
  go_wp2_with fail
  go_loopg [6] n.toNat (fun k s1 wr => ∃ i : Nat, i + k = n.toNat ∧ s1 = .int .i64 (s + i) ∧ Bx wr w.heap.size #[.int .u64 0, .int .u64 0] 50 ∧ Bx wr (w.heap.size + 1) #[.int .u64 (U (rlo s i)), .int .u64 (U (rhi s i))] 50 ∧ Keep w wr)
  case atStart => exact ⟨0, by omega, by simp, (Bx.new _ _ _).alloc _, Bx.new1 _ _ _ _, (by ((repeat (first | (with_reducible assumption) | ((with_reducible refine Keep.setCell ?_ ?_ _); rotate_left; focus (first | omega | (simp; done) | (simp; omega))) | (with_reducible refine Keep.alloc ?_ _) | (with_reducible refine Keep.drewN ?_ _) | (with_reducible refine Keep.drew ?_) | (with_reducible exact Keep.refl _) | refine Keep.trans ?_ (by with_reducible assumption) | exact Keep.refl _ | assumption))))⟩
  case round =>
    obtain ⟨i, hi, rfl, hA, hB, hk⟩ := hrel
    have hAs := hA.two
    have hBs := hB.two
    have e1 : IntKind.i64.wrap (s + n) = s + n := wrapI64 ⟨by omega, by omega⟩
    by_cases hlt : (i : Int) < n
    · (go_wp2_with fail); (go_at_call 88); (refine (impl_with1 _ _ _ _ _ _ (by omega) (by omega) ((Bx.new wr _ _).cell 0)).mono ?_); rintro e w1 ⟨rfl, hk1⟩
      have hA1 := (hA.alloc _).keep hk1
      have hB1 := (hB.alloc _).keep hk1
      have k1 : Keep w w1 := (by ((repeat (first | (with_reducible assumption) | ((with_reducible refine Keep.setCell ?_ ?_ _); rotate_left; focus (first | omega | (simp; done) | (simp; omega))) | (with_reducible refine Keep.alloc ?_ _) | (with_reducible refine Keep.drewN ?_ _) | (with_reducible refine Keep.drew ?_) | (with_reducible exact Keep.refl _) | refine Keep.trans ?_ (by with_reducible assumption) | exact Keep.refl _ | assumption))))
      clear hAs hBs hA hB
      have hAs := hA1.two
      have hBs := hB1.two
      have HA := Aside.mk hA1
      have HB := Aside.mk hB1
      clear hk1 hk hA1 hB1
      go_wp2
      go_roundg (n.toNat - (i + 1))
      case measure => omega
      case rel => exact ⟨i + 1, by omega, by go_num, HA.out.set' (by simp) _ |>.set' (by simp) _, (HB.out.set _).set _, (by ((repeat (first | (with_reducible assumption) | ((with_reducible refine Keep.setCell ?_ ?_ _); rotate_left; focus (first | omega | (simp; done) | (simp; omega))) | (with_reducible refine Keep.alloc ?_ _) | (with_reducible refine Keep.drewN ?_ _) | (with_reducible refine Keep.drew ?_) | (with_reducible exact Keep.refl _) | refine Keep.trans ?_ (by with_reducible assumption) | exact Keep.refl _ | assumption))))⟩
    · have e2 : i = n.toNat := by omega
      subst e2
      go_wp2
      (apply bodyPost_ret; rotate_left; rfl; exact ⟨rfl, (by ((repeat (first | (with_reducible assumption) | ((with_reducible refine Keep.setCell ?_ ?_ _); rotate_left; focus (first | omega | (simp; done) | (simp; omega))) | (with_reducible refine Keep.alloc ?_ _) | (with_reducible refine Keep.drewN ?_ _) | (with_reducible refine Keep.drew ?_) | (with_reducible exact Keep.refl _) | refine Keep.trans ?_ (by with_reducible assumption) | exact Keep.refl _ | assumption))))⟩; simp [results, Tryd.results93, go_sem, U_zero, *])
theorem spec_l03Put (h : Int) (a b : Wd) (g : Nat) (w : World) (h0 : 0 ≤ h) (h1 : h < 96) (hB : Bx w g #[.int .u64 (U a), .int .u64 (U b)] 50) :
    Calls Tryd.prog 86 #[.pointer (some ⟨g, 0, none⟩), .int .i64 h] w fun e w' => e = .returned (.tuple #[]) ∧ w.grownBy w' (some g) ∧ Bx w' g #[.int .u64 (U (a ||| bitLo h)), .int .u64 (U (b ||| bitHi h))] 50 := by
  obtain ⟨c0, c1, f0, f1, z0⟩ := hB.two
  by_cases hh : h < 64
  · have e1 : h / 64 = 0 := by omega
    have e2 : h % 64 = h := by omega
    rw [or_hi_lt _ hh]
    go_enter Tryd.func86, Tryd.ntmps86
    go_wp2_with fail
    go_region
    rw [or_lo_lt _ hh h0]
    go_wp2
    exact bodyPost_end (results_none Tryd.results86 _ _ _) rfl ⟨rfl, ⟨rfl, rfl, rfl, by simp, fun i hi hne => Below.heap_setCell w _ _ i (by simpa using hne)⟩, hB.set _⟩
  · have e1 : h / 64 = 1 := by omega
    have e2 : h % 64 = h - 64 := by omega
    rw [or_lo_ge (h := h) _ (by omega)]
    go_enter Tryd.func86, Tryd.ntmps86
    go_wp2_with fail
    go_region
    rw [or_hi_ge (h := h) _ (by omega) h1]
    go_wp2
    exact bodyPost_end (results_none Tryd.results86 _ _ _) rfl ⟨rfl, ⟨rfl, rfl, rfl, by simp, fun i hi hne => Below.heap_setCell w _ _ i (by simpa using hne)⟩, hB.set _⟩
/-- The part of a mix. -/
def mpLo (s z p : Int) : Wd := cond (mixB s z p) (rlo s z.toNat) 0#64
def mpHi (s z p : Int) : Wd := cond (mixB s z p) (rhi s z.toNat) 0#64
def mpE (s z p : Int) : Int := cond (mixB s z p) 0 1
theorem impl_mixPart (s z p : Int) (w : World) (h0 : 0 ≤ s) (h1 : 0 ≤ z) (h2 : s + z ≤ 96) :
    Calls Tryd.prog 65 #[.agg #[.int .i16 s, .int .i16 z, .int .i16 p]] w fun e w' => e = .returned (.agg #[.int .u64 (U (rlo s z.toNat)), .int .u64 (U (rhi s z.toNat))]) ∧ Keep w w' := by
  have ez : IntKind.i64.wrap z = z := wrapI64 ⟨by omega, by omega⟩
  have es : IntKind.i64.wrap s = s := wrapI64 ⟨by omega, by omega⟩
  go_enter Tryd.func65, Tryd.ntmps65
  (go_wp2_with fail); (go_at_call 93); (refine (impl_rangeMask s z _ h0 h1 h2).mono ?_); rintro e w1 ⟨rfl, hk1⟩
  obtain ⟨hk1c, hk1f⟩ := hk1.cells; have hk1z0 : w.heap.size < w1.heap.size := (by have := hk1.size; (try simp at this); omega); have hk1z1 : w.heap.size + 1 < w1.heap.size := (by have := hk1.size; (try simp at this); omega)
  go_wp2
  (apply bodyPost_ret; rotate_left; rfl; exact ⟨rfl, (by ((repeat (first | (with_reducible assumption) | ((with_reducible refine Keep.setCell ?_ ?_ _); rotate_left; focus (first | omega | (simp; done) | (simp; omega))) | (with_reducible refine Keep.alloc ?_ _) | (with_reducible refine Keep.drewN ?_ _) | (with_reducible refine Keep.drew ?_) | (with_reducible exact Keep.refl _) | refine Keep.trans ?_ (by with_reducible assumption) | exact Keep.refl _ | assumption))))⟩; simp [results, Tryd.results65, go_sem, U_zero, *])
theorem impl_MixPart (s z p : Int) (w : World) (hw : I16 s ∧ I16 z ∧ I16 p) :
    Calls Tryd.prog 32 #[.agg #[.int .i16 s, .int .i16 z, .int .i16 p]] w fun e w' => e = .returned (.tuple #[.agg #[.int .u64 (U (mpLo s z p)), .int .u64 (U (mpHi s z p))], .int .i64 (mpE s z p)]) ∧ Keep w w' := by
  cases h1 : mixB s z p <;> simp only [mpLo, mpHi, mpE, h1, cond_true, cond_false]
  · go_enter Tryd.func32, Tryd.ntmps32
    (go_wp2_with fail); (go_at_call 54); (refine (impl_isMix s z p _ hw.2.1 hw.2.2 hw.1).mono ?_); rintro e w1 ⟨rfl, hk1⟩
    rw [h1]
    obtain ⟨hk1c, hk1f⟩ := hk1.cells; have hk1z0 : w.heap.size < w1.heap.size := (by have := hk1.size; (try simp at this); omega); have hk1z1 : w.heap.size + 1 < w1.heap.size := (by have := hk1.size; (try simp at this); omega)
    go_wp2
    (apply bodyPost_ret; rotate_left; rfl; exact ⟨rfl, (by ((repeat (first | (with_reducible assumption) | ((with_reducible refine Keep.setCell ?_ ?_ _); rotate_left; focus (first | omega | (simp; done) | (simp; omega))) | (with_reducible refine Keep.alloc ?_ _) | (with_reducible refine Keep.drewN ?_ _) | (with_reducible refine Keep.drew ?_) | (with_reducible exact Keep.refl _) | refine Keep.trans ?_ (by with_reducible assumption) | exact Keep.refl _ | assumption))))⟩; simp [results, Tryd.results32, go_sem, U_zero, *])
  · have hi := mixB_iff.1 h1
    go_enter Tryd.func32, Tryd.ntmps32
    (go_wp2_with fail); (go_at_call 54); (refine (impl_isMix s z p _ hw.2.1 hw.2.2 hw.1).mono ?_); rintro e w1 ⟨rfl, hk1⟩
    rw [h1]
    obtain ⟨hk1c, hk1f⟩ := hk1.cells; have hk1z0 : w.heap.size < w1.heap.size := (by have := hk1.size; (try simp at this); omega); have hk1z1 : w.heap.size + 1 < w1.heap.size := (by have := hk1.size; (try simp at this); omega)
    (go_wp2_with fail); (go_at_call 65); (refine (impl_mixPart s z p _ (by omega) (by omega) (by omega)).mono ?_); rintro e w2 ⟨rfl, hk2⟩
    obtain ⟨hk2c, hk2f⟩ := hk2.cells; have hk2z0 : w.heap.size < w2.heap.size := (by have := hk2.size; (try simp at this); omega); have hk2z1 : w.heap.size + 1 < w2.heap.size := (by have := hk2.size; (try simp at this); omega)
    go_wp2
    (apply bodyPost_ret; rotate_left; rfl; exact ⟨rfl, (by ((repeat (first | (with_reducible assumption) | ((with_reducible refine Keep.setCell ?_ ?_ _); rotate_left; focus (first | omega | (simp; done) | (simp; omega))) | (with_reducible refine Keep.alloc ?_ _) | (with_reducible refine Keep.drewN ?_ _) | (with_reducible refine Keep.drew ?_) | (with_reducible exact Keep.refl _) | refine Keep.trans ?_ (by with_reducible assumption) | exact Keep.refl _ | assumption))))⟩; simp [results, Tryd.results32, go_sem, U_zero, *])
end Go.Proofs.YtbbnhbfofdhnbaaDoor

/- What the law of the fewest needles draws: names, sizes. -/
import Derived.Test.YtpmilcfppcmodaaDoorGZ
import Derived.Test.YtpmilcfppcmodaaDoorOW
import Derived.Test.YtpmilcfppcmodaaDoorFD
import Derived.Test.YtpmilcfppcmodaaDoorN5
import Derived.Test.YtpmilcfppcmodaaDoorW3
import Derived.Test.YtpmilcfppcmodaaDoorN2
import Derived.Deep.AppendLies
import Derived.Test.YtpmilcfppcmodaaDoorEZ
import Derived.Test.YtpmilcfppcmodaaDoorAO
set_option linter.unusedVariables false
set_option linter.unusedSimpArgs false
namespace Go.Proofs.YtpmilcfppcmodaaDoor
open Go.RowKit
set_option maxHeartbeats 2000000
set_option maxRecDepth 20000
theorem grown_set1 (w : World) (g j : Nat) (v : Value) : w.grownBy (w.setCell ⟨g, j, none⟩ v) (some g) :=
  ⟨rfl, rfl, rfl, by simp, fun i hi hne => Below.heap_setCell w ⟨g, j, none⟩ v i (by simpa using hne)⟩
theorem set4_grown (w : World) (f : Nat) (a b c d : Value) : w.grownBy ((((w.setCell ⟨f, 0, none⟩ a).setCell ⟨f, 1, none⟩ b).setCell ⟨f, 2, none⟩ c).setCell ⟨f, 3, none⟩ d) (some f) :=
  grown_trans (grown_trans (grown_trans (grown_set1 _ _ _ _) (grown_set1 _ _ _ _)) (grown_set1 _ _ _ _)) (grown_set1 _ _ _ _)
theorem grown_own {a b c : World} {row r2 : Option Nat} (h : a.grownBy b row) (hg : b.grownBy c r2) (hr : ∀ k, r2 = some k → a.heap.size ≤ k) : a.grownBy c row :=
  ⟨hg.os.trans h.os, hg.tape.trans h.tape, hg.output.trans h.output, Nat.le_trans h.size hg.size, fun i hi hne => (hg.block i (Nat.lt_of_lt_of_le hi h.size) (fun e => by have := hr i e.symm; omega)).trans (h.block i hi hne)⟩
theorem Srcx.grown {w w' : World} {g k : Nat} {row : Option Nat} (h : Srcx w g k) (hg : w.grownBy w' row) (hr : ∀ j, row = some j → g < j) : Srcx w' g k := by
  obtain ⟨S, l, c, ⟨i, sd, h1, h5⟩, h2, h3, h4⟩ := h
  refine ⟨S, l, c, ⟨i, sd, h1, h5.grownBy hg (fun e => by have := hr _ e.symm; omega)⟩, ?_, h3, h4⟩
  by_cases h0 : l = []
  · subst h0; exact .inl rfl
  · exact rd_grown h2 hg (fun _ b o hb e => by have := h3 h0 b o hb; have := hr _ e.symm; omega)
theorem own_src {w w' : World} {B g : Nat} {T : TypeId} {sz : Nat} {v : Value} {n : Nat} {xs : List Value} (h : w.ownsRow B T sz v n xs) (hg : w.grownBy w' (some g)) (hb : g < B) : w'.ownsRow B T sz v n xs := by
  refine h.kept hg ?_
  cases hv : v.ownBlock with
  | none => exact .inl rfl
  | some j => exact .inr (fun e => by have := (h.lt j hv).1; cases e; omega)
theorem i16_small {x : Int} (h0 : 0 ≤ x) (h1 : x ≤ 1000) : IntKind.i16.wrap x = x := by
  simp [IntKind.wrap, IntKind.bits, IntKind.signed]; omega
theorem i8_small {x : Int} (h0 : 0 ≤ x) (h1 : x ≤ 100) : IntKind.i8.wrap x = x := by
  simp [IntKind.wrap, IntKind.bits, IntKind.signed]; omega
def strs (l : List ByteArray) : List Value := l.map Value.string
theorem strs_at (l : List ByteArray) (k : Nat) (h : k < l.length) : (strs l)[k]? = some (.string l[k]) := by simp [strs, h]
/-- The names that are drawn. -/
def nms : List ByteArray := [⟨#[97, 110, 116]⟩, ⟨#[98, 101, 101]⟩, ⟨#[99, 111, 119]⟩, ⟨#[100, 111, 103]⟩, ⟨#[101, 101, 108]⟩, ⟨#[102, 111, 120]⟩, ⟨#[103, 110, 117]⟩, ⟨#[104, 101, 110]⟩, ⟨#[105, 98, 105, 115]⟩, ⟨#[106, 97, 121]⟩, ⟨#[107, 105, 116, 101]⟩, ⟨#[108, 97, 114, 107]⟩]
theorem nms_ok : ∀ x ∈ nms, x.size ≤ 4 := by decide +kernel
theorem spec_l01Names (w : World) :
    Calls Tryd.prog 115 #[] w fun e w' => ∃ g, e = .returned (.slice (some ⟨g, 0, none⟩) 12 12) ∧ Bx w' g (strs nms).toArray 9 ∧ w.heap.size ≤ g ∧ Keep w w' := by
  go_enter Tryd.func115, Tryd.ntmps115
  go_wp2
  go_ret; exact ⟨w.heap.size, rfl, Bx.new _ _ _, Nat.le_refl _, (by ((repeat (first | (with_reducible assumption) | ((with_reducible refine Keep.setCell ?_ ?_ _); rotate_left; focus (first | omega | (simp; done) | (simp; omega))) | (with_reducible refine Keep.alloc ?_ _) | (with_reducible refine Keep.drewN ?_ _) | (with_reducible refine Keep.drew ?_) | (with_reducible exact Keep.refl _) | refine Keep.trans ?_ (by with_reducible assumption) | exact Keep.refl _ | assumption))))⟩
theorem src_one (n : Int) (g k : Nat) (w : World) (hn : 1 ≤ n ∧ n ≤ 200) (hk : k ≤ 100000) (hS : Srcx w g k) :
    Calls Tryd.prog 119 #[.pointer (some ⟨g, 0, none⟩), .int .i64 n] w fun e w' => ∃ r : Int, e = .returned (.bool (decide (r = 0))) ∧ w.grownBy w' (some g) ∧ Srcx w' g (k + 1) := by
  go_enter Tryd.func119, Tryd.ntmps119
  (go_wp2_with fail); (go_at_call 114); refine (srcx_pick n g k _ hn (by omega) hS).mono ?_; rintro e w1 ⟨r, rfl, r0, r1, hg1, hS1⟩
  clear hS
  go_wp2
  go_ret; exact ⟨r, rb (by simp [Bool.beq_eq_decide_eq]), hg1, hS1⟩
theorem src_sized (kd : Int) (g k : Nat) (w : World) (h : 0 ≤ kd ∧ kd < 4) (hk : k ≤ 100000) (hS : Srcx w g k) :
    Calls Tryd.prog 116 #[.pointer (some ⟨g, 0, none⟩), .int .i8 kd] w fun e w' => ∃ z : Int, e = .returned (.int .i16 z) ∧ okSz kd z ∧ 1 ≤ z ∧ z ≤ 8 ∧ 1 ≤ widthN kd z ∧ widthN kd z ≤ 10 ∧ 0 ≤ mostN kd z ∧ mostN kd z ≤ 99 ∧ w.grownBy w' (some g) ∧ Srcx w' g (k + 1) := by
  rcases (show kd = 0 ∨ kd = 1 ∨ kd = 2 ∨ kd = 3 by omega) with rfl | rfl | rfl | rfl
  · go_enter Tryd.func116, Tryd.ntmps116
    (go_wp2_with fail); (go_at_call 114); refine (srcx_pick 8 g k _ (by decide) (by omega) hS).mono ?_; rintro e w1 ⟨r, rfl, r0, r1, hg1, hS1⟩
    have q6 : IntKind.i64.wrap (1 + r) = 1 + r := wrapI64 ⟨by omega, by omega⟩
    have q7 : IntKind.i16.wrap (1 + r) = 1 + r := i16_small (by omega) (by omega)
    have HO := Aside.mk (show 0 ≤ r ∧ r < 8 from ⟨r0, r1⟩)
    have HM : Aside (0 ≤ mostN 0 (1 + r) ∧ mostN 0 (1 + r) ≤ 99) := by
      have h : ∀ n : Fin 8, 0 ≤ mostN 0 (1 + (n.val : Int)) ∧ mostN 0 (1 + (n.val : Int)) ≤ 99 := by decide +kernel
      have h2 := h ⟨r.toNat, by omega⟩
      rw [show ((⟨r.toNat, by omega⟩ : Fin 8).val : Int) = r from Int.toNat_of_nonneg r0] at h2
      exact Aside.mk h2
    clear hS r0 r1
    go_wp2
    go_ret; exact ⟨1 + r, rfl, by unfold okSz; have := HO.out; omega, by have := HO.out; omega, by have := HO.out; omega, by have := HO.out; simp [widthN]; omega, by have := HO.out; simp [widthN]; omega, HM.out.1, HM.out.2, hg1, hS1⟩
  · go_enter Tryd.func116, Tryd.ntmps116
    (go_wp2_with fail); (go_at_call 114); refine (srcx_pick 2 g k _ (by decide) (by omega) hS).mono ?_; rintro e w1 ⟨r, rfl, r0, r1, hg1, hS1⟩
    have q6 : IntKind.i64.wrap (1 + r) = 1 + r := wrapI64 ⟨by omega, by omega⟩
    have q7 : IntKind.i16.wrap (1 + r) = 1 + r := i16_small (by omega) (by omega)
    have HO := Aside.mk (show 0 ≤ r ∧ r < 2 from ⟨r0, r1⟩)
    have HM : Aside (0 ≤ mostN 1 (1 + r) ∧ mostN 1 (1 + r) ≤ 99) := by
      have h : ∀ n : Fin 2, 0 ≤ mostN 1 (1 + (n.val : Int)) ∧ mostN 1 (1 + (n.val : Int)) ≤ 99 := by decide +kernel
      have h2 := h ⟨r.toNat, by omega⟩
      rw [show ((⟨r.toNat, by omega⟩ : Fin 2).val : Int) = r from Int.toNat_of_nonneg r0] at h2
      exact Aside.mk h2
    clear hS r0 r1
    go_wp2
    go_ret; exact ⟨1 + r, rfl, by unfold okSz; have := HO.out; omega, by have := HO.out; omega, by have := HO.out; omega, by have := HO.out; simp [widthN]; omega, by have := HO.out; simp [widthN]; omega, HM.out.1, HM.out.2, hg1, hS1⟩
  · go_enter Tryd.func116, Tryd.ntmps116
    (go_wp2_with fail); (go_at_call 114); refine (srcx_pick 2 g k _ (by decide) (by omega) hS).mono ?_; rintro e w1 ⟨r, rfl, r0, r1, hg1, hS1⟩
    have q6 : IntKind.i64.wrap (1 + r) = 1 + r := wrapI64 ⟨by omega, by omega⟩
    have q7 : IntKind.i16.wrap (1 + r) = 1 + r := i16_small (by omega) (by omega)
    have HO := Aside.mk (show 0 ≤ r ∧ r < 2 from ⟨r0, r1⟩)
    have HM : Aside (0 ≤ mostN 2 (1 + r) ∧ mostN 2 (1 + r) ≤ 99) := by
      have h : ∀ n : Fin 2, 0 ≤ mostN 2 (1 + (n.val : Int)) ∧ mostN 2 (1 + (n.val : Int)) ≤ 99 := by decide +kernel
      have h2 := h ⟨r.toNat, by omega⟩
      rw [show ((⟨r.toNat, by omega⟩ : Fin 2).val : Int) = r from Int.toNat_of_nonneg r0] at h2
      exact Aside.mk h2
    clear hS r0 r1
    go_wp2
    go_ret; exact ⟨1 + r, rfl, by unfold okSz; have := HO.out; omega, by have := HO.out; omega, by have := HO.out; omega, by have := HO.out; simp [widthN]; omega, by have := HO.out; simp [widthN]; omega, HM.out.1, HM.out.2, hg1, hS1⟩
  · go_enter Tryd.func116, Tryd.ntmps116
    (go_wp2_with fail); (go_at_call 114); refine (srcx_pick 6 g k _ (by decide) (by omega) hS).mono ?_; rintro e w1 ⟨r, rfl, r0, r1, hg1, hS1⟩
    have q6 : IntKind.i64.wrap (1 + r) = 1 + r := wrapI64 ⟨by omega, by omega⟩
    have q7 : IntKind.i16.wrap (1 + r) = 1 + r := i16_small (by omega) (by omega)
    have HO := Aside.mk (show 0 ≤ r ∧ r < 6 from ⟨r0, r1⟩)
    have HM : Aside (0 ≤ mostN 3 (1 + r) ∧ mostN 3 (1 + r) ≤ 99) := by
      have h : ∀ n : Fin 6, 0 ≤ mostN 3 (1 + (n.val : Int)) ∧ mostN 3 (1 + (n.val : Int)) ≤ 99 := by decide +kernel
      have h2 := h ⟨r.toNat, by omega⟩
      rw [show ((⟨r.toNat, by omega⟩ : Fin 6).val : Int) = r from Int.toNat_of_nonneg r0] at h2
      exact Aside.mk h2
    clear hS r0 r1
    go_wp2
    go_ret; exact ⟨1 + r, rfl, by unfold okSz; have := HO.out; omega, by have := HO.out; omega, by have := HO.out; omega, by have := HO.out; simp [widthN]; omega, by have := HO.out; simp [widthN]; omega, HM.out.1, HM.out.2, hg1, hS1⟩
theorem spec_l02Named (i : Nat) (w : World) (hi : i < 12) :
    Calls Tryd.prog 118 #[.int .i64 ((i : Int))] w fun e w' => ∃ x, e = .returned (.string x) ∧ x.size ≤ 4 ∧ Keep w w' := by
  have q1 : (i : Int).tmod 12 = i := by rw [Int.tmod_eq_emod_of_nonneg (by omega)]; omega
  have q2 : (i : Int).tdiv 12 = 0 := by rw [Int.tdiv_eq_ediv_of_nonneg (by omega)]; omega
  go_enter Tryd.func118, Tryd.ntmps118
  (go_wp2_with fail); (go_at_call 115); (refine (spec_l01Names _).mono ?_); rintro e w1 ⟨q, rfl, hB, hq, hk1⟩
  have hl : i < nms.length := hi
  have hcell : w1.cell? ⟨q, i, none⟩ = some (.string nms[i]) := (hB.cell i).trans (by simpa using strs_at nms i hl)
  have HM := Aside.mk (nms_ok nms[i] (List.getElem_mem hl))
  clear hB
  generalize nms[i] = x at *
  go_wp2_with fail
  go_loopg [5, 6] 0 (fun mm s5 s6 wr => s5 = .string x ∧ s6 = .int .i64 0 ∧ Keep w wr)
  case atStart => exact ⟨rfl, rfl, (by ((repeat (first | (with_reducible assumption) | ((with_reducible refine Keep.setCell ?_ ?_ _); rotate_left; focus (first | omega | (simp; done) | (simp; omega))) | (with_reducible refine Keep.alloc ?_ _) | (with_reducible refine Keep.drewN ?_ _) | (with_reducible refine Keep.drew ?_) | (with_reducible exact Keep.refl _) | refine Keep.trans ?_ (by with_reducible assumption) | exact Keep.refl _ | assumption))))⟩
  case round =>
    obtain ⟨rfl, rfl, hk⟩ := hrel
    go_wp2
    go_ret; exact ⟨x, rfl, HM.out, (by ((repeat (first | (with_reducible assumption) | ((with_reducible refine Keep.setCell ?_ ?_ _); rotate_left; focus (first | omega | (simp; done) | (simp; omega))) | (with_reducible refine Keep.alloc ?_ _) | (with_reducible refine Keep.drewN ?_ _) | (with_reducible refine Keep.drew ?_) | (with_reducible exact Keep.refl _) | refine Keep.trans ?_ (by with_reducible assumption) | exact Keep.refl _ | assumption))))⟩
end Go.Proofs.YtpmilcfppcmodaaDoor

set_option linter.unusedVariables false
set_option linter.unusedSimpArgs false
namespace Go.Proofs.YtpmilcfppcmodaaDoor
open Go.RowKit
set_option maxHeartbeats 4000000
set_option maxRecDepth 20000
theorem fieldE_info : (Tryd.prog.info? 89).map (fun i => (i.zero, i.size, i.bytes)) = some (some (.agg #[.string ByteArray.empty, .int .i8 0, .int .i16 0, .int .i16 0]), 4, 24) := by kernel_rfl
theorem own_emptyF (w : World) (B : Nat) (hB : B ≤ w.heap.size) : (w.alloc (.cells #[] 89)).ownsRow B 89 4 (.slice (some ⟨w.heap.size, 0, none⟩) 0 0) 0 [] :=
  World.ownsRow_made w #[] 0 hB (by unfold maxLen; omega) (by simp)
/-- A field as it is drawn. -/
def fOk (f : Fd) : Prop := okSz f.k f.sz ∧ 1 ≤ f.sz ∧ f.sz ≤ 8 ∧ 0 ≤ f.st ∧ f.st + widthN f.k f.sz ≤ 96 ∧ 0 ≤ mostN f.k f.sz ∧ mostN f.k f.sz ≤ 99
theorem src_l01Drawn (g : Nat) (w : World) (hS : Srcx w g 0) :
    Calls Tryd.prog 64 #[.pointer (some ⟨g, 0, none⟩)] w fun e w' => ∃ (v : Value) (fs : List Fd), e = .returned v ∧ 1 ≤ fs.length ∧ fs.length ≤ 5 ∧ (∀ f ∈ fs, fOk f) ∧ w'.ownsRow w.heap.size 89 4 v fs.length (fds fs) ∧ w.grownBy w' (some g) := by
  obtain ⟨i0, hi0, hz0, hz1, hz2⟩ := info_parts fieldE_info
  have hgl := hS.lt
  have hO0 := own_emptyF w w.heap.size (Nat.le_refl _)
  have hS0 := hS.keep ((Keep.refl w).alloc (.cells #[] 89))
  have hG0 : w.grownBy (w.alloc (.cells #[] 89)) (some g) := grown_keep ((Keep.refl _).alloc _) _
  clear hS
  go_enter Tryd.func64, Tryd.ntmps64
  (go_wp2_with fail); (go_at_call 114); refine (srcx_pick 6 g _ _ (by decide) (by omega) hS0).mono ?_; rintro e w1 ⟨st, rfl, s0, s1, hg1, hS1⟩
  have hO1 := own_src hO0 hg1 hgl
  have hG1 := grown_trans hG0 hg1
  have hz1 := hg1.size
  clear hO0 hG0 hS0 hg1
  (go_wp2_with fail); (go_at_call 115); (refine (spec_l01Names _).mono ?_); rintro e w2 ⟨q, rfl, hB, hq, hk2⟩
  have hO2 := own_keep hO1 hk2
  have hG2 := grown_trans hG1 (grown_keep hk2 _)
  have hS2 := hS1.keep hk2
  have hq2 := hB.lt
  have hq3 : w.heap.size < q := by simp at hz1; omega
  clear hO1 hG1 hS1 hk2 hz1
  (go_wp2_with fail); (go_at_call 114); refine (srcx_pick 5 g _ _ (by decide) (by omega) hS2).mono ?_; rintro e w3 ⟨r, rfl, r0, r1, hg3, hS3⟩
  have hO3 := own_src hO2 hg3 hgl
  have hG3 := grown_trans hG2 hg3
  have hB3 := hB.grownBy hg3 (by simp; omega)
  have q6 : IntKind.i64.wrap (1 + r) = 1 + r := wrapI64 ⟨by omega, by omega⟩
  clear hO2 hG2 hS2 hg3 hB
  go_wp2_with fail
  go_loopg [3, 4, 6] (1 + r).toNat (fun mm s3 s4 s6 wr => ∃ (m gl cl : Nat) (fs : List Fd) (st : Int), m = mm ∧ s6 = .int .i64 ((m : Int)) ∧ s4 = .int .i64 st ∧ s3 = .slice (some ⟨gl, 0, none⟩) fs.length cl ∧ 0 ≤ st ∧ st ≤ 99 ∧ (fs = [] → st ≤ 5 ∧ 1 ≤ m) ∧ m + fs.length ≤ 5 ∧ (∀ f ∈ fs, fOk f) ∧ wr.ownsRow w.heap.size 89 4 (.slice (some ⟨gl, 0, none⟩) fs.length cl) fs.length (fds fs) ∧ gl ≠ q ∧ Bx wr q (strs nms).toArray 9 ∧ w.grownBy wr (some g) ∧ Srcx wr g (20 - 3 * m))
  case atStart => exact ⟨_, w.heap.size, 0, [], st, rfl, by rw [Int.toNat_of_nonneg (by omega)], rfl, rfl, by omega, by omega, fun _ => ⟨by omega, by omega⟩, by simp; omega, fun f hf => (by simp at hf), by simpa [fds_nil] using hO3, by omega, hB3, hG3, hS3.more (by omega)⟩
  case round =>
    obtain ⟨m, gl, cl, fs, st, rfl, rfl, rfl, rfl, st0, st1, hne, hml, hfo, hO, hgq, hB, hG, hS⟩ := hrel
    have HN := Aside.mk hne
    have HF := Aside.mk hfo
    have HO := Aside.mk hO
    clear hne hfo hO hO3 hG3 hS3 hB3
    by_cases hm0 : 0 < m
    · have hn : fs.length < nms.length := by have : nms.length = 12 := rfl
                                             omega
      have hQ : ∀ W, wr.grownBy W (some g) → W.cell? ⟨q, fs.length, none⟩ = some (.string nms[fs.length]) := fun W h => ((hB.grownBy h (by simp; omega)).cell _).trans (by simpa using strs_at nms _ hn)
      have hn2 : fs.length < 12 := by omega
      have hn3 : (fs.length : Int) < 12 := by omega
      generalize nms[fs.length] = x at *
      clear hn
      have hgs := hG.size
      have q7 : IntKind.i16.wrap st = st := i16_small (by omega) (by omega)
      go_wp2_with fail
      apply wp_region_src 12 [Fx (.slice (some ⟨q, 0, none⟩) 12 12), Fx (.slice (some ⟨gl, 0, none⟩) fs.length cl), Fx (.int .i64 ((fs.length : Int))), Fx (.pointer (some ⟨q, fs.length, none⟩)), Fx (.string x), Fx (.pointer (some ⟨g, 0, none⟩)), Pk 4, Fp (fun v => ∃ r : Int, v = .int .i8 r ∧ 0 ≤ r ∧ r < 4), Fx (.int .i64 st), Fx (.int .i16 st), Fp (fun v => ∃ r : Int, v = .agg #[.string x, .int .i8 r, .int .i16 st, .int .i16 0] ∧ 0 ≤ r ∧ r < 4), Al wr.heap.size #[.string ByteArray.empty, .int .i8 0, .int .i16 0, .int .i16 0] 89] 6 g ((20 - 3 * m)) (by kernel_rfl) (by kernel_rfl) ⟨Fx.grow _ _, Fx.grow _ _, Fx.grow _ _, Fx.grow _ _, Fx.grow _ _, Fx.grow _ _, Fp.grow _ _, Fp.grow _ _, Fx.grow _ _, Fx.grow _ _, Fp.grow _ _, Al.grow _ _ (by omega), trivial⟩ (by decide) hS ?st10 ?tl10
      case st10 =>
        simp only [List.take_succ_cons, List.take_zero, List.drop_succ_cons, List.drop_zero, putAll, Act.put, List.setIfInBounds_toArray, List.set_cons_succ, List.set_cons_zero, Nat.zero_add, Nat.reduceAdd]
        refine StepsJ.cons _ _ _ ?_ (StepsJ.cons _ _ _ ?_ (StepsJ.cons _ _ _ ?_ (StepsJ.cons _ _ _ ?_ (StepsJ.cons _ _ _ ?_ (StepsJ.cons _ _ _ ?_ (StepsJ.cons _ _ _ ?_ (StepsJ.cons _ _ _ ?_ (StepsJ.cons _ _ _ ?_ (StepsJ.cons _ _ _ ?_ (StepsJ.cons _ _ _ ?_ (StepsJ.cons _ _ _ ?_ (StepsJ.nil _))))))))))))
        focus
          intro v w2 bJ hb hJ hd
          have hgw := hJ.1
          have hgz := hgw.size
          have hQ' := hQ _ hgw
          simp [DepsOf, factAt, Fx, Fp, Pk, Region.binds] at hd
          simp only [factAt, List.getD_cons_zero, List.getD_cons_succ]
          refine Gives.mk ?_
          go_simp
          first | exact ⟨js_other (by decide) (Keep.refl _), Fx.self _ _⟩ | exact ⟨js_other (by decide) ((Keep.refl _).alloc _), _, rfl, Bx.new _ _ _, by first | omega | (simp; omega)⟩
        focus
          intro v w2 bJ hb hJ hd
          have hgw := hJ.1
          have hgz := hgw.size
          have hQ' := hQ _ hgw
          simp [DepsOf, factAt, Fx, Fp, Pk, Region.binds] at hd
          simp only [factAt, List.getD_cons_zero, List.getD_cons_succ]
          refine Gives.mk ?_
          go_simp
          first | exact ⟨js_other (by decide) (Keep.refl _), Fx.self _ _⟩ | exact ⟨js_other (by decide) ((Keep.refl _).alloc _), _, rfl, Bx.new _ _ _, by first | omega | (simp; omega)⟩
        focus
          intro v w2 bJ hb hJ hd
          have hgw := hJ.1
          have hgz := hgw.size
          have hQ' := hQ _ hgw
          simp [DepsOf, factAt, Fx, Fp, Pk, Region.binds] at hd
          simp only [factAt, List.getD_cons_zero, List.getD_cons_succ]
          refine Gives.mk ?_
          go_simp
          first | exact ⟨js_other (by decide) (Keep.refl _), Fx.self _ _⟩ | exact ⟨js_other (by decide) ((Keep.refl _).alloc _), _, rfl, Bx.new _ _ _, by first | omega | (simp; omega)⟩
        focus
          intro v w2 bJ hb hJ hd
          have hgw := hJ.1
          have hgz := hgw.size
          have hQ' := hQ _ hgw
          simp [DepsOf, factAt, Fx, Fp, Pk, Region.binds] at hd
          simp only [factAt, List.getD_cons_zero, List.getD_cons_succ]
          refine Gives.mk ?_
          go_simp
          first | exact ⟨js_other (by decide) (Keep.refl _), Fx.self _ _⟩ | exact ⟨js_other (by decide) ((Keep.refl _).alloc _), _, rfl, Bx.new _ _ _, by first | omega | (simp; omega)⟩
        focus
          intro v w2 bJ hb hJ hd
          have hgw := hJ.1
          have hgz := hgw.size
          have hQ' := hQ _ hgw
          simp [DepsOf, factAt, Fx, Fp, Pk, Region.binds] at hd
          simp only [factAt, List.getD_cons_zero, List.getD_cons_succ]
          refine Gives.mk ?_
          go_simp
          first | exact ⟨js_other (by decide) (Keep.refl _), Fx.self _ _⟩ | exact ⟨js_other (by decide) ((Keep.refl _).alloc _), _, rfl, Bx.new _ _ _, by first | omega | (simp; omega)⟩
        focus
          intro v w2 bJ hb hJ hd
          have hgw := hJ.1
          have hgz := hgw.size
          have hQ' := hQ _ hgw
          simp [DepsOf, factAt, Fx, Fp, Pk, Region.binds] at hd
          simp only [factAt, List.getD_cons_zero, List.getD_cons_succ]
          refine Gives.mk ?_
          go_simp
          first | exact ⟨js_other (by decide) (Keep.refl _), Fx.self _ _⟩ | exact ⟨js_other (by decide) ((Keep.refl _).alloc _), _, rfl, Bx.new _ _ _, by first | omega | (simp; omega)⟩
        focus
          intro v w2 bJ hb hJ hd
          have hgw := hJ.1
          have hgz := hgw.size
          have hQ' := hQ _ hgw
          simp [DepsOf, factAt, Fx, Fp, Pk, Region.binds] at hd
          obtain rfl := hb rfl
          simp only [factAt, List.getD_cons_zero, List.getD_cons_succ]
          refine Gives.mk ?_
          go_simp
          first | (go_at_call 114; exact js_pick ⟨by omega, by omega⟩ (by omega) hJ)
        focus
          intro v w2 bJ hb hJ hd
          have hgw := hJ.1
          have hgz := hgw.size
          have hQ' := hQ _ hgw
          simp [DepsOf, factAt, Fx, Fp, Pk, Region.binds] at hd
          obtain ⟨r, hr, q0, q1⟩ := hd
          simp only [factAt, List.getD_cons_zero, List.getD_cons_succ]
          refine Gives.mk ?_
          go_simp
          first | exact ⟨js_other (by decide) (Keep.refl _), Fx.self _ _⟩ | exact ⟨js_other (by decide) ((Keep.refl _).alloc _), _, rfl, Bx.new _ _ _, by first | omega | (simp; omega)⟩ | (exact ⟨js_other (by decide) (Keep.refl _), r, by rw [i8_small (by omega) (by omega)], by omega, by omega⟩)
        focus
          intro v w2 bJ hb hJ hd
          have hgw := hJ.1
          have hgz := hgw.size
          have hQ' := hQ _ hgw
          simp [DepsOf, factAt, Fx, Fp, Pk, Region.binds] at hd
          simp only [factAt, List.getD_cons_zero, List.getD_cons_succ]
          refine Gives.mk ?_
          go_simp
          first | exact ⟨js_other (by decide) (Keep.refl _), Fx.self _ _⟩ | exact ⟨js_other (by decide) ((Keep.refl _).alloc _), _, rfl, Bx.new _ _ _, by first | omega | (simp; omega)⟩
        focus
          intro v w2 bJ hb hJ hd
          have hgw := hJ.1
          have hgz := hgw.size
          have hQ' := hQ _ hgw
          simp [DepsOf, factAt, Fx, Fp, Pk, Region.binds] at hd
          simp only [factAt, List.getD_cons_zero, List.getD_cons_succ]
          refine Gives.mk ?_
          go_simp
          first | exact ⟨js_other (by decide) (Keep.refl _), Fx.self _ _⟩ | exact ⟨js_other (by decide) ((Keep.refl _).alloc _), _, rfl, Bx.new _ _ _, by first | omega | (simp; omega)⟩
        focus
          intro v w2 bJ hb hJ hd
          have hgw := hJ.1
          have hgz := hgw.size
          have hQ' := hQ _ hgw
          simp [DepsOf, factAt, Fx, Fp, Pk, Region.binds] at hd
          obtain ⟨h4, ⟨r, hr, q0, q1⟩, h9⟩ := hd
          simp only [factAt, List.getD_cons_zero, List.getD_cons_succ]
          refine Gives.mk ?_
          go_simp
          first | exact ⟨js_other (by decide) (Keep.refl _), Fx.self _ _⟩ | exact ⟨js_other (by decide) ((Keep.refl _).alloc _), _, rfl, Bx.new _ _ _, by first | omega | (simp; omega)⟩ | (exact ⟨js_other (by decide) (Keep.refl _), r, rfl, q0, q1⟩)
        focus
          intro v w2 bJ hb hJ hd
          have hgw := hJ.1
          have hgz := hgw.size
          have hQ' := hQ _ hgw
          simp [DepsOf, factAt, Fx, Fp, Pk, Region.binds] at hd
          simp only [factAt, List.getD_cons_zero, List.getD_cons_succ]
          refine Gives.mk ?_
          go_simp
          first | exact ⟨js_other (by decide) (Keep.refl _), Fx.self _ _⟩ | exact ⟨js_other (by decide) ((Keep.refl _).alloc _), _, rfl, Bx.new _ _ _, by first | omega | (simp; omega)⟩
      simp only [List.take_succ_cons, List.take_zero, List.drop_succ_cons, List.drop_zero, putAll, Act.put, List.setIfInBounds_toArray, List.set_cons_succ, List.set_cons_zero, Nat.zero_add, Nat.reduceAdd]
      intro v w2 hgw hS2 hh
      have hgz := hgw.size
      have hQ' := hQ _ hgw
      simp only [Held, factAt, List.getD_cons_zero, List.getD_cons_succ, Fx, Fp, Pk, true_and] at hh
      obtain ⟨⟨⟨⟨⟨⟨⟨⟨⟨⟨⟨v_0, v_1⟩, v_2⟩, v_3⟩, v_4⟩, v_5⟩, v_6⟩, v_7⟩, v_8⟩, v_9⟩, v_10⟩, g11, v_11, hG11, hg11⟩ := hh
      simp only [v_0, v_1, v_2, v_3, v_4, v_5, v_8, v_9]
      obtain ⟨kd, e10, kd0, kd1⟩ := v_10
      simp only [v_11, e10]
      have hO1 := own_src HO.out hgw hgl
      have hG1 := grown_trans hG hgw
      have hB1 := hB.grownBy hgw (by simp; omega)
      have hgl2 := (HO.out.lt gl rfl)
      have zB := hB.lt
      generalize g11 = f at *
      have zf := hG11.lt
      have hfw : wr.heap.size ≤ f := hg11
      have hs4 := set4_grown w2 f (.string x) (.int .i8 kd) (.int .i16 st) (.int .i16 0)
      have hO2 := hO1.kept hs4 (.inr (by simp [Value.ownBlock]; omega))
      have hG2 := grown_own hG1 hs4 (fun k hk => by cases hk; omega)
      have hB2 := hB1.grownBy hs4 (by simp; omega)
      have hS2s := hS2.grown hs4 (fun k hk => by cases hk; omega)
      have hF2 : Bx ((((w2.setCell ⟨f, 0, none⟩ (.string x)).setCell ⟨f, 1, none⟩ (.int .i8 kd)).setCell ⟨f, 2, none⟩ (.int .i16 st)).setCell ⟨f, 3, none⟩ (.int .i16 0)) f #[.string x, .int .i8 kd, .int .i16 st, .int .i16 0] 89 := by simpa using (((hG11.set (i := 0) (.string x)).set (i := 1) (.int .i8 kd)).set (i := 2) (.int .i16 st)).set (i := 3) (.int .i16 0)
      have hFs := hF2.four
      have hF0 := hG11.four
      clear hO1 hG1 hB1 hS2 hs4 hG11 hg11 hG hB hS hgw hQ HO v_6 v_7 e10 v_11 v_0 v_1 v_2 v_3 v_4 v_5 v_8 v_9
      (go_wp2_with fail); (go_at_call 116); refine (src_sized kd g _ _ ⟨kd0, kd1⟩ (by omega) hS2s).mono ?_; rintro e wb ⟨z, rfl, hz, z1, z8, zw1, zw2, zm1, zm2, hgb, hSb⟩
      have hO3 := own_src hO2 hgb hgl
      have hG3 := grown_trans hG2 hgb
      have hB3 := hB2.grownBy hgb (by simp; omega)
      have hFb := hF2.grownBy hgb (by simp; omega)
      have hF3 := hFb.set (i := 3) (.int .i16 z)
      clear hFs hF0
      have hF0 := hFb.four
      have hFs := hF3.four
      have HFW := Aside.mk (spec_l01Width x kd st z f 0)
      obtain ⟨wd, hwd⟩ : ∃ wd : Int, widthN kd z = wd := ⟨_, rfl⟩
      rw [hwd] at HFW zw1 zw2
      have q8 : IntKind.i64.wrap (st + wd) = st + wd := wrapI64 ⟨by omega, by omega⟩
      have hs5 := grown_set1 wb f 3 (.int .i16 z)
      have hO4 := hO3.kept hs5 (.inr (by simp [Value.ownBlock]; omega))
      have hG4 := grown_own hG3 hs5 (fun k hk => by cases hk; omega)
      have hB4 := hB3.grownBy hs5 (by simp; omega)
      have hS4 := hSb.grown hs5 (fun k hk => by cases hk; omega)
      have zz := hG3.size
      clear hO2 hG2 hB2 hS2s hF2 hO3 hG3 hB3 hSb hs5 hgb
      (go_wp2_with fail); (go_at_call 117); (refine (HFW.out _ ⟨by omega, by omega⟩ hFs.1 hFs.2.1 hFs.2.2.1 hFs.2.2.2.1).mono ?_); rintro e wc ⟨rfl, hkc⟩
      have hO5 := own_keep hO4 hkc
      have hG5 := grown_trans hG4 (grown_keep hkc _)
      have hB5 := hB4.keep hkc
      have hS5 := hS4.keep hkc
      have hF5 := hF3.keep hkc
      clear hO4 hG4 hB4 hS4 hF3 hFs hkc hF0 hFb
      by_cases hov : 96 < st + wd
      · have hpos : 1 ≤ fs.length := by
          rcases Nat.eq_zero_or_pos fs.length with h | h
          · have := HN.out (List.eq_nil_of_length_eq_zero h); omega
          · exact h
        have HO := Aside.mk hO5
        have HG := Aside.mk hG5
        clear hO5 hG5 hB5 hS5 hF5
        go_wp2
        go_ret; exact ⟨_, fs, rfl, hpos, by omega, HF.out, HO.out, HG.out⟩
      · have HO := Aside.mk hO5
        have zG := hG5.size
        have hFs := hF5.four
        have zF := hF5.lt
        have hcard : (wc.alloc (.cells #[.string x, .int .i8 kd, .int .i16 st, .int .i16 z] 89)).heap.size = wc.heap.size + 1 := by simp
        have zb2 := hB5.lt
        go_wp2_with (at_builtin; refine wpList_append_lies _ rfl _ _ 24 rfl w.heap.size 89 i0 (.agg #[.string ByteArray.empty, .int .i8 0, .int .i16 0, .int .i16 0]) 4 24 Tryd.underlying24 hi0 hz0 hz1 hz2 rfl (by decide) _ _ _ rfl (own_keep HO.out ((Keep.refl _).alloc _)) ⟨wc.heap.size, 0, none⟩ 1 1 [.string x, .int .i8 kd, .int .i16 st, .int .i16 z] rfl rfl ?c1 ?c2 (by decide) ?c3 ?c4 ?c5 _ rfl ?_)
        case c1 => exact World.news_of_block (Bx.new wc #[.string x, .int .i8 kd, .int .i16 st, .int .i16 z] 89)
        case c2 => intro u hu; simp at hu; rcases hu with rfl | rfl | rfl | rfl <;> rfl
        case c3 => unfold maxLen; omega
        case c4 => omega
        case c5 => simp; omega
        intro g' cap wd6 hown hg hat hg3
        have n1 : g' ≠ q := by
          rcases hat with e | e
          · simp [Value.ownBlock] at e; omega
          · (try simp at e); omega
        have hgr : ∀ k, (Value.slice (some ⟨gl, 0, none⟩) fs.length cl).ownBlock = some k → k = gl := fun k hk => by simp [Value.ownBlock] at hk; exact hk.symm
        have HO6 := Aside.mk hown
        have hG6 := grown_own (grown_trans hG5 (grown_keep ((Keep.refl _).alloc (.cells #[.string x, .int .i8 kd, .int .i16 st, .int .i16 z] 89)) _)) hg (fun k hk => by have := hgr k hk; omega)
        have hB6 := (hB5.alloc (.cells #[.string x, .int .i8 kd, .int .i16 st, .int .i16 z] 89)).grownBy hg (fun h => by have := hgr q h.symm; omega)
        have hF6 := (hF5.alloc (.cells #[.string x, .int .i8 kd, .int .i16 st, .int .i16 z] 89)).grownBy hg (fun h => by have := hgr f h.symm; omega)
        have hS6 := (hS5.keep ((Keep.refl _).alloc (.cells #[.string x, .int .i8 kd, .int .i16 st, .int .i16 z] 89))).grown hg (fun k hk => by have := hgr k hk; omega)
        clear hown hg hat hgr hG5 hB5 hF5 hS5 HO hFs hcard hO5
        have hFs := hF6.four
        (go_wp2_with fail); (go_at_call 117); (refine (HFW.out _ ⟨by omega, by omega⟩ hFs.1 hFs.2.1 hFs.2.2.1 hFs.2.2.2.1).mono ?_); rintro e we ⟨rfl, hke⟩
        have hG7 := grown_trans hG6 (grown_keep hke _)
        have hB7 := hB6.keep hke
        have hS7 := hS6.keep hke
        have HO7 := Aside.mk (own_keep HO6.out hke)
        clear hG6 hB6 hS6 HO6 hFs hF6 hke
        (go_wp2_with fail); (go_at_call 114); refine (srcx_pick 4 g _ _ (by decide) (by omega) hS7).mono ?_; rintro e wf ⟨p, rfl, p0, p1, hgf, hS8⟩
        have HG8 := Aside.mk (grown_trans hG7 hgf)
        have HB8 := Aside.mk (hB7.grownBy hgf (by simp; omega))
        have HO8 := Aside.mk (own_src HO7.out hgf hgl)
        have HS8 := Aside.mk hS8
        have q9 : IntKind.i64.wrap (wd + p) = wd + p := wrapI64 ⟨by omega, by omega⟩
        have q10 : IntKind.i64.wrap (st + (wd + p)) = st + (wd + p) := wrapI64 ⟨by omega, by omega⟩
        have HF8 : Aside (∀ y ∈ fs ++ [⟨x, kd, st, z⟩], fOk y) := Aside.mk (fun y hy => by
          rcases List.mem_append.1 hy with h | h
          · exact HF.out y h
          · simp at h; subst h; exact ⟨hz, z1, z8, st0, by show st + widthN kd z ≤ 96; rw [hwd]; omega, zm1, zm2⟩)
        clear hG7 hB7 hS7 HO7 hgf hS8 HF
        go_wp2
        go_roundg (m - 1)
        case measure => omega
        case rel => exact ⟨m - 1, g', cap, fs ++ [⟨x, kd, st, z⟩], st + (wd + p), rfl, by rw [show ((m - 1 : Nat) : Int) = (m : Int) - 1 by omega], rfl, by rw [List.length_append]; rfl, by omega, by omega, fun h => by simp at h, by rw [List.length_append]; simp; omega, HF8.out, by rw [List.length_append, fds_app]; exact HO8.out, n1, HB8.out, HG8.out, HS8.out.more (by omega)⟩
    · obtain rfl : m = 0 := by omega
      have hpos : 1 ≤ fs.length := by
        rcases Nat.eq_zero_or_pos fs.length with h | h
        · have := HN.out (List.eq_nil_of_length_eq_zero h); omega
        · exact h
      have HG := Aside.mk hG
      clear hG hB hS
      go_wp2
      go_ret; exact ⟨_, fs, rfl, hpos, by omega, HF.out, HO.out, HG.out⟩
end Go.Proofs.YtpmilcfppcmodaaDoor

set_option linter.unusedVariables false
set_option linter.unusedSimpArgs false
namespace Go.Proofs.YtpmilcfppcmodaaDoor
open Go.RowKit
set_option maxHeartbeats 4000000
set_option maxRecDepth 20000
theorem cardE_infoF : (Tryd.prog.info? 108).map (fun i => (i.zero, i.size, i.bytes)) = some (some (.agg #[.string ByteArray.empty, .int .u64 0, .int .u64 0]), 3, 32) := by kernel_rfl
theorem own_emptyD (w : World) (B : Nat) (hB : B ≤ w.heap.size) : (w.alloc (.cells #[] 108)).ownsRow B 108 3 (.slice (some ⟨w.heap.size, 0, none⟩) 0 0) 0 [] :=
  World.ownsRow_made w #[] 0 hB (by unfold maxLen; omega) (by simp)
theorem src_l02Drawn (A : Option Addr) (fs : List Fd) (cf g : Nat) (w : World) (hn0 : 1 ≤ fs.length ∧ fs.length ≤ 5) (hfo : ∀ f ∈ fs, fOk f) (hR : Rd w A (fds fs)) (hne : ∀ b o, A = some ⟨b, o, none⟩ → b ≠ g) (hS : Srcx w g 0) :
    Calls Tryd.prog 66 #[.pointer (some ⟨g, 0, none⟩), .slice A fs.length cf] w fun e w' => ∃ (gd cd : Nat) (ds : List Cd), e = .returned (.slice (some ⟨gd, 0, none⟩) ds.length cd) ∧ ds.length ≤ 8 ∧ (∀ d ∈ ds, d.s.size ≤ 4) ∧ w'.ownsRow w.heap.size 108 3 (.slice (some ⟨gd, 0, none⟩) ds.length cd) ds.length (cds ds) ∧ w.grownBy w' (some g) := by
  obtain ⟨i0, hi0, hz0, hz1, hz2⟩ := info_parts cardE_infoF
  obtain ⟨bb, o, rfl, hc⟩ := hR.at (k := 0) (by rw [fds_len]; omega)
  have hbg : bb ≠ g := hne _ _ rfl
  have HC : Aside (∀ W, w.grownBy W (some g) → ∀ j v, (fds fs)[j]? = some v → W.cell? ⟨bb, o + j, none⟩ = some v) := Aside.mk (fun W h j v hj => h.cell (hc j v hj) (by simpa using hbg))
  have HF := Aside.mk hfo
  have hgl := hS.lt
  have hO0 := own_emptyD w w.heap.size (Nat.le_refl _)
  have hS0 := hS.keep ((Keep.refl w).alloc (.cells #[] 108))
  have hG0 : w.grownBy (w.alloc (.cells #[] 108)) (some g) := grown_keep ((Keep.refl _).alloc _) _
  clear hS hR hne hc hfo
  go_enter Tryd.func66, Tryd.ntmps66
  (go_wp2_with fail); (go_at_call 114); refine (srcx_pick 9 g _ _ (by decide) (by omega) hS0).mono ?_; rintro e w1 ⟨r, rfl, r0, r1, hg1, hS1⟩
  have hO1 := own_src hO0 hg1 hgl
  have hG1 := grown_trans hG0 hg1
  clear hO0 hG0 hS0 hg1
  go_wp2_with fail
  go_loopg [5, 6] r.toNat (fun mm s5 s6 wr => ∃ (m gl cl : Nat) (ds : List Cd), m = mm ∧ s6 = .int .i64 ((m : Int)) ∧ s5 = .slice (some ⟨gl, 0, none⟩) ds.length cl ∧ m + ds.length ≤ 8 ∧ (∀ d ∈ ds, d.s.size ≤ 4) ∧ wr.ownsRow w.heap.size 108 3 (.slice (some ⟨gl, 0, none⟩) ds.length cl) ds.length (cds ds) ∧ w.grownBy wr (some g) ∧ Srcx wr g (97 - 12 * m))
  case atStart => exact ⟨_, w.heap.size, 0, [], rfl, by rw [Int.toNat_of_nonneg (by omega)], rfl, by simp; omega, fun f hf => (by simp at hf), by simpa [cds_nil] using hO1, hG1, hS1.more (by omega)⟩
  case round =>
    obtain ⟨m, gl, cl, ds, rfl, rfl, rfl, hml, hsm, hO, hG, hS⟩ := hrel
    have HS4 := Aside.mk hsm
    have HO := Aside.mk hO
    clear hsm hO hO1 hG1 hS1
    by_cases hm0 : 0 < m
    · (go_wp2_with fail); (go_at_call 118); (refine (spec_l02Named ds.length _ (by omega)).mono ?_); rintro e wn ⟨x, rfl, hx, hk2⟩
      have HO2 := Aside.mk (own_keep HO.out hk2)
      have hG2 := grown_trans hG (grown_keep hk2 _)
      have hS2 := hS.keep hk2
      have zg2 := hG2.size
      have zgl := HO2.out.lt gl rfl
      clear HO hG hS hk2
      have hOa := own_keep HO2.out ((Keep.refl _).alloc (.cells #[.string x, .int .u64 0, .int .u64 0] 108))
      have hGa := grown_trans hG2 (grown_keep ((Keep.refl _).alloc (.cells #[.string x, .int .u64 0, .int .u64 0] 108)) (some g))
      have hSa := hS2.keep ((Keep.refl _).alloc (.cells #[.string x, .int .u64 0, .int .u64 0] 108))
      have hCa := Bx.new wn #[.string x, .int .u64 0, .int .u64 0] 108
      clear HO2 hG2 hS2
      go_wp2_with fail
      go_loopg [8] fs.length (fun nn s8 wr => ∃ (i : Nat) (a b : Wd), i + nn = fs.length ∧ s8 = .int .i64 i ∧ Bx wr wn.heap.size #[.string x, .int .u64 (U a), .int .u64 (U b)] 108 ∧ wr.ownsRow w.heap.size 108 3 (.slice (some ⟨gl, 0, none⟩) ds.length cl) ds.length (cds ds) ∧ w.grownBy wr (some g) ∧ Srcx wr g (97 - 12 * m + 2 * i))
      case atStart => exact ⟨0, 0#64, 0#64, by omega, rfl, by rw [U_zero]; exact hCa, hOa, hGa, hSa⟩
      case round =>
        obtain ⟨i, a, b, hin, rfl, hC, hO, hG, hS⟩ := hrel
        have HO := Aside.mk hO
        have zG := hG.size
        have zC := hC.lt
        clear hO hCa hOa hGa hSa
        by_cases hlt : i < fs.length
        · have hfi := HF.out fs[i] (List.getElem_mem hlt)
          obtain ⟨r1, r2, r3, r4⟩ := fds_at fs i hlt
          generalize fs[i] = f at *
          obtain ⟨nm, k, st, sz⟩ := f
          obtain ⟨u1, u2, u3, u4, u5, u6, u7⟩ := hfi
          simp only at r1 r2 r3 r4 u1 u2 u3 u4 u5 u6 u7
          (go_wp2_with fail); (go_at_call 119); refine (src_one 8 g _ _ (by decide) (by omega) hS).mono ?_; rintro e w3 ⟨rr, rfl, hg3, hS3⟩
          have hG3 := grown_trans hG hg3
          have hC3 := hC.grownBy hg3 (by simp; omega)
          have HO3 := Aside.mk (own_src HO.out hg3 hgl)
          have z3 := hg3.size
          clear hG hC HO hS hg3
          cases hd : decide (rr = 0)
          · clear hd
            have hQa : ∀ W, w3.grownBy W (some g) → W.cell? ⟨bb, o + i * 4, none⟩ = some (.string nm) := fun W h => HC.out W (grown_trans hG3 h) _ _ r1
            have hQb : ∀ W, w3.grownBy W (some g) → W.cell? ⟨bb, o + i * 4 + 1, none⟩ = some (.int .i8 k) := fun W h => by rw [Nat.add_assoc]; exact HC.out W (grown_trans hG3 h) _ _ r2
            have hQc : ∀ W, w3.grownBy W (some g) → W.cell? ⟨bb, o + i * 4 + 2, none⟩ = some (.int .i16 st) := fun W h => by rw [Nat.add_assoc]; exact HC.out W (grown_trans hG3 h) _ _ r3
            have hQd : ∀ W, w3.grownBy W (some g) → W.cell? ⟨bb, o + i * 4 + 3, none⟩ = some (.int .i16 sz) := fun W h => by rw [Nat.add_assoc]; exact HC.out W (grown_trans hG3 h) _ _ r4
            have HM := Aside.mk (spec_l01Most nm k st sz bb (o + i * 4))
            obtain ⟨mo, hmo⟩ : ∃ mo, mostN k sz = mo := ⟨_, rfl⟩
            rw [hmo] at HM u6 u7
            have q1 : IntKind.i64.wrap (mo + 1) = mo + 1 := wrapI64 ⟨by omega, by omega⟩
            have HK := Aside.mk (fun (v : Int) (v0 : 0 ≤ v) (v1 : v < mo + 1) => spec_l01Code nm k st sz v bb (o + i * 4) (hz := u1) (h0 := u4) (h2 := u5) (v0 := v0) (v1 := by omega))
            clear r1 r2 r3 r4
            have hS := hS3
            go_wp2_with fail
            apply wp_region_src 15 [Fx (.pointer (some ⟨wn.heap.size, 1, none⟩)), Fx (.agg #[.int .u64 (U a), .int .u64 (U b)]), Fx (.slice (some ⟨bb, o, none⟩) fs.length cf), Fx (.int .i64 i), Fx (.pointer (some ⟨bb, o + i * 4, none⟩)), Fx (.pointer (some ⟨g, 0, none⟩)), Fx (.slice (some ⟨bb, o, none⟩) fs.length cf), Fx (.int .i64 i), Fx (.pointer (some ⟨bb, o + i * 4, none⟩)), Fx (.int .i64 mo), Fx (.int .i64 (mo + 1)), Pk (mo + 1), Fp (fun v => ∃ x y : Wd, v = .agg #[.int .u64 (U x), .int .u64 (U y)]), Fp (fun v => ∃ x y : Wd, v = .agg #[.int .u64 (U x), .int .u64 (U y)]), Fx (.pointer (some ⟨wn.heap.size, 1, none⟩))] 11 g ((97 - 12 * m + 2 * i + 1)) (by kernel_rfl) (by kernel_rfl) ⟨Fx.grow _ _, Fx.grow _ _, Fx.grow _ _, Fx.grow _ _, Fx.grow _ _, Fx.grow _ _, Fx.grow _ _, Fx.grow _ _, Fx.grow _ _, Fx.grow _ _, Fx.grow _ _, Fp.grow _ _, Fp.grow _ _, Fp.grow _ _, Fx.grow _ _, trivial⟩ (by decide) hS ?st11 ?tl11
            case st11 =>
              simp only [List.take_succ_cons, List.take_zero, List.drop_succ_cons, List.drop_zero, putAll, Act.put, List.setIfInBounds_toArray, List.set_cons_succ, List.set_cons_zero, Nat.zero_add, Nat.reduceAdd]
              refine StepsJ.cons _ _ _ ?_ (StepsJ.cons _ _ _ ?_ (StepsJ.cons _ _ _ ?_ (StepsJ.cons _ _ _ ?_ (StepsJ.cons _ _ _ ?_ (StepsJ.cons _ _ _ ?_ (StepsJ.cons _ _ _ ?_ (StepsJ.cons _ _ _ ?_ (StepsJ.cons _ _ _ ?_ (StepsJ.cons _ _ _ ?_ (StepsJ.cons _ _ _ ?_ (StepsJ.cons _ _ _ ?_ (StepsJ.cons _ _ _ ?_ (StepsJ.cons _ _ _ ?_ (StepsJ.cons _ _ _ ?_ (StepsJ.nil _)))))))))))))))
              focus
                intro v w2 bJ hb hJ hd
                have hgw := hJ.1
                have hgz := hgw.size
                obtain ⟨hC3_0, hC3_1, hC3_2, hC3_3, hC3_4, hC3_5, hC3_6⟩ := (hC3.grownBy hgw (by first | (simp; omega) | (simp; done) | (intro hcx; simp at hcx; omega))).three
                have hQa' := hQa _ hgw
                have hQb' := hQb _ hgw
                have hQc' := hQc _ hgw
                have hQd' := hQd _ hgw
                simp [DepsOf, factAt, Fx, Fp, Pk, Region.binds] at hd
                simp only [factAt, List.getD_cons_zero, List.getD_cons_succ]
                refine Gives.mk ?_
                go_simp
                first | exact ⟨js_other (by decide) (Keep.refl _), Fx.self _ _⟩ | exact ⟨js_other (by decide) ((Keep.refl _).alloc _), _, rfl, Bx.new _ _ _, by first | omega | (simp; omega)⟩
              focus
                intro v w2 bJ hb hJ hd
                have hgw := hJ.1
                have hgz := hgw.size
                obtain ⟨hC3_0, hC3_1, hC3_2, hC3_3, hC3_4, hC3_5, hC3_6⟩ := (hC3.grownBy hgw (by first | (simp; omega) | (simp; done) | (intro hcx; simp at hcx; omega))).three
                have hQa' := hQa _ hgw
                have hQb' := hQb _ hgw
                have hQc' := hQc _ hgw
                have hQd' := hQd _ hgw
                simp [DepsOf, factAt, Fx, Fp, Pk, Region.binds] at hd
                simp only [factAt, List.getD_cons_zero, List.getD_cons_succ]
                refine Gives.mk ?_
                go_simp
                first | exact ⟨js_other (by decide) (Keep.refl _), Fx.self _ _⟩ | exact ⟨js_other (by decide) ((Keep.refl _).alloc _), _, rfl, Bx.new _ _ _, by first | omega | (simp; omega)⟩
              focus
                intro v w2 bJ hb hJ hd
                have hgw := hJ.1
                have hgz := hgw.size
                obtain ⟨hC3_0, hC3_1, hC3_2, hC3_3, hC3_4, hC3_5, hC3_6⟩ := (hC3.grownBy hgw (by first | (simp; omega) | (simp; done) | (intro hcx; simp at hcx; omega))).three
                have hQa' := hQa _ hgw
                have hQb' := hQb _ hgw
                have hQc' := hQc _ hgw
                have hQd' := hQd _ hgw
                simp [DepsOf, factAt, Fx, Fp, Pk, Region.binds] at hd
                simp only [factAt, List.getD_cons_zero, List.getD_cons_succ]
                refine Gives.mk ?_
                go_simp
                first | exact ⟨js_other (by decide) (Keep.refl _), Fx.self _ _⟩ | exact ⟨js_other (by decide) ((Keep.refl _).alloc _), _, rfl, Bx.new _ _ _, by first | omega | (simp; omega)⟩
              focus
                intro v w2 bJ hb hJ hd
                have hgw := hJ.1
                have hgz := hgw.size
                obtain ⟨hC3_0, hC3_1, hC3_2, hC3_3, hC3_4, hC3_5, hC3_6⟩ := (hC3.grownBy hgw (by first | (simp; omega) | (simp; done) | (intro hcx; simp at hcx; omega))).three
                have hQa' := hQa _ hgw
                have hQb' := hQb _ hgw
                have hQc' := hQc _ hgw
                have hQd' := hQd _ hgw
                simp [DepsOf, factAt, Fx, Fp, Pk, Region.binds] at hd
                simp only [factAt, List.getD_cons_zero, List.getD_cons_succ]
                refine Gives.mk ?_
                go_simp
                first | exact ⟨js_other (by decide) (Keep.refl _), Fx.self _ _⟩ | exact ⟨js_other (by decide) ((Keep.refl _).alloc _), _, rfl, Bx.new _ _ _, by first | omega | (simp; omega)⟩
              focus
                intro v w2 bJ hb hJ hd
                have hgw := hJ.1
                have hgz := hgw.size
                obtain ⟨hC3_0, hC3_1, hC3_2, hC3_3, hC3_4, hC3_5, hC3_6⟩ := (hC3.grownBy hgw (by first | (simp; omega) | (simp; done) | (intro hcx; simp at hcx; omega))).three
                have hQa' := hQa _ hgw
                have hQb' := hQb _ hgw
                have hQc' := hQc _ hgw
                have hQd' := hQd _ hgw
                simp [DepsOf, factAt, Fx, Fp, Pk, Region.binds] at hd
                simp only [factAt, List.getD_cons_zero, List.getD_cons_succ]
                refine Gives.mk ?_
                go_simp
                first | exact ⟨js_other (by decide) (Keep.refl _), Fx.self _ _⟩ | exact ⟨js_other (by decide) ((Keep.refl _).alloc _), _, rfl, Bx.new _ _ _, by first | omega | (simp; omega)⟩
              focus
                intro v w2 bJ hb hJ hd
                have hgw := hJ.1
                have hgz := hgw.size
                obtain ⟨hC3_0, hC3_1, hC3_2, hC3_3, hC3_4, hC3_5, hC3_6⟩ := (hC3.grownBy hgw (by first | (simp; omega) | (simp; done) | (intro hcx; simp at hcx; omega))).three
                have hQa' := hQa _ hgw
                have hQb' := hQb _ hgw
                have hQc' := hQc _ hgw
                have hQd' := hQd _ hgw
                simp [DepsOf, factAt, Fx, Fp, Pk, Region.binds] at hd
                simp only [factAt, List.getD_cons_zero, List.getD_cons_succ]
                refine Gives.mk ?_
                go_simp
                first | exact ⟨js_other (by decide) (Keep.refl _), Fx.self _ _⟩ | exact ⟨js_other (by decide) ((Keep.refl _).alloc _), _, rfl, Bx.new _ _ _, by first | omega | (simp; omega)⟩
              focus
                intro v w2 bJ hb hJ hd
                have hgw := hJ.1
                have hgz := hgw.size
                obtain ⟨hC3_0, hC3_1, hC3_2, hC3_3, hC3_4, hC3_5, hC3_6⟩ := (hC3.grownBy hgw (by first | (simp; omega) | (simp; done) | (intro hcx; simp at hcx; omega))).three
                have hQa' := hQa _ hgw
                have hQb' := hQb _ hgw
                have hQc' := hQc _ hgw
                have hQd' := hQd _ hgw
                simp [DepsOf, factAt, Fx, Fp, Pk, Region.binds] at hd
                simp only [factAt, List.getD_cons_zero, List.getD_cons_succ]
                refine Gives.mk ?_
                go_simp
                first | exact ⟨js_other (by decide) (Keep.refl _), Fx.self _ _⟩ | exact ⟨js_other (by decide) ((Keep.refl _).alloc _), _, rfl, Bx.new _ _ _, by first | omega | (simp; omega)⟩
              focus
                intro v w2 bJ hb hJ hd
                have hgw := hJ.1
                have hgz := hgw.size
                obtain ⟨hC3_0, hC3_1, hC3_2, hC3_3, hC3_4, hC3_5, hC3_6⟩ := (hC3.grownBy hgw (by first | (simp; omega) | (simp; done) | (intro hcx; simp at hcx; omega))).three
                have hQa' := hQa _ hgw
                have hQb' := hQb _ hgw
                have hQc' := hQc _ hgw
                have hQd' := hQd _ hgw
                simp [DepsOf, factAt, Fx, Fp, Pk, Region.binds] at hd
                simp only [factAt, List.getD_cons_zero, List.getD_cons_succ]
                refine Gives.mk ?_
                go_simp
                first | exact ⟨js_other (by decide) (Keep.refl _), Fx.self _ _⟩ | exact ⟨js_other (by decide) ((Keep.refl _).alloc _), _, rfl, Bx.new _ _ _, by first | omega | (simp; omega)⟩
              focus
                intro v w2 bJ hb hJ hd
                have hgw := hJ.1
                have hgz := hgw.size
                obtain ⟨hC3_0, hC3_1, hC3_2, hC3_3, hC3_4, hC3_5, hC3_6⟩ := (hC3.grownBy hgw (by first | (simp; omega) | (simp; done) | (intro hcx; simp at hcx; omega))).three
                have hQa' := hQa _ hgw
                have hQb' := hQb _ hgw
                have hQc' := hQc _ hgw
                have hQd' := hQd _ hgw
                simp [DepsOf, factAt, Fx, Fp, Pk, Region.binds] at hd
                simp only [factAt, List.getD_cons_zero, List.getD_cons_succ]
                refine Gives.mk ?_
                go_simp
                first | exact ⟨js_other (by decide) (Keep.refl _), Fx.self _ _⟩ | exact ⟨js_other (by decide) ((Keep.refl _).alloc _), _, rfl, Bx.new _ _ _, by first | omega | (simp; omega)⟩
              focus
                intro v w2 bJ hb hJ hd
                have hgw := hJ.1
                have hgz := hgw.size
                obtain ⟨hC3_0, hC3_1, hC3_2, hC3_3, hC3_4, hC3_5, hC3_6⟩ := (hC3.grownBy hgw (by first | (simp; omega) | (simp; done) | (intro hcx; simp at hcx; omega))).three
                have hQa' := hQa _ hgw
                have hQb' := hQb _ hgw
                have hQc' := hQc _ hgw
                have hQd' := hQd _ hgw
                simp [DepsOf, factAt, Fx, Fp, Pk, Region.binds] at hd
                simp only [factAt, List.getD_cons_zero, List.getD_cons_succ]
                refine Gives.mk ?_
                go_simp
                first | exact ⟨js_other (by decide) (Keep.refl _), Fx.self _ _⟩ | exact ⟨js_other (by decide) ((Keep.refl _).alloc _), _, rfl, Bx.new _ _ _, by first | omega | (simp; omega)⟩ | (go_at_call 122; exact js_call (by decide) (HM.out _ u1 hQa' hQb' hQc' hQd'))
              focus
                intro v w2 bJ hb hJ hd
                have hgw := hJ.1
                have hgz := hgw.size
                obtain ⟨hC3_0, hC3_1, hC3_2, hC3_3, hC3_4, hC3_5, hC3_6⟩ := (hC3.grownBy hgw (by first | (simp; omega) | (simp; done) | (intro hcx; simp at hcx; omega))).three
                have hQa' := hQa _ hgw
                have hQb' := hQb _ hgw
                have hQc' := hQc _ hgw
                have hQd' := hQd _ hgw
                simp [DepsOf, factAt, Fx, Fp, Pk, Region.binds] at hd
                simp only [factAt, List.getD_cons_zero, List.getD_cons_succ]
                refine Gives.mk ?_
                go_simp
                first | exact ⟨js_other (by decide) (Keep.refl _), Fx.self _ _⟩ | exact ⟨js_other (by decide) ((Keep.refl _).alloc _), _, rfl, Bx.new _ _ _, by first | omega | (simp; omega)⟩
              focus
                intro v w2 bJ hb hJ hd
                have hgw := hJ.1
                have hgz := hgw.size
                obtain ⟨hC3_0, hC3_1, hC3_2, hC3_3, hC3_4, hC3_5, hC3_6⟩ := (hC3.grownBy hgw (by first | (simp; omega) | (simp; done) | (intro hcx; simp at hcx; omega))).three
                have hQa' := hQa _ hgw
                have hQb' := hQb _ hgw
                have hQc' := hQc _ hgw
                have hQd' := hQd _ hgw
                simp [DepsOf, factAt, Fx, Fp, Pk, Region.binds] at hd
                obtain rfl := hb rfl
                simp only [factAt, List.getD_cons_zero, List.getD_cons_succ]
                refine Gives.mk ?_
                go_simp
                first | (go_at_call 114; exact js_pick ⟨by omega, by omega⟩ (by omega) hJ)
              focus
                intro v w2 bJ hb hJ hd
                have hgw := hJ.1
                have hgz := hgw.size
                obtain ⟨hC3_0, hC3_1, hC3_2, hC3_3, hC3_4, hC3_5, hC3_6⟩ := (hC3.grownBy hgw (by first | (simp; omega) | (simp; done) | (intro hcx; simp at hcx; omega))).three
                have hQa' := hQa _ hgw
                have hQb' := hQb _ hgw
                have hQc' := hQc _ hgw
                have hQd' := hQd _ hgw
                simp [DepsOf, factAt, Fx, Fp, Pk, Region.binds] at hd
                obtain ⟨h4, r, hr, q0, q1⟩ := hd
                simp only [factAt, List.getD_cons_zero, List.getD_cons_succ]
                refine Gives.mk ?_
                go_simp
                first | exact ⟨js_other (by decide) (Keep.refl _), Fx.self _ _⟩ | exact ⟨js_other (by decide) ((Keep.refl _).alloc _), _, rfl, Bx.new _ _ _, by first | omega | (simp; omega)⟩ | (go_at_call 121; exact js_callp (by decide) (by exact ⟨_, _, rfl⟩) (HK.out _ q0 q1 _ hQa' hQb' hQc' hQd'))
              focus
                intro v w2 bJ hb hJ hd
                have hgw := hJ.1
                have hgz := hgw.size
                obtain ⟨hC3_0, hC3_1, hC3_2, hC3_3, hC3_4, hC3_5, hC3_6⟩ := (hC3.grownBy hgw (by first | (simp; omega) | (simp; done) | (intro hcx; simp at hcx; omega))).three
                have hQa' := hQa _ hgw
                have hQb' := hQb _ hgw
                have hQc' := hQc _ hgw
                have hQd' := hQd _ hgw
                simp [DepsOf, factAt, Fx, Fp, Pk, Region.binds] at hd
                obtain ⟨h1, x, y, hr⟩ := hd
                simp only [factAt, List.getD_cons_zero, List.getD_cons_succ]
                refine Gives.mk ?_
                go_simp
                first | exact ⟨js_other (by decide) (Keep.refl _), Fx.self _ _⟩ | exact ⟨js_other (by decide) ((Keep.refl _).alloc _), _, rfl, Bx.new _ _ _, by first | omega | (simp; omega)⟩ | (go_at_call 120; exact js_callp (by decide) (by exact ⟨_, _, rfl⟩) (spec_l01Join _ _ _ _ _))
              focus
                intro v w2 bJ hb hJ hd
                have hgw := hJ.1
                have hgz := hgw.size
                obtain ⟨hC3_0, hC3_1, hC3_2, hC3_3, hC3_4, hC3_5, hC3_6⟩ := (hC3.grownBy hgw (by first | (simp; omega) | (simp; done) | (intro hcx; simp at hcx; omega))).three
                have hQa' := hQa _ hgw
                have hQb' := hQb _ hgw
                have hQc' := hQc _ hgw
                have hQd' := hQd _ hgw
                simp [DepsOf, factAt, Fx, Fp, Pk, Region.binds] at hd
                simp only [factAt, List.getD_cons_zero, List.getD_cons_succ]
                refine Gives.mk ?_
                go_simp
                first | exact ⟨js_other (by decide) (Keep.refl _), Fx.self _ _⟩ | exact ⟨js_other (by decide) ((Keep.refl _).alloc _), _, rfl, Bx.new _ _ _, by first | omega | (simp; omega)⟩
            simp only [List.take_succ_cons, List.take_zero, List.drop_succ_cons, List.drop_zero, putAll, Act.put, List.setIfInBounds_toArray, List.set_cons_succ, List.set_cons_zero, Nat.zero_add, Nat.reduceAdd]
            intro v w2 hgw hS2 hh
            have hgz := hgw.size
            obtain ⟨hC3_0, hC3_1, hC3_2, hC3_3, hC3_4, hC3_5, hC3_6⟩ := (hC3.grownBy hgw (by first | (simp; omega) | (simp; done) | (intro hcx; simp at hcx; omega))).three
            have hQa' := hQa _ hgw
            have hQb' := hQb _ hgw
            have hQc' := hQc _ hgw
            have hQd' := hQd _ hgw
            simp only [Held, factAt, List.getD_cons_zero, List.getD_cons_succ, Fx, Fp, Pk, true_and] at hh
            obtain ⟨⟨⟨⟨⟨⟨⟨⟨⟨⟨⟨⟨⟨⟨v_0, v_1⟩, v_2⟩, v_3⟩, v_4⟩, v_5⟩, v_6⟩, v_7⟩, v_8⟩, v_9⟩, v_10⟩, v_11⟩, v_12⟩, v_13⟩, v_14⟩ := hh
            simp only [v_0, v_1, v_2, v_3, v_4, v_5, v_6, v_7, v_8, v_9, v_10, v_14]
            obtain ⟨a2, b2, e13⟩ := v_13
            simp only [e13]
            have hG4 := grown_trans hG3 hgw
            have hC4 := hC3.grownBy hgw (by simp; omega)
            have hs2 := grown_trans (grown_set1 w2 wn.heap.size 1 (.int .u64 (U a2))) (grown_set1 _ wn.heap.size 2 (.int .u64 (U b2)))
            have HO5 := Aside.mk ((own_src HO3.out hgw hgl).kept hs2 (.inr (by simp [Value.ownBlock]; omega)))
            have HG5 := Aside.mk (grown_own hG4 hs2 (fun k hk => by cases hk; omega))
            have HS5 := Aside.mk (hS2.grown hs2 (fun k hk => by cases hk; omega))
            have HC5 := Aside.mk ((hC4.set (i := 1) (.int .u64 (U a2))).set (i := 2) (.int .u64 (U b2)))
            have hC4s := hC4.three
            clear hG3 hC3 HO3 hS3 hG4 hs2 hS2 hgw hC4 hS v_11 v_12 e13 hQa hQb hQc hQd HM HK
            go_wp2
            go_roundg (fs.length - (i + 1))
            case measure => omega
            case rel => exact ⟨i + 1, a2, b2, by omega, by go_num, by simpa using HC5.out, HO5.out, HG5.out, HS5.out.more (by omega)⟩
          · have HG := Aside.mk hG3
            have HC3 := Aside.mk hC3
            have HS3 := Aside.mk hS3
            clear hd hG3 hC3 hS3 r1 r2 r3 r4
            go_wp2
            go_roundg (fs.length - (i + 1))
            case measure => omega
            case rel => exact ⟨i + 1, a, b, by omega, by go_num, HC3.out, HO3.out, HG.out, HS3.out.more (by omega)⟩
        · have hil : i = fs.length := by omega
          subst hil
          clear hlt hin
          (go_wp2_with fail); (go_at_call 119); refine (src_one 8 g _ _ (by decide) (by omega) hS).mono ?_; rintro e w3 ⟨rr, rfl, hg3, hS3⟩
          have hG3 := grown_trans hG hg3
          have hC3 := hC.grownBy hg3 (by simp; omega)
          have HO3 := Aside.mk (own_src HO.out hg3 hgl)
          have z3 := hg3.size
          clear hG hC HO hS hg3
          cases hd : decide (rr = 0)
          · clear hd
            have hCz := hC3
            have HOz := HO3
            have HGz := Aside.mk hG3
            have HSz := Aside.mk hS3
            clear hC3 HO3 hG3 hS3
            have hCs := hCz.three
            have zz1 := HGz.out.size
            have zz2 := hCz.lt
            have hcard : (w3.alloc (.cells #[.string x, .int .u64 (U a), .int .u64 (U b)] 108)).heap.size = w3.heap.size + 1 := by simp
            go_wp2_with (at_builtin; refine wpList_append_lies _ rfl _ _ 26 rfl w.heap.size 108 i0 (.agg #[.string ByteArray.empty, .int .u64 0, .int .u64 0]) 3 32 Tryd.underlying26 hi0 hz0 hz1 hz2 rfl (by decide) _ _ _ rfl (own_keep HOz.out ((Keep.refl _).alloc _)) ⟨w3.heap.size, 0, none⟩ 1 1 [.string x, .int .u64 (U a), .int .u64 (U b)] rfl rfl ?c1 ?c2 (by decide) ?c3 ?c4 ?c5 _ rfl ?_)
            case c1 => exact World.news_of_block (Bx.new w3 #[.string x, .int .u64 (U a), .int .u64 (U b)] 108)
            case c2 => intro u hu; simp at hu; rcases hu with rfl | rfl | rfl <;> rfl
            case c3 => unfold maxLen; omega
            case c4 => omega
            case c5 => simp at zz1 ⊢; omega
            intro g' cap wd6 hown hg hat hg3
            have hgr : ∀ k, (Value.slice (some ⟨gl, 0, none⟩) ds.length cl).ownBlock = some k → k = gl := fun k hk => by simp [Value.ownBlock] at hk; exact hk.symm
            have HO6 := Aside.mk hown
            have HG6 := Aside.mk (grown_own (grown_trans HGz.out (grown_keep ((Keep.refl _).alloc (.cells #[.string x, .int .u64 (U a), .int .u64 (U b)] 108)) _)) hg (fun k hk => by have := hgr k hk; omega))
            have HS6 := Aside.mk ((HSz.out.keep ((Keep.refl _).alloc (.cells #[.string x, .int .u64 (U a), .int .u64 (U b)] 108))).grown hg (fun k hk => by have := hgr k hk; omega))
            have HD6 : Aside (∀ y ∈ ds ++ [⟨x, a, b⟩], y.s.size ≤ 4) := Aside.mk (fun y hy => by
              rcases List.mem_append.1 hy with h | h
              · exact HS4.out y h
              · simp at h; subst h; exact hx)
            clear hown hg hat hgr hCs hCz HOz HGz HSz hcard
            go_wp2
            go_roundg (m - 1)
            case measure => omega
            case rel => exact ⟨m - 1, g', cap, ds ++ [⟨x, a, b⟩], rfl, by rw [show ((m - 1 : Nat) : Int) = (m : Int) - 1 by omega], by rw [List.length_append]; rfl, by rw [List.length_append]; simp; omega, HD6.out, by rw [List.length_append, cds_app]; exact HO6.out, HG6.out, HS6.out.more (by omega)⟩
          · clear hd
            have hS := hS3
            go_wp2_with fail
            apply wp_region_src 7 [Fx (.pointer (some ⟨wn.heap.size, 1, none⟩)), Fx (.agg #[.int .u64 (U a), .int .u64 (U b)]), Fx (.pointer (some ⟨g, 0, none⟩)), Pk 96, Fp (fun v => ∃ x y : Wd, v = .agg #[.int .u64 (U x), .int .u64 (U y)]), Fp (fun v => ∃ x y : Wd, v = .agg #[.int .u64 (U x), .int .u64 (U y)]), Fx (.pointer (some ⟨wn.heap.size, 1, none⟩))] 3 g ((97 - 12 * m + 2 * fs.length + 1)) (by kernel_rfl) (by kernel_rfl) ⟨Fx.grow _ _, Fx.grow _ _, Fx.grow _ _, Fp.grow _ _, Fp.grow _ _, Fp.grow _ _, Fx.grow _ _, trivial⟩ (by decide) hS ?st12 ?tl12
            case st12 =>
              simp only [List.take_succ_cons, List.take_zero, List.drop_succ_cons, List.drop_zero, putAll, Act.put, List.setIfInBounds_toArray, List.set_cons_succ, List.set_cons_zero, Nat.zero_add, Nat.reduceAdd]
              refine StepsJ.cons _ _ _ ?_ (StepsJ.cons _ _ _ ?_ (StepsJ.cons _ _ _ ?_ (StepsJ.cons _ _ _ ?_ (StepsJ.cons _ _ _ ?_ (StepsJ.cons _ _ _ ?_ (StepsJ.cons _ _ _ ?_ (StepsJ.nil _)))))))
              focus
                intro v w2 bJ hb hJ hd
                have hgw := hJ.1
                have hgz := hgw.size
                obtain ⟨hC3_0, hC3_1, hC3_2, hC3_3, hC3_4, hC3_5, hC3_6⟩ := (hC3.grownBy hgw (by first | (simp; omega) | (simp; done) | (intro hcx; simp at hcx; omega))).three
                simp [DepsOf, factAt, Fx, Fp, Pk, Region.binds] at hd
                simp only [factAt, List.getD_cons_zero, List.getD_cons_succ]
                refine Gives.mk ?_
                go_simp
                first | exact ⟨js_other (by decide) (Keep.refl _), Fx.self _ _⟩ | exact ⟨js_other (by decide) ((Keep.refl _).alloc _), _, rfl, Bx.new _ _ _, by first | omega | (simp; omega)⟩
              focus
                intro v w2 bJ hb hJ hd
                have hgw := hJ.1
                have hgz := hgw.size
                obtain ⟨hC3_0, hC3_1, hC3_2, hC3_3, hC3_4, hC3_5, hC3_6⟩ := (hC3.grownBy hgw (by first | (simp; omega) | (simp; done) | (intro hcx; simp at hcx; omega))).three
                simp [DepsOf, factAt, Fx, Fp, Pk, Region.binds] at hd
                simp only [factAt, List.getD_cons_zero, List.getD_cons_succ]
                refine Gives.mk ?_
                go_simp
                first | exact ⟨js_other (by decide) (Keep.refl _), Fx.self _ _⟩ | exact ⟨js_other (by decide) ((Keep.refl _).alloc _), _, rfl, Bx.new _ _ _, by first | omega | (simp; omega)⟩
              focus
                intro v w2 bJ hb hJ hd
                have hgw := hJ.1
                have hgz := hgw.size
                obtain ⟨hC3_0, hC3_1, hC3_2, hC3_3, hC3_4, hC3_5, hC3_6⟩ := (hC3.grownBy hgw (by first | (simp; omega) | (simp; done) | (intro hcx; simp at hcx; omega))).three
                simp [DepsOf, factAt, Fx, Fp, Pk, Region.binds] at hd
                simp only [factAt, List.getD_cons_zero, List.getD_cons_succ]
                refine Gives.mk ?_
                go_simp
                first | exact ⟨js_other (by decide) (Keep.refl _), Fx.self _ _⟩ | exact ⟨js_other (by decide) ((Keep.refl _).alloc _), _, rfl, Bx.new _ _ _, by first | omega | (simp; omega)⟩
              focus
                intro v w2 bJ hb hJ hd
                have hgw := hJ.1
                have hgz := hgw.size
                obtain ⟨hC3_0, hC3_1, hC3_2, hC3_3, hC3_4, hC3_5, hC3_6⟩ := (hC3.grownBy hgw (by first | (simp; omega) | (simp; done) | (intro hcx; simp at hcx; omega))).three
                simp [DepsOf, factAt, Fx, Fp, Pk, Region.binds] at hd
                obtain rfl := hb rfl
                simp only [factAt, List.getD_cons_zero, List.getD_cons_succ]
                refine Gives.mk ?_
                go_simp
                first | (go_at_call 114; exact js_pick ⟨by omega, by omega⟩ (by omega) hJ)
              focus
                intro v w2 bJ hb hJ hd
                have hgw := hJ.1
                have hgz := hgw.size
                obtain ⟨hC3_0, hC3_1, hC3_2, hC3_3, hC3_4, hC3_5, hC3_6⟩ := (hC3.grownBy hgw (by first | (simp; omega) | (simp; done) | (intro hcx; simp at hcx; omega))).three
                simp [DepsOf, factAt, Fx, Fp, Pk, Region.binds] at hd
                obtain ⟨r, hr, q0, q1⟩ := hd
                simp only [factAt, List.getD_cons_zero, List.getD_cons_succ]
                refine Gives.mk ?_
                go_simp
                first | exact ⟨js_other (by decide) (Keep.refl _), Fx.self _ _⟩ | exact ⟨js_other (by decide) ((Keep.refl _).alloc _), _, rfl, Bx.new _ _ _, by first | omega | (simp; omega)⟩ | (go_at_call 123; exact js_callp (by decide) (by exact ⟨_, _, rfl⟩) (spec_l01Bit r q0 q1 _))
              focus
                intro v w2 bJ hb hJ hd
                have hgw := hJ.1
                have hgz := hgw.size
                obtain ⟨hC3_0, hC3_1, hC3_2, hC3_3, hC3_4, hC3_5, hC3_6⟩ := (hC3.grownBy hgw (by first | (simp; omega) | (simp; done) | (intro hcx; simp at hcx; omega))).three
                simp [DepsOf, factAt, Fx, Fp, Pk, Region.binds] at hd
                obtain ⟨h1, x, y, hr⟩ := hd
                simp only [factAt, List.getD_cons_zero, List.getD_cons_succ]
                refine Gives.mk ?_
                go_simp
                first | exact ⟨js_other (by decide) (Keep.refl _), Fx.self _ _⟩ | exact ⟨js_other (by decide) ((Keep.refl _).alloc _), _, rfl, Bx.new _ _ _, by first | omega | (simp; omega)⟩ | (go_at_call 120; exact js_callp (by decide) (by exact ⟨_, _, rfl⟩) (spec_l01Join _ _ _ _ _))
              focus
                intro v w2 bJ hb hJ hd
                have hgw := hJ.1
                have hgz := hgw.size
                obtain ⟨hC3_0, hC3_1, hC3_2, hC3_3, hC3_4, hC3_5, hC3_6⟩ := (hC3.grownBy hgw (by first | (simp; omega) | (simp; done) | (intro hcx; simp at hcx; omega))).three
                simp [DepsOf, factAt, Fx, Fp, Pk, Region.binds] at hd
                simp only [factAt, List.getD_cons_zero, List.getD_cons_succ]
                refine Gives.mk ?_
                go_simp
                first | exact ⟨js_other (by decide) (Keep.refl _), Fx.self _ _⟩ | exact ⟨js_other (by decide) ((Keep.refl _).alloc _), _, rfl, Bx.new _ _ _, by first | omega | (simp; omega)⟩
            simp only [List.take_succ_cons, List.take_zero, List.drop_succ_cons, List.drop_zero, putAll, Act.put, List.setIfInBounds_toArray, List.set_cons_succ, List.set_cons_zero, Nat.zero_add, Nat.reduceAdd]
            intro v w2 hgw hS2 hh
            have hgz := hgw.size
            obtain ⟨hC3_0, hC3_1, hC3_2, hC3_3, hC3_4, hC3_5, hC3_6⟩ := (hC3.grownBy hgw (by first | (simp; omega) | (simp; done) | (intro hcx; simp at hcx; omega))).three
            simp only [Held, factAt, List.getD_cons_zero, List.getD_cons_succ, Fx, Fp, Pk, true_and] at hh
            obtain ⟨⟨⟨⟨⟨⟨v_0, v_1⟩, v_2⟩, v_3⟩, v_4⟩, v_5⟩, v_6⟩ := hh
            simp only [v_0, v_1, v_2, v_6]
            obtain ⟨a2, b2, e5⟩ := v_5
            simp only [e5]
            have hG4 := grown_trans hG3 hgw
            have hC4 := hC3.grownBy hgw (by simp; omega)
            have hs2 := grown_trans (grown_set1 w2 wn.heap.size 1 (.int .u64 (U a2))) (grown_set1 _ wn.heap.size 2 (.int .u64 (U b2)))
            have HOz := Aside.mk ((own_src HO3.out hgw hgl).kept hs2 (.inr (by simp [Value.ownBlock]; omega)))
            have HGz := Aside.mk (grown_own hG4 hs2 (fun k hk => by cases hk; omega))
            have HSz := Aside.mk (hS2.grown hs2 (fun k hk => by cases hk; omega))
            have hCz : Bx ((w2.setCell ⟨wn.heap.size, 1, none⟩ (.int .u64 (U a2))).setCell ⟨wn.heap.size, 2, none⟩ (.int .u64 (U b2))) wn.heap.size #[.string x, .int .u64 (U a2), .int .u64 (U b2)] 108 := by simpa using (hC4.set (i := 1) (.int .u64 (U a2))).set (i := 2) (.int .u64 (U b2))
            have hC4s := hC4.three
            clear hG3 hC3 HO3 hS3 hG4 hs2 hS2 hgw hC4 hS v_3 v_4 e5
            have hCs := hCz.three
            have zz1 := HGz.out.size
            have zz2 := hCz.lt
            have hcard : (((w2.setCell ⟨wn.heap.size, 1, none⟩ (.int .u64 (U a2))).setCell ⟨wn.heap.size, 2, none⟩ (.int .u64 (U b2))).alloc (.cells #[.string x, .int .u64 (U a2), .int .u64 (U b2)] 108)).heap.size = w2.heap.size + 1 := by simp
            go_wp2_with (at_builtin; refine wpList_append_lies _ rfl _ _ 26 rfl w.heap.size 108 i0 (.agg #[.string ByteArray.empty, .int .u64 0, .int .u64 0]) 3 32 Tryd.underlying26 hi0 hz0 hz1 hz2 rfl (by decide) _ _ _ rfl (own_keep HOz.out ((Keep.refl _).alloc _)) ⟨w2.heap.size, 0, none⟩ 1 1 [.string x, .int .u64 (U a2), .int .u64 (U b2)] rfl rfl ?c1 ?c2 (by decide) ?c3 ?c4 ?c5 _ rfl ?_)
            case c1 => have h := World.news_of_block (Bx.new ((w2.setCell ⟨wn.heap.size, 1, none⟩ (.int .u64 (U a2))).setCell ⟨wn.heap.size, 2, none⟩ (.int .u64 (U b2))) #[.string x, .int .u64 (U a2), .int .u64 (U b2)] 108); simpa using h
            case c2 => intro u hu; simp at hu; rcases hu with rfl | rfl | rfl <;> rfl
            case c3 => unfold maxLen; omega
            case c4 => omega
            case c5 => simp at zz1 ⊢; omega
            intro g' cap wd6 hown hg hat hg3
            have hgr : ∀ k, (Value.slice (some ⟨gl, 0, none⟩) ds.length cl).ownBlock = some k → k = gl := fun k hk => by simp [Value.ownBlock] at hk; exact hk.symm
            have HO6 := Aside.mk hown
            have HG6 := Aside.mk (grown_own (grown_trans HGz.out (grown_keep ((Keep.refl _).alloc (.cells #[.string x, .int .u64 (U a2), .int .u64 (U b2)] 108)) _)) hg (fun k hk => by have := hgr k hk; omega))
            have HS6 := Aside.mk ((HSz.out.keep ((Keep.refl _).alloc (.cells #[.string x, .int .u64 (U a2), .int .u64 (U b2)] 108))).grown hg (fun k hk => by have := hgr k hk; omega))
            have HD6 : Aside (∀ y ∈ ds ++ [⟨x, a2, b2⟩], y.s.size ≤ 4) := Aside.mk (fun y hy => by
              rcases List.mem_append.1 hy with h | h
              · exact HS4.out y h
              · simp at h; subst h; exact hx)
            clear hown hg hat hgr hCs hCz HOz HGz HSz hcard
            go_wp2
            go_roundg (m - 1)
            case measure => omega
            case rel => exact ⟨m - 1, g', cap, ds ++ [⟨x, a2, b2⟩], rfl, by rw [show ((m - 1 : Nat) : Int) = (m : Int) - 1 by omega], by rw [List.length_append]; rfl, by rw [List.length_append]; simp; omega, HD6.out, by rw [List.length_append, cds_app]; exact HO6.out, HG6.out, HS6.out.more (by omega)⟩
    · obtain rfl : m = 0 := by omega
      have HG := Aside.mk hG
      clear hG hS
      go_wp2
      go_ret; exact ⟨gl, cl, ds, rfl, by omega, HS4.out, HO.out, HG.out⟩
end Go.Proofs.YtpmilcfppcmodaaDoor

set_option linter.unusedVariables false
set_option linter.unusedSimpArgs false
namespace Go.Proofs.YtpmilcfppcmodaaDoor
open Go.RowKit
set_option maxHeartbeats 2000000
set_option maxRecDepth 20000
theorem spec_A2Scheme (S : Option Addr) (l : List UInt8) (c : Nat) (w : World) (hm : l.length ≤ 9223372036854775807) (hR : Rd w S (bys l)) :
    Calls Tryd.prog 16 #[.slice S l.length c] w fun e w' => ∃ (v : Value) (fs : List Fd), e = .returned v ∧ 1 ≤ fs.length ∧ fs.length ≤ 5 ∧ (∀ f ∈ fs, fOk f) ∧ w'.ownsRow w.heap.size 89 4 v fs.length (fds fs) ∧ Keep w w' := by
  go_enter Tryd.func16, Tryd.ntmps16
  (go_wp2_with fail); (go_at_call 65); refine (srcx_from S l c _ hm hR).mono ?_; rintro e w1 ⟨g, rfl, hg, hk1, hS⟩
  (go_wp2_with fail); (go_at_call 64); refine (src_l01Drawn g _ hS).mono ?_; rintro e w2 ⟨v, fs, rfl, h1, h5, hfo, hO, hG⟩
  have k2 : Keep w w2 := hk1.grown hG (fun k hk => by cases hk; omega)
  have HO := Aside.mk (own_base hO hk1.size)
  have HF := Aside.mk hfo
  have HL := Aside.mk (And.intro h1 h5)
  clear hO hfo hG hS hk1 h1 h5
  go_wp2
  go_ret; exact ⟨v, fs, rfl, HL.out.1, HL.out.2, HF.out, HO.out, k2⟩
theorem spec_A2Deck (S : Option Addr) (l : List UInt8) (c : Nat) (A : Option Addr) (fs : List Fd) (cf : Nat) (w : World) (hm : l.length ≤ 9223372036854775807) (hR : Rd w S (bys l)) (hn0 : 1 ≤ fs.length ∧ fs.length ≤ 5) (hfo : ∀ f ∈ fs, fOk f) (hF : Rd w A (fds fs)) :
    Calls Tryd.prog 17 #[.slice S l.length c, .slice A fs.length cf] w fun e w' => ∃ (gd cd : Nat) (ds : List Cd), e = .returned (.slice (some ⟨gd, 0, none⟩) ds.length cd) ∧ ds.length ≤ 8 ∧ (∀ d ∈ ds, d.s.size ≤ 4) ∧ w'.ownsRow w.heap.size 108 3 (.slice (some ⟨gd, 0, none⟩) ds.length cd) ds.length (cds ds) ∧ Keep w w' := by
  have HA : Aside (∀ b o, A = some ⟨b, o, none⟩ → b < w.heap.size) := Aside.mk (fun b o hb => by
    subst hb
    rcases hF with h | ⟨b', o', h, hc⟩
    · have := congrArg List.length h
      rw [fds_len] at this
      simp at this; omega
    · simp only [Option.some.injEq, Addr.mk.injEq, and_true] at h
      obtain ⟨rfl, rfl⟩ := h
      obtain ⟨r1, _⟩ := fds_at fs 0 (by omega)
      have := World.block_lt_of_cell? w _ (hc _ _ r1)
      simpa using this)
  go_enter Tryd.func17, Tryd.ntmps17
  (go_wp2_with fail); (go_at_call 65); refine (srcx_from S l c _ hm hR).mono ?_; rintro e w1 ⟨g, rfl, hg, hk1, hS⟩
  (go_wp2_with fail); (go_at_call 66); refine (src_l02Drawn A fs cf g _ hn0 hfo (hF.keep hk1) (fun b o hb => by have := HA.out b o hb; omega) hS).mono ?_; rintro e w2 ⟨gd, cd, ds, rfl, h8, hsz, hO, hG⟩
  have k2 : Keep w w2 := hk1.grown hG (fun k hk => by cases hk; omega)
  have HO := Aside.mk (own_base hO hk1.size)
  have HZ := Aside.mk (And.intro h8 hsz)
  clear hO hfo hG hS hk1 h8 hsz
  go_wp2
  go_ret; exact ⟨gd, cd, ds, rfl, HZ.out.1, HZ.out.2, HO.out, k2⟩
end Go.Proofs.YtpmilcfppcmodaaDoor

set_option linter.unusedVariables false
set_option linter.unusedSimpArgs false
namespace Go.Proofs.YtpmilcfppcmodaaDoor
open Go.RowKit
set_option maxHeartbeats 4000000
set_option maxRecDepth 20000
theorem wid_pos {k z : Int} (h : okSz k z) : 1 ≤ widthN k z := by
  obtain ⟨h1, ⟨rfl, _⟩ | ⟨rfl, _⟩ | ⟨rfl, _⟩ | ⟨rfl, _⟩⟩ := h <;> simp [widthN] <;> omega
theorem set2_grown (w : World) (f i j : Nat) (a b : Value) : w.grownBy ((w.setCell ⟨f, i, none⟩ a).setCell ⟨f, j, none⟩ b) (some f) :=
  grown_trans (grown_set1 _ _ _ _) (grown_set1 _ _ _ _)
theorem src_l02Asking (A : Option Addr) (fs : List Fd) (cf g : Nat) (w : World) (hn0 : 1 ≤ fs.length ∧ fs.length ≤ 5) (hfo : ∀ f ∈ fs, fOk f) (hR : Rd w A (fds fs)) (hne : ∀ b o, A = some ⟨b, o, none⟩ → b ≠ g) (hS : Srcx w g 0) :
    Calls Tryd.prog 70 #[.pointer (some ⟨g, 0, none⟩), .slice A fs.length cf] w fun e w' => ∃ a b c d : Wd, e = .returned (.agg #[.int .u64 (U a), .int .u64 (U b), .int .u64 (U c), .int .u64 (U d)]) ∧ w.grownBy w' (some g) := by
  obtain ⟨bb, o, rfl, hc⟩ := hR.at (k := 0) (by rw [fds_len]; omega)
  have hbg : bb ≠ g := hne _ _ rfl
  have HC : Aside (∀ W, w.grownBy W (some g) → ∀ j v, (fds fs)[j]? = some v → W.cell? ⟨bb, o + j, none⟩ = some v) := Aside.mk (fun W h j v hj => h.cell (hc j v hj) (by simpa using hbg))
  have HF := Aside.mk hfo
  have hz := hS.lt
  have hA := (Bx.new w #[.int .u64 0, .int .u64 0, .int .u64 0, .int .u64 0] 35).alloc (.cells #[.int .u64 0, .int .u64 0, .int .u64 0, .int .u64 0] 35)
  have hM := Bx.new1 w (.cells #[.int .u64 0, .int .u64 0, .int .u64 0, .int .u64 0] 35) #[.int .u64 0, .int .u64 0, .int .u64 0, .int .u64 0] 35
  have hS0 := (hS.keep ((Keep.refl w).alloc (.cells #[.int .u64 0, .int .u64 0, .int .u64 0, .int .u64 0] 35))).keep ((Keep.refl _).alloc (.cells #[.int .u64 0, .int .u64 0, .int .u64 0, .int .u64 0] 35))
  have hG0 : w.grownBy ((w.alloc (.cells #[.int .u64 0, .int .u64 0, .int .u64 0, .int .u64 0] 35)).alloc (.cells #[.int .u64 0, .int .u64 0, .int .u64 0, .int .u64 0] 35)) (some g) := grown_keep (((Keep.refl w).alloc _).alloc _) _
  clear hS hR hne hc hfo
  go_enter Tryd.func70, Tryd.ntmps70
  (go_wp2_with fail); (go_at_call 114); refine (srcx_pick fs.length g _ _ ⟨by omega, by omega⟩ (by omega) hS0).mono ?_; rintro e w1 ⟨r, rfl, r0, r1, hg1, hS1⟩
  obtain ⟨n, rfl⟩ : ∃ n : Nat, r = n := ⟨r.toNat, by omega⟩
  have hn : n < fs.length := by omega
  replace hA := hA.grownBy hg1 (by simp; omega)
  replace hM := hM.grownBy hg1 (by simp; omega)
  have hG1 := grown_trans hG0 hg1
  have hfi := HF.out fs[n] (List.getElem_mem hn)
  obtain ⟨e1, e2, e3, e4⟩ := fds_at fs n hn
  generalize fs[n] = f at *
  obtain ⟨nm, k, st, sz⟩ := f
  obtain ⟨u1, u2, u3, u4, u5, u6, u7⟩ := hfi
  simp only at e1 e2 e3 e4 u1 u2 u3 u4 u5 u6 u7
  have HQa : Aside (∀ W, w.grownBy W (some g) → W.cell? ⟨bb, o + n * 4, none⟩ = some (.string nm)) := Aside.mk (fun W h => HC.out W h _ _ e1)
  have HQb : Aside (∀ W, w.grownBy W (some g) → W.cell? ⟨bb, o + n * 4 + 1, none⟩ = some (.int .i8 k)) := Aside.mk (fun W h => by rw [Nat.add_assoc]; exact HC.out W h _ _ e2)
  have HQc : Aside (∀ W, w.grownBy W (some g) → W.cell? ⟨bb, o + n * 4 + 2, none⟩ = some (.int .i16 st)) := Aside.mk (fun W h => by rw [Nat.add_assoc]; exact HC.out W h _ _ e3)
  have HQd : Aside (∀ W, w.grownBy W (some g) → W.cell? ⟨bb, o + n * 4 + 3, none⟩ = some (.int .i16 sz)) := Aside.mk (fun W h => by rw [Nat.add_assoc]; exact HC.out W h _ _ e4)
  have HM := Aside.mk (spec_l01Most nm k st sz bb (o + n * 4))
  obtain ⟨mo, hmo⟩ : ∃ mo, mostN k sz = mo := ⟨_, rfl⟩
  rw [hmo] at HM u6 u7
  have q1 : IntKind.i64.wrap (mo + 1) = mo + 1 := wrapI64 ⟨by omega, by omega⟩
  have HK := Aside.mk (fun (v : Int) (v0 : 0 ≤ v) (v1 : v < mo + 1) => spec_l01Code nm k st sz v bb (o + n * 4) (hz := u1) (h0 := u4) (h2 := u5) (v0 := v0) (v1 := by omega))
  clear e1 e2 e3 e4 hmo HC HF hG0 hS0 hg1
  (go_wp2_with fail); (go_at_call 122); refine (HM.out _ u1 (HQa.out _ hG1) (HQb.out _ hG1) (HQc.out _ hG1) (HQd.out _ hG1)).mono ?_; rintro e w2 ⟨rfl, hk2⟩
  replace hA := hA.keep hk2
  replace hM := hM.keep hk2
  have hG2 := grown_trans hG1 (grown_keep hk2 _)
  have hS2 := hS1.keep hk2
  clear hG1 hS1 hk2 HM
  (go_wp2_with fail); (go_at_call 114); refine (srcx_pick (mo + 1) g _ _ ⟨by omega, by omega⟩ (by omega) hS2).mono ?_; rintro e w3 ⟨v, rfl, v0, v1, hg3, hS3⟩
  replace hA := hA.grownBy hg3 (by simp; omega)
  replace hM := hM.grownBy hg3 (by simp; omega)
  have hG3 := grown_trans hG2 hg3
  clear hG2 hS2 hg3
  (go_wp2_with fail); (go_at_call 121); refine (HK.out v v0 v1 _ (HQa.out _ hG3) (HQb.out _ hG3) (HQc.out _ hG3) (HQd.out _ hG3)).mono ?_; rintro e w4 ⟨rfl, hk4⟩
  generalize encLo k st sz v = x at *
  generalize encHi k st sz v = y at *
  have hT := Bx.new w4 #[.int .u64 (U x), .int .u64 (U y)] 33
  replace hA := (hA.keep hk4).alloc (.cells #[.int .u64 (U x), .int .u64 (U y)] 33)
  have zz : w.heap.size + 1 < w4.heap.size := (hM.keep hk4).lt
  replace hM := (hM.keep hk4).alloc (.cells #[.int .u64 (U x), .int .u64 (U y)] 33)
  have hG4 := grown_trans (grown_trans hG3 (grown_keep hk4 _)) (grown_keep ((Keep.refl _).alloc (.cells #[.int .u64 (U x), .int .u64 (U y)] 33)) _)
  have hS4 := (hS3.keep hk4).keep ((Keep.refl _).alloc (.cells #[.int .u64 (U x), .int .u64 (U y)] 33))
  have z4 := hG4.size
  clear hG3 hS3 hk4 HK
  (go_wp2_with fail); (go_at_call 114); refine (srcx_pick 4 g _ _ (by decide) (by omega) hS4).mono ?_; rintro e w5 ⟨r2, rfl, p0, p1, hg5, hS5⟩
  replace hA := hA.grownBy hg5 (by simp; omega)
  replace hM := hM.grownBy hg5 (by simp; omega)
  replace hT := hT.grownBy hg5 (by simp; omega)
  have hG5 := grown_trans hG4 hg5
  clear hG4 hS4 hg5
  rcases (show r2 = 0 ∨ r2 = 1 ∨ r2 = 2 ∨ r2 = 3 by omega) with rfl | rfl | rfl | rfl
  · have hTs := hT.two
    have hMs := hM.four
    have hs := set2_grown w5 (w.heap.size + 1) 0 1 (.int .u64 (U x)) (.int .u64 (U y))
    have hM6 := (hM.set (i := 0) (.int .u64 (U x))).set (i := 1) (.int .u64 (U y))
    have hA6 := hA.grownBy hs (by simp)
    have hS6 := hS5.grown hs (fun k hk => by cases hk; omega)
    have hG6 := grown_own hG5 hs (fun k hk => by cases hk; omega)
    clear hM hA hS5 hG5 hs hT
    (go_wp2_with fail); (go_at_call 119); refine (src_one 20 g _ _ (by decide) (by omega) hS6).mono ?_; rintro e w6 ⟨rr, rfl, hg6, hS7⟩
    have hA7 := hA6.grownBy hg6 (by simp; omega)
    have hM7 := hM6.grownBy hg6 (by simp; omega)
    have hG7 := grown_trans hG6 hg6
    clear hTs hMs hM6 hA6 hS6 hG6 hg6
    cases hd : decide (rr = 0)
    · have hMs := hM7.four
      have hAs := hA7.four
      have HG := Aside.mk hG7
      clear hA7 hM7 hG7 hS7 hd
      go_wp2
      apply bodyPost_ret; rotate_left; rfl; exact ⟨x, y, 0#64, 0#64, rfl, grown_setCell (grown_setCell (grown_setCell (grown_setCell HG.out (by simp) _) (by simp) _) (by simp) _) (by simp) _⟩; simp [results, Tryd.results70, go_sem, U_zero, *]
    · clear hd
      (go_wp2_with fail); (go_at_call 127); refine (src_any g _ _ (by omega) hS7).mono ?_; rintro e w8 ⟨c2, d2, rfl, hg8, hS9⟩
      have hA8 := (hA7.grownBy hg8 (by simp; omega)).grownBy (set2_grown w8 (w.heap.size + 1) 2 3 (.int .u64 (U c2)) (.int .u64 (U d2))) (by simp)
      have hM8 := ((hM7.grownBy hg8 (by simp; omega)).set (i := 2) (.int .u64 (U c2))).set (i := 3) (.int .u64 (U d2))
      have hM8s := (hM7.grownBy hg8 (by simp; omega)).four
      have HG := Aside.mk (grown_own (grown_trans hG7 hg8) (set2_grown w8 (w.heap.size + 1) 2 3 (.int .u64 (U c2)) (.int .u64 (U d2))) (fun k hk => by cases hk; omega))
      have hMs := hM8.four
      have hAs := hA8.four
      clear hA7 hM7 hG7 hS7 hg8 hS9 hA8 hM8
      go_wp2
      apply bodyPost_ret; rotate_left; rfl; exact ⟨x, y, c2, d2, rfl, grown_setCell (grown_setCell (grown_setCell (grown_setCell HG.out (by simp) _) (by simp) _) (by simp) _) (by simp) _⟩; simp [results, Tryd.results70, go_sem, U_zero, *]
  · have P1 := wid_pos u1
    have ka := HQa.out _ hG5
    have kb := HQb.out _ hG5
    have kc := HQc.out _ hG5
    have kd := HQd.out _ hG5
    have HP := Aside.mk (fun W a b c d => spec_l01Part nm k st sz bb (o + n * 4) W ⟨by omega, by omega⟩ ⟨by omega, by omega⟩ u4 P1 u5 a b c d)
    generalize paLo k st sz = pl at *
    generalize paHi k st sz = ph at *
    go_wp2_with fail
    apply wp_region_mono 6 [Fx _, Fx _, Fx _, Fx _, Fx _, Fx _] (by kernel_rfl) (by kernel_rfl) (mono_of ⟨Fx.mono _, Fx.mono _, Fx.mono _, Fx.mono _, Fx.mono _, Fx.mono _, trivial⟩) ?st9 ?tl9
    case st9 =>
      simp only [List.take_succ_cons, List.take_zero, List.drop_succ_cons, List.drop_zero, putAll, Act.put, List.setIfInBounds_toArray, List.set_cons_succ, List.set_cons_zero, Nat.zero_add, Nat.reduceAdd]
      refine steps_cons ?_ (steps_cons ?_ (steps_cons ?_ (steps_cons ?_ (steps_cons ?_ (steps_cons ?_ steps_nil)))))
      all_goals
        intro v w2 hk hd
        obtain ⟨hT_0, hT_1, hT_2, hT_3, hT_4⟩ := (hT.keep hk).two
        have ka' := hk.cell ka
        have kb' := hk.cell kb
        have kc' := hk.cell kc
        have kd' := hk.cell kd
        have hkz := hk.size
        simp [DepsOf, factAt, Fx, Region.binds] at hd
        simp only [factAt, List.getD_cons_zero, List.getD_cons_succ]
        refine Gives.mk ?_
        go_simp
        first | exact ⟨Keep.refl _, Fx.self _ _⟩ | exact ⟨(Keep.refl _).alloc _, _, rfl, Bx.new _ _ _, by first | omega | (simp; omega)⟩ | (go_at_call 99; exact gives_fx (HP.out _ ka' kb' kc' kd')) | (go_at_call 71; exact gives_fx (spec_l01Less _ _ _ _ _))
    simp only [List.take_succ_cons, List.take_zero, List.drop_succ_cons, List.drop_zero, putAll, Act.put, List.setIfInBounds_toArray, List.set_cons_succ, List.set_cons_zero, Nat.zero_add, Nat.reduceAdd]
    intro v w2 hk hh
    obtain ⟨hT_0, hT_1, hT_2, hT_3, hT_4⟩ := (hT.keep hk).two
    have ka' := hk.cell ka
    have kb' := hk.cell kb
    have kc' := hk.cell kc
    have kd' := hk.cell kd
    have hkz := hk.size
    simp only [Held, factAt, List.getD_cons_zero, List.getD_cons_succ, Fx, true_and] at hh
    obtain ⟨⟨⟨⟨⟨v_0, v_1⟩, v_2⟩, v_3⟩, v_4⟩, v_5⟩ := hh
    simp only [v_0, v_1, v_2, v_3, v_4, v_5]
    replace hA := hA.keep hk
    replace hM := hM.keep hk
    replace hG5 := grown_trans hG5 (grown_keep hk _)
    replace hS5 := hS5.keep hk
    clear hk hT
    have hMs := hM.four
    have hs := set4_grown w2 (w.heap.size + 1) (.int .u64 (U x)) (.int .u64 (U y)) (.int .u64 (U (pl &&& ~~~x))) (.int .u64 (U (ph &&& ~~~y)))
    have hM6 := (((hM.set (i := 0) (.int .u64 (U x))).set (i := 1) (.int .u64 (U y))).set (i := 2) (.int .u64 (U (pl &&& ~~~x)))).set (i := 3) (.int .u64 (U (ph &&& ~~~y)))
    have hA6 := hA.grownBy hs (by simp)
    have hS6 := hS5.grown hs (fun k hk => by cases hk; omega)
    have hG6 := grown_own hG5 hs (fun k hk => by cases hk; omega)
    clear hM hA hS5 hG5 hs
    (go_wp2_with fail); (go_at_call 119); refine (src_one 20 g _ _ (by decide) (by omega) hS6).mono ?_; rintro e w6 ⟨rr, rfl, hg6, hS7⟩
    have hA7 := hA6.grownBy hg6 (by simp; omega)
    have hM7 := hM6.grownBy hg6 (by simp; omega)
    have hG7 := grown_trans hG6 hg6
    clear hMs hM6 hA6 hS6 hG6 hg6
    cases hd : decide (rr = 0)
    · have hMs := hM7.four
      have hAs := hA7.four
      have HG := Aside.mk hG7
      clear hA7 hM7 hG7 hS7 hd
      go_wp2
      apply bodyPost_ret; rotate_left; rfl; exact ⟨x, y, pl &&& ~~~x, ph &&& ~~~y, rfl, grown_setCell (grown_setCell (grown_setCell (grown_setCell HG.out (by simp) _) (by simp) _) (by simp) _) (by simp) _⟩; simp [results, Tryd.results70, go_sem, U_zero, *]
    · clear hd
      (go_wp2_with fail); (go_at_call 127); refine (src_any g _ _ (by omega) hS7).mono ?_; rintro e w8 ⟨c2, d2, rfl, hg8, hS9⟩
      have hA8 := (hA7.grownBy hg8 (by simp; omega)).grownBy (set2_grown w8 (w.heap.size + 1) 2 3 (.int .u64 (U c2)) (.int .u64 (U d2))) (by simp)
      have hM8 := ((hM7.grownBy hg8 (by simp; omega)).set (i := 2) (.int .u64 (U c2))).set (i := 3) (.int .u64 (U d2))
      have hM8s := (hM7.grownBy hg8 (by simp; omega)).four
      have HG := Aside.mk (grown_own (grown_trans hG7 hg8) (set2_grown w8 (w.heap.size + 1) 2 3 (.int .u64 (U c2)) (.int .u64 (U d2))) (fun k hk => by cases hk; omega))
      have hMs := hM8.four
      have hAs := hA8.four
      clear hA7 hM7 hG7 hS7 hg8 hS9 hA8 hM8
      go_wp2
      apply bodyPost_ret; rotate_left; rfl; exact ⟨x, y, c2, d2, rfl, grown_setCell (grown_setCell (grown_setCell (grown_setCell HG.out (by simp) _) (by simp) _) (by simp) _) (by simp) _⟩; simp [results, Tryd.results70, go_sem, U_zero, *]
  · have hTs := hT.two
    have hMs := hM.four
    have hs := set2_grown w5 (w.heap.size + 1) 2 3 (.int .u64 (U x)) (.int .u64 (U y))
    have hM6 := (hM.set (i := 2) (.int .u64 (U x))).set (i := 3) (.int .u64 (U y))
    have hA6 := hA.grownBy hs (by simp)
    have hS6 := hS5.grown hs (fun k hk => by cases hk; omega)
    have hG6 := grown_own hG5 hs (fun k hk => by cases hk; omega)
    clear hM hA hS5 hG5 hs hT
    (go_wp2_with fail); (go_at_call 119); refine (src_one 20 g _ _ (by decide) (by omega) hS6).mono ?_; rintro e w6 ⟨rr, rfl, hg6, hS7⟩
    have hA7 := hA6.grownBy hg6 (by simp; omega)
    have hM7 := hM6.grownBy hg6 (by simp; omega)
    have hG7 := grown_trans hG6 hg6
    clear hTs hMs hM6 hA6 hS6 hG6 hg6
    cases hd : decide (rr = 0)
    · have hMs := hM7.four
      have hAs := hA7.four
      have HG := Aside.mk hG7
      clear hA7 hM7 hG7 hS7 hd
      go_wp2
      apply bodyPost_ret; rotate_left; rfl; exact ⟨0#64, 0#64, x, y, rfl, grown_setCell (grown_setCell (grown_setCell (grown_setCell HG.out (by simp) _) (by simp) _) (by simp) _) (by simp) _⟩; simp [results, Tryd.results70, go_sem, U_zero, *]
    · clear hd
      (go_wp2_with fail); (go_at_call 127); refine (src_any g _ _ (by omega) hS7).mono ?_; rintro e w8 ⟨c2, d2, rfl, hg8, hS9⟩
      have hA8 := (hA7.grownBy hg8 (by simp; omega)).grownBy (set2_grown w8 (w.heap.size + 1) 2 3 (.int .u64 (U c2)) (.int .u64 (U d2))) (by simp)
      have hM8 := ((hM7.grownBy hg8 (by simp; omega)).set (i := 2) (.int .u64 (U c2))).set (i := 3) (.int .u64 (U d2))
      have hM8s := (hM7.grownBy hg8 (by simp; omega)).four
      have HG := Aside.mk (grown_own (grown_trans hG7 hg8) (set2_grown w8 (w.heap.size + 1) 2 3 (.int .u64 (U c2)) (.int .u64 (U d2))) (fun k hk => by cases hk; omega))
      have hMs := hM8.four
      have hAs := hA8.four
      clear hA7 hM7 hG7 hS7 hg8 hS9 hA8 hM8
      go_wp2
      apply bodyPost_ret; rotate_left; rfl; exact ⟨0#64, 0#64, c2, d2, rfl, grown_setCell (grown_setCell (grown_setCell (grown_setCell HG.out (by simp) _) (by simp) _) (by simp) _) (by simp) _⟩; simp [results, Tryd.results70, go_sem, U_zero, *]
  · (go_wp2_with fail); (go_at_call 114); refine (srcx_pick 96 g _ _ (by decide) (by omega) hS5).mono ?_; rintro e w7 ⟨h, rfl, h0, h1, hg7, hS6a⟩
    replace hA := hA.grownBy hg7 (by simp; omega)
    replace hM := hM.grownBy hg7 (by simp; omega)
    have hG6a := grown_trans hG5 hg7
    clear hG5 hS5 hg7 hT
    (go_wp2_with fail); (go_at_call 123); refine (spec_l01Bit h h0 h1 _).mono ?_; rintro e wv ⟨rfl, hkv⟩
    replace hA := hA.keep hkv
    replace hM := hM.keep hkv
    have hG5 := grown_trans hG6a (grown_keep hkv _)
    have hS5 := hS6a.keep hkv
    clear hG6a hS6a hkv
    generalize bitLo h = x' at *
    generalize bitHi h = y' at *
    have hMs := hM.four
    have hs := set2_grown wv (w.heap.size + 1) 0 1 (.int .u64 (U x')) (.int .u64 (U y'))
    have hM6 := (hM.set (i := 0) (.int .u64 (U x'))).set (i := 1) (.int .u64 (U y'))
    have hA6 := hA.grownBy hs (by simp)
    have hS6 := hS5.grown hs (fun k hk => by cases hk; omega)
    have hG6 := grown_own hG5 hs (fun k hk => by cases hk; omega)
    clear hM hA hS5 hG5 hs
    (go_wp2_with fail); (go_at_call 119); refine (src_one 20 g _ _ (by decide) (by omega) hS6).mono ?_; rintro e w6 ⟨rr, rfl, hg6, hS7⟩
    have hA7 := hA6.grownBy hg6 (by simp; omega)
    have hM7 := hM6.grownBy hg6 (by simp; omega)
    have hG7 := grown_trans hG6 hg6
    clear hMs hM6 hA6 hS6 hG6 hg6
    cases hd : decide (rr = 0)
    · have hMs := hM7.four
      have hAs := hA7.four
      have HG := Aside.mk hG7
      clear hA7 hM7 hG7 hS7 hd
      go_wp2
      apply bodyPost_ret; rotate_left; rfl; exact ⟨x', y', 0#64, 0#64, rfl, grown_setCell (grown_setCell (grown_setCell (grown_setCell HG.out (by simp) _) (by simp) _) (by simp) _) (by simp) _⟩; simp [results, Tryd.results70, go_sem, U_zero, *]
    · clear hd
      (go_wp2_with fail); (go_at_call 127); refine (src_any g _ _ (by omega) hS7).mono ?_; rintro e w8 ⟨c2, d2, rfl, hg8, hS9⟩
      have hA8 := (hA7.grownBy hg8 (by simp; omega)).grownBy (set2_grown w8 (w.heap.size + 1) 2 3 (.int .u64 (U c2)) (.int .u64 (U d2))) (by simp)
      have hM8 := ((hM7.grownBy hg8 (by simp; omega)).set (i := 2) (.int .u64 (U c2))).set (i := 3) (.int .u64 (U d2))
      have hM8s := (hM7.grownBy hg8 (by simp; omega)).four
      have HG := Aside.mk (grown_own (grown_trans hG7 hg8) (set2_grown w8 (w.heap.size + 1) 2 3 (.int .u64 (U c2)) (.int .u64 (U d2))) (fun k hk => by cases hk; omega))
      have hMs := hM8.four
      have hAs := hA8.four
      clear hA7 hM7 hG7 hS7 hg8 hS9 hA8 hM8
      go_wp2
      apply bodyPost_ret; rotate_left; rfl; exact ⟨x', y', c2, d2, rfl, grown_setCell (grown_setCell (grown_setCell (grown_setCell HG.out (by simp) _) (by simp) _) (by simp) _) (by simp) _⟩; simp [results, Tryd.results70, go_sem, U_zero, *]
end Go.Proofs.YtpmilcfppcmodaaDoor

set_option linter.unusedVariables false
set_option linter.unusedSimpArgs false
namespace Go.Proofs.YtpmilcfppcmodaaDoor
open Go.RowKit
set_option maxHeartbeats 2000000
set_option maxRecDepth 20000
theorem spec_A2Query (S : Option Addr) (l : List UInt8) (c : Nat) (A : Option Addr) (fs : List Fd) (cf : Nat) (w : World) (hm : l.length ≤ 9223372036854775807) (hR : Rd w S (bys l)) (hn0 : 1 ≤ fs.length ∧ fs.length ≤ 5) (hfo : ∀ f ∈ fs, fOk f) (hF : Rd w A (fds fs)) :
    Calls Tryd.prog 19 #[.slice S l.length c, .slice A fs.length cf] w fun e w' => ∃ a b c d : Wd, e = .returned (.agg #[.int .u64 (U a), .int .u64 (U b), .int .u64 (U c), .int .u64 (U d)]) ∧ Keep w w' := by
  have HA : Aside (∀ b o, A = some ⟨b, o, none⟩ → b < w.heap.size) := Aside.mk (fun b o hb => by
    subst hb
    rcases hF with h | ⟨b', o', h, hc⟩
    · have := congrArg List.length h
      rw [fds_len] at this
      simp at this; omega
    · simp only [Option.some.injEq, Addr.mk.injEq, and_true] at h
      obtain ⟨rfl, rfl⟩ := h
      obtain ⟨r1, _⟩ := fds_at fs 0 (by omega)
      have := World.block_lt_of_cell? w _ (hc _ _ r1)
      simpa using this)
  go_enter Tryd.func19, Tryd.ntmps19
  (go_wp2_with fail); (go_at_call 65); refine (srcx_from S l c _ hm (hR.keep ((Keep.refl _).alloc _))).mono ?_; rintro e w1 ⟨g, rfl, hg, hk1, hS⟩
  have hg0 : w.heap.size + 1 ≤ g := by simpa using hg
  have hA : Bx w1 w.heap.size #[.int .u64 0, .int .u64 0, .int .u64 0, .int .u64 0] 35 := (Bx.new _ _ _).keep hk1
  have k1 : Keep w w1 := (by ((repeat (first | (with_reducible assumption) | ((with_reducible refine Keep.setCell ?_ ?_ _); rotate_left; focus (first | omega | (simp; done) | (simp; omega))) | (with_reducible refine Keep.alloc ?_ _) | (with_reducible refine Keep.drewN ?_ _) | (with_reducible refine Keep.drew ?_) | (with_reducible exact Keep.refl _) | refine Keep.trans ?_ (by with_reducible assumption) | exact Keep.refl _ | assumption))))
  (go_wp2_with fail); (go_at_call 70); refine (src_l02Asking A fs cf g _ hn0 hfo (hF.keep k1) (fun b o hb => by have := HA.out b o hb; omega) hS).mono ?_; rintro e w2 ⟨x, y, z, u, rfl, hG⟩
  have k2 : Keep w w2 := k1.grown hG (fun k hk => by cases hk; omega)
  have hA2 := hA.grownBy hG (by simp; omega)
  have z2 := k2.size
  clear hA hG hS hk1 k1 hg
  have hA3 := hA2.alloc (.cells #[.int .u64 (U x), .int .u64 (U y), .int .u64 (U z), .int .u64 (U u)] 35)
  have hX := Bx.new w2 #[.int .u64 (U x), .int .u64 (U y), .int .u64 (U z), .int .u64 (U u)] 35
  have zA := hA2.lt
  have hXs := hX.four
  have hAs := hA3.four
  (go_wp2_with fail); (go_at_call 71); refine (spec_l01Less _ _ _ _ _).mono ?_; rintro e w3 ⟨rfl, hk3⟩
  obtain ⟨u', hu, _⟩ := shl_shr (u &&& ~~~y)
  have k3 : Keep w w3 := ((k2.alloc _).trans hk3)
  have hX3 := hX.keep hk3
  have hX4 := (hX3.set (i := 2) (.int .u64 (U (z &&& ~~~x)))).set (i := 3) (.int .u64 (U (u &&& ~~~y)))
  have hX5 := hX4.set (i := 3) (.int .u64 (U u'))
  have hA4 := hA3.keep hk3
  have hA5 := (hA4.grownBy (set2_grown w3 w2.heap.size 2 3 (.int .u64 (U (z &&& ~~~x))) (.int .u64 (U (u &&& ~~~y)))) (by simp; omega)).grownBy (grown_set1 _ w2.heap.size 3 (.int .u64 (U u'))) (by simp; omega)
  clear hXs hAs hX hA2 hA3 hk3
  have hX3s := hX3.four
  have hX4s := hX4.four
  have hX5s := hX5.four
  have hA5s := hA5.four
  clear hX3 hX4 hX5 hA4 hA5
  go_wp2
  apply bodyPost_ret; rotate_left; rfl; exact ⟨x, y, z &&& ~~~x, u', rfl, (by ((repeat (first | (with_reducible assumption) | ((with_reducible refine Keep.setCell ?_ ?_ _); rotate_left; focus (first | omega | (simp; done) | (simp; omega))) | (with_reducible refine Keep.alloc ?_ _) | (with_reducible refine Keep.drewN ?_ _) | (with_reducible refine Keep.drew ?_) | (with_reducible exact Keep.refl _) | refine Keep.trans ?_ (by with_reducible assumption) | exact Keep.refl _ | assumption))))⟩; simp [results, Tryd.results19, go_sem, *]
end Go.Proofs.YtpmilcfppcmodaaDoor

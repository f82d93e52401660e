/- Codes and values: encoding, decoding, the query for a value. -/
import Derived.Test.YtbgegnbcjklmjaaDoorE6
import Derived.Test.YtbgegnbcjklmjaaDoorN6
set_option linter.unusedVariables false
set_option linter.unusedSimpArgs false
namespace Go.Proofs.YtbgegnbcjklmjaaDoor
open Go.RowKit
set_option maxHeartbeats 4000000
set_option maxRecDepth 20000
def okV (s : ByteArray) (k st sz v : Int) : Bool := fieldB s k st sz && inB v 0 (mostN k sz)
def enE (s : ByteArray) (k st sz v : Int) : Int := cond (fieldB s k st sz) (cond (inB v 0 (mostN k sz)) 0 2) 1
def enLo (s : ByteArray) (k st sz v : Int) : Wd := cond (okV s k st sz v) (encLo k st sz v) 0#64
def enHi (s : ByteArray) (k st sz v : Int) : Wd := cond (okV s k st sz v) (encHi k st sz v) 0#64
abbrev FieldW (s : ByteArray) (k st sz : Int) : Prop := s.size ≤ 9223372036854775807 ∧ I8 k ∧ I16 st ∧ I16 sz
theorem impl_EncodeField (s : ByteArray) (k st sz v : Int) (w : World) (hw : FieldW s k st sz) :
    Calls Tryd.prog 42 #[.agg #[.string s, .int .i8 k, .int .i16 st, .int .i16 sz], .int .i64 v] w fun e w' => e = .returned (.tuple #[.agg #[.int .u64 (U (enLo s k st sz v)), .int .u64 (U (enHi s k st sz v))], .int .i64 (enE s k st sz v)]) ∧ Keep w w' := by
  cases h1 : fieldB s k st sz
  · simp only [enLo, enHi, enE, okV, h1, cond_true, cond_false, Bool.false_and]
    go_enter Tryd.func42, Tryd.ntmps42
    (go_wp2_with fail); (go_at_call 53); (refine (impl_isField _ _ _ _ _ hw.1 hw.2.1 hw.2.2.1 hw.2.2.2).mono ?_); rintro e w1 ⟨rfl, hk1⟩
    rw [h1]
    obtain ⟨hk1c, hk1f⟩ := hk1.cells; have hk1z0 : w.heap.size < w1.heap.size := (by have := hk1.size; (try simp at this); omega); have hk1z1 : w.heap.size + 1 < w1.heap.size := (by have := hk1.size; (try simp at this); omega)
    go_wp2
    (apply bodyPost_ret; rotate_left; rfl; exact ⟨rfl, (by ((repeat (first | (with_reducible assumption) | ((with_reducible refine Keep.setCell ?_ ?_ _); rotate_left; focus (first | omega | (simp; done) | (simp; omega))) | (with_reducible refine Keep.alloc ?_ _) | (with_reducible refine Keep.drewN ?_ _) | (with_reducible refine Keep.drew ?_) | (with_reducible exact Keep.refl _) | refine Keep.trans ?_ (by with_reducible assumption) | exact Keep.refl _ | assumption))))⟩; simp [results, Tryd.results42, go_sem, U_zero, *])
  · obtain ⟨u1, u2, u3, u4, u5⟩ := fieldB_use h1
    have hz := okSz_of h1
    by_cases hv0 : v < 0
    · have hv : inB v 0 (mostN k sz) = false := inB_not.2 (by omega)
      simp only [enLo, enHi, enE, okV, h1, hv, cond_true, cond_false, Bool.true_and]
      go_enter Tryd.func42, Tryd.ntmps42
      (go_wp2_with fail); (go_at_call 53); (refine (impl_isField _ _ _ _ _ hw.1 hw.2.1 hw.2.2.1 hw.2.2.2).mono ?_); rintro e w1 ⟨rfl, hk1⟩
      rw [h1]
      obtain ⟨hk1c, hk1f⟩ := hk1.cells; have hk1z0 : w.heap.size < w1.heap.size := (by have := hk1.size; (try simp at this); omega); have hk1z1 : w.heap.size + 1 < w1.heap.size := (by have := hk1.size; (try simp at this); omega)
      go_wp2
      (apply bodyPost_ret; rotate_left; rfl; exact ⟨rfl, (by ((repeat (first | (with_reducible assumption) | ((with_reducible refine Keep.setCell ?_ ?_ _); rotate_left; focus (first | omega | (simp; done) | (simp; omega))) | (with_reducible refine Keep.alloc ?_ _) | (with_reducible refine Keep.drewN ?_ _) | (with_reducible refine Keep.drew ?_) | (with_reducible exact Keep.refl _) | refine Keep.trans ?_ (by with_reducible assumption) | exact Keep.refl _ | assumption))))⟩; simp [results, Tryd.results42, go_sem, U_zero, *])
    · by_cases hv1 : v ≤ mostN k sz
      · have hv : inB v 0 (mostN k sz) = true := inB_iff.2 (by omega)
        simp only [enLo, enHi, enE, okV, h1, hv, cond_true, cond_false, Bool.true_and]
        go_enter Tryd.func42, Tryd.ntmps42
        (go_wp2_with fail); (go_at_call 53); (refine (impl_isField _ _ _ _ _ hw.1 hw.2.1 hw.2.2.1 hw.2.2.2).mono ?_); rintro e w1 ⟨rfl, hk1⟩
        rw [h1]
        obtain ⟨hk1c, hk1f⟩ := hk1.cells; have hk1z0 : w.heap.size < w1.heap.size := (by have := hk1.size; (try simp at this); omega); have hk1z1 : w.heap.size + 1 < w1.heap.size := (by have := hk1.size; (try simp at this); omega)
        (go_wp2_with fail); (go_at_call 57); (refine (impl_most _ _ _ _ _ hz).mono ?_); rintro e w2 ⟨rfl, hk2⟩
        obtain ⟨hk2c, hk2f⟩ := hk2.cells; have hk2z0 : w.heap.size < w2.heap.size := (by have := hk2.size; (try simp at this); omega); have hk2z1 : w.heap.size + 1 < w2.heap.size := (by have := hk2.size; (try simp at this); omega)
        (go_wp2_with fail); (go_at_call 70); (refine (impl_encode _ _ _ _ _ _ hz u2 u3 (by omega) hv1).mono ?_); rintro e w3 ⟨rfl, hk3⟩
        obtain ⟨hk3c, hk3f⟩ := hk3.cells; have hk3z0 : w.heap.size < w3.heap.size := (by have := hk3.size; (try simp at this); omega); have hk3z1 : w.heap.size + 1 < w3.heap.size := (by have := hk3.size; (try simp at this); omega)
        go_wp2
        (apply bodyPost_ret; rotate_left; rfl; exact ⟨rfl, (by ((repeat (first | (with_reducible assumption) | ((with_reducible refine Keep.setCell ?_ ?_ _); rotate_left; focus (first | omega | (simp; done) | (simp; omega))) | (with_reducible refine Keep.alloc ?_ _) | (with_reducible refine Keep.drewN ?_ _) | (with_reducible refine Keep.drew ?_) | (with_reducible exact Keep.refl _) | refine Keep.trans ?_ (by with_reducible assumption) | exact Keep.refl _ | assumption))))⟩; simp [results, Tryd.results42, go_sem, U_zero, *])
      · have hv : inB v 0 (mostN k sz) = false := inB_not.2 (by omega)
        simp only [enLo, enHi, enE, okV, h1, hv, cond_true, cond_false, Bool.true_and]
        go_enter Tryd.func42, Tryd.ntmps42
        (go_wp2_with fail); (go_at_call 53); (refine (impl_isField _ _ _ _ _ hw.1 hw.2.1 hw.2.2.1 hw.2.2.2).mono ?_); rintro e w1 ⟨rfl, hk1⟩
        rw [h1]
        obtain ⟨hk1c, hk1f⟩ := hk1.cells; have hk1z0 : w.heap.size < w1.heap.size := (by have := hk1.size; (try simp at this); omega); have hk1z1 : w.heap.size + 1 < w1.heap.size := (by have := hk1.size; (try simp at this); omega)
        (go_wp2_with fail); (go_at_call 57); (refine (impl_most _ _ _ _ _ hz).mono ?_); rintro e w2 ⟨rfl, hk2⟩
        obtain ⟨hk2c, hk2f⟩ := hk2.cells; have hk2z0 : w.heap.size < w2.heap.size := (by have := hk2.size; (try simp at this); omega); have hk2z1 : w.heap.size + 1 < w2.heap.size := (by have := hk2.size; (try simp at this); omega)
        go_wp2
        (apply bodyPost_ret; rotate_left; rfl; exact ⟨rfl, (by ((repeat (first | (with_reducible assumption) | ((with_reducible refine Keep.setCell ?_ ?_ _); rotate_left; focus (first | omega | (simp; done) | (simp; omega))) | (with_reducible refine Keep.alloc ?_ _) | (with_reducible refine Keep.drewN ?_ _) | (with_reducible refine Keep.drew ?_) | (with_reducible exact Keep.refl _) | refine Keep.trans ?_ (by with_reducible assumption) | exact Keep.refl _ | assumption))))⟩; simp [results, Tryd.results42, go_sem, U_zero, *])
theorem spec_EncodeField (s : ByteArray) (k st sz v : Int) (w : World) (hw : FieldW s k st sz) :
    Calls Tryd.prog 41 #[.agg #[.string s, .int .i8 k, .int .i16 st, .int .i16 sz], .int .i64 v] w fun e w' => e = .returned (.tuple #[.agg #[.int .u64 (U (enLo s k st sz v)), .int .u64 (U (enHi s k st sz v))], .int .i64 (enE s k st sz v)]) ∧ Keep w w' := by
  have hB := ((Bx.new w #[.string s, .int .i8 k, .int .i16 st, .int .i16 sz] 39).alloc (Obj.cells #[.int .u64 0, .int .u64 0] 28))
  obtain ⟨b0, b1, b2, b3, _, _, _, _, bz⟩ := hB.four
  cases h1 : fieldB s k st sz
  · simp only [enLo, enHi, enE, okV, h1, cond_true, cond_false, Bool.false_and]
    go_enter Tryd.func41, Tryd.ntmps41
    (go_wp2_with fail); (go_at_call 52); (refine (spec_l01Field _ _ _ _ _ _ _ hw.1 hw.2.1 hw.2.2.1 hw.2.2.2 b0 b1 b2 b3).mono ?_); rintro e w1 ⟨rfl, hk1⟩
    rw [h1]
    obtain ⟨hk1c, hk1f⟩ := hk1.cells; have hk1z0 : w.heap.size < w1.heap.size := (by have := hk1.size; (try simp at this); omega); have hk1z1 : w.heap.size + 1 < w1.heap.size := (by have := hk1.size; (try simp at this); omega)
    go_wp2
    (apply bodyPost_ret; rotate_left; rfl; exact ⟨rfl, (by ((repeat (first | (with_reducible assumption) | ((with_reducible refine Keep.setCell ?_ ?_ _); rotate_left; focus (first | omega | (simp; done) | (simp; omega))) | (with_reducible refine Keep.alloc ?_ _) | (with_reducible refine Keep.drewN ?_ _) | (with_reducible refine Keep.drew ?_) | (with_reducible exact Keep.refl _) | refine Keep.trans ?_ (by with_reducible assumption) | exact Keep.refl _ | assumption))))⟩; simp [results, Tryd.results41, go_sem, U_zero, *])
  · obtain ⟨u1, u2, u3, u4, u5⟩ := fieldB_use h1
    have hz := okSz_of h1
    cases hv : inB v 0 (mostN k sz)
    all_goals
      simp only [enLo, enHi, enE, okV, h1, hv, cond_true, cond_false, Bool.true_and]
      go_enter Tryd.func41, Tryd.ntmps41
      (go_wp2_with fail); (go_at_call 52); (refine (spec_l01Field _ _ _ _ _ _ _ hw.1 hw.2.1 hw.2.2.1 hw.2.2.2 b0 b1 b2 b3).mono ?_); rintro e w1 ⟨rfl, hk1⟩
      rw [h1]
      obtain ⟨hk1c, hk1f⟩ := hk1.cells; have hk1z0 : w.heap.size < w1.heap.size := (by have := hk1.size; (try simp at this); omega); have hk1z1 : w.heap.size + 1 < w1.heap.size := (by have := hk1.size; (try simp at this); omega)
      (go_wp2_with fail); (go_at_call 56); (refine (spec_l01Most s k st sz _ _ _ hz (hk1.cell b0) (hk1.cell b1) (hk1.cell b2) (hk1.cell b3)).mono ?_); rintro e w2 ⟨rfl, hk2⟩
      obtain ⟨hk2c, hk2f⟩ := hk2.cells; have hk2z0 : w.heap.size < w2.heap.size := (by have := hk2.size; (try simp at this); omega); have hk2z1 : w.heap.size + 1 < w2.heap.size := (by have := hk2.size; (try simp at this); omega)
      (go_wp2_with fail); (go_at_call 68); (refine (spec_l00In _ _ _ _).mono ?_); rintro e w3 ⟨rfl, hk3⟩
      rw [hv]
      obtain ⟨hk3c, hk3f⟩ := hk3.cells; have hk3z0 : w.heap.size < w3.heap.size := (by have := hk3.size; (try simp at this); omega); have hk3z1 : w.heap.size + 1 < w3.heap.size := (by have := hk3.size; (try simp at this); omega)
      have k13 := (hk1.trans hk2).trans hk3
      first
        | ((go_wp2_with fail); (go_at_call 69); (refine (spec_l01Code s k st sz v _ _ _ hz u2 u3 (inB_iff.1 hv).1 (inB_iff.1 hv).2 (k13.cell b0) (k13.cell b1) (k13.cell b2) (k13.cell b3)).mono ?_); rintro e w4 ⟨rfl, hk4⟩; obtain ⟨hk4c, hk4f⟩ := hk4.cells; have hk4z0 : w.heap.size < w4.heap.size := (by have := hk4.size; (try simp at this); omega); have hk4z1 : w.heap.size + 1 < w4.heap.size := (by have := hk4.size; (try simp at this); omega); go_wp2; (apply bodyPost_ret; rotate_left; rfl; exact ⟨rfl, (by ((repeat (first | (with_reducible assumption) | ((with_reducible refine Keep.setCell ?_ ?_ _); rotate_left; focus (first | omega | (simp; done) | (simp; omega))) | (with_reducible refine Keep.alloc ?_ _) | (with_reducible refine Keep.drewN ?_ _) | (with_reducible refine Keep.drew ?_) | (with_reducible exact Keep.refl _) | refine Keep.trans ?_ (by with_reducible assumption) | exact Keep.refl _ | assumption))))⟩; simp [results, Tryd.results41, go_sem, U_zero, *]))
        | (go_wp2; (apply bodyPost_ret; rotate_left; rfl; exact ⟨rfl, (by ((repeat (first | (with_reducible assumption) | ((with_reducible refine Keep.setCell ?_ ?_ _); rotate_left; focus (first | omega | (simp; done) | (simp; omega))) | (with_reducible refine Keep.alloc ?_ _) | (with_reducible refine Keep.drewN ?_ _) | (with_reducible refine Keep.drew ?_) | (with_reducible exact Keep.refl _) | refine Keep.trans ?_ (by with_reducible assumption) | exact Keep.refl _ | assumption))))⟩; simp [results, Tryd.results41, go_sem, U_zero, *]))
/-- The first of some numbers. -/
def firstN (p : Nat → Bool) (n : Nat) : Int := ((List.range n).find? p).elim 0 fun v => (v : Int)
def firstE (p : Nat → Bool) (n : Nat) : Int := ((List.range n).find? p).elim 8 fun _ => 0
theorem first_some {p : Nat → Bool} {n i : Nat} (hi : i < n) (hp : p i = true) (hb : ∀ u, u < i → p u = false) : firstN p n = i ∧ firstE p n = 0 := by
  have e : (List.range n).find? p = some i := by
    rw [List.find?_range_eq_some]
    exact ⟨hp, List.mem_range.2 hi, fun j hj => by simp [hb j hj]⟩
  simp [firstN, firstE, e]
theorem first_none {p : Nat → Bool} {n : Nat} (hb : ∀ u, u < n → p u = false) : firstN p n = 0 ∧ firstE p n = 8 := by
  have e : (List.range n).find? p = none := by
    rw [List.find?_eq_none]
    intro x hx
    simp [hb x (List.mem_range.1 hx)]
  simp [firstN, firstE, e]
def isV (k st sz : Int) (x y : Wd) (v : Nat) : Bool := encLo k st sz v == x && encHi k st sz v == y
def deN (k st sz : Int) (a b : Wd) : Int := cond (a &&& paLo k st sz == 0#64 && b &&& paHi k st sz == 0#64) 0 (firstN (isV k st sz (a &&& paLo k st sz) (b &&& paHi k st sz)) (mostN k sz + 1).toNat)
def deE (k st sz : Int) (a b : Wd) : Int := cond (a &&& paLo k st sz == 0#64 && b &&& paHi k st sz == 0#64) 6 (firstE (isV k st sz (a &&& paLo k st sz) (b &&& paHi k st sz)) (mostN k sz + 1).toNat)
theorem impl_decode (s : ByteArray) (k st sz : Int) (a b : Wd) (w : World) (hz : okSz k sz) (ht : I16 st) (h0 : 0 ≤ st) (h1 : 1 ≤ widthN k sz) (h2 : st + widthN k sz ≤ 96) :
    Calls Tryd.prog 72 #[.agg #[.string s, .int .i8 k, .int .i16 st, .int .i16 sz], .agg #[.int .u64 (U a), .int .u64 (U b)]] w fun e w' => e = .returned (.tuple #[.int .i64 (deN k st sz a b), .int .i64 (deE k st sz a b)]) ∧ Keep w w' := by
  have hI := I8_of_ok hz
  have hmost := mostN_bound hz
  have HN := Aside.mk (show deN k st sz a b = _ from rfl)
  have HE := Aside.mk (show deE k st sz a b = _ from rfl)
  cases hzero : (a &&& paLo k st sz == 0#64 && b &&& paHi k st sz == 0#64)
  · have qN : deN k st sz a b = firstN (isV k st sz (a &&& paLo k st sz) (b &&& paHi k st sz)) (mostN k sz + 1).toNat := by rw [deN, hzero]; rfl
    have qE : deE k st sz a b = firstE (isV k st sz (a &&& paLo k st sz) (b &&& paHi k st sz)) (mostN k sz + 1).toNat := by rw [deE, hzero]; rfl
    rw [qN, qE]
    generalize hx : a &&& paLo k st sz = x at *
    generalize hy : b &&& paHi k st sz = y at *
    have hM := impl_MeetMasks a b (paLo k st sz) (paHi k st sz)
    rw [hx, hy] at hM
    clear qN qE HN HE hx hy
    obtain ⟨n, hn⟩ : ∃ n, n = (mostN k sz + 1).toNat := ⟨_, rfl⟩
    rw [← hn]
    have em : IntKind.i64.wrap (mostN k sz + 1) = mostN k sz + 1 := wrapI64 ⟨by omega, by omega⟩
    go_enter Tryd.func72, Tryd.ntmps72
    go_wp2_with fail
    refine wp_gen (fun W => Bx W w.heap.size #[.string s, .int .i8 k, .int .i16 st, .int .i16 sz] 39 ∧ Bx W (w.heap.size + 1) #[.int .u64 (U a), .int .u64 (U b)] 28 ∧ Keep w W) ⟨(Bx.new _ _ _).alloc _, Bx.new1 _ _ _ _, (by ((repeat (first | (with_reducible assumption) | ((with_reducible refine Keep.setCell ?_ ?_ _); rotate_left; focus (first | omega | (simp; done) | (simp; omega))) | (with_reducible refine Keep.alloc ?_ _) | (with_reducible refine Keep.drewN ?_ _) | (with_reducible refine Keep.drew ?_) | (with_reducible exact Keep.refl _) | refine Keep.trans ?_ (by with_reducible assumption) | exact Keep.refl _ | assumption))))⟩ ?_
    rintro W ⟨hF, hA, hW⟩
    apply wp_region_mono 5 [Fx _, Fx _, Fx _, Fx _, Al (W.heap.size) #[.int .u64 0, .int .u64 0] 28] (by kernel_rfl) (by kernel_rfl) (mono_of ⟨Fx.mono _, Fx.mono _, Fx.mono _, Fx.mono _, Al.mono _ _ _, trivial⟩) ?st11 ?tl11
    case st11 =>
      simp only [List.take_succ_cons, List.take_zero, List.drop_succ_cons, List.drop_zero, putAll, Act.put, List.setIfInBounds_toArray, List.set_cons_succ, List.set_cons_zero, Nat.zero_add, Nat.reduceAdd]
      refine steps_cons ?_ (steps_cons ?_ (steps_cons ?_ (steps_cons ?_ (steps_cons ?_ steps_nil))))
      all_goals
        intro v w2 hk hd
        obtain ⟨hF_0, hF_1, hF_2, hF_3, hF_4, hF_5, hF_6, hF_7, hF_8⟩ := (hF.keep hk).four
        obtain ⟨hA_0, hA_1, hA_2, hA_3, hA_4⟩ := (hA.keep hk).two
        have hkz := hk.size
        simp [DepsOf, factAt, Fx, Region.binds] at hd
        simp only [factAt, List.getD_cons_zero, List.getD_cons_succ]
        refine Gives.mk ?_
        go_simp
        first | exact ⟨Keep.refl _, Fx.self _ _⟩ | exact ⟨(Keep.refl _).alloc _, _, rfl, Bx.new _ _ _, by first | omega | (simp; omega)⟩ | (go_at_call 59; exact gives_fx (impl_part _ _ _ _ _ hI ht h0 h1 h2)) | (go_at_call 92; exact gives_fx (hM _))
    simp only [List.take_succ_cons, List.take_zero, List.drop_succ_cons, List.drop_zero, putAll, Act.put, List.setIfInBounds_toArray, List.set_cons_succ, List.set_cons_zero, Nat.zero_add, Nat.reduceAdd]
    intro v w2 hk hh
    obtain ⟨hF_0, hF_1, hF_2, hF_3, hF_4, hF_5, hF_6, hF_7, hF_8⟩ := (hF.keep hk).four
    obtain ⟨hA_0, hA_1, hA_2, hA_3, hA_4⟩ := (hA.keep hk).two
    have hkz := hk.size
    simp only [Held, factAt, List.getD_cons_zero, List.getD_cons_succ, Fx, true_and] at hh
    obtain ⟨⟨⟨⟨v_0, v_1⟩, v_2⟩, v_3⟩, g, v_4, hG, hg⟩ := hh
    obtain ⟨hG_0, hG_1, hG_2, hG_3, hG_4⟩ := hG.two
    simp only [v_0, v_1, v_2, v_3, v_4]
    have hF2 := hF.keep hk
    have hO2 := (hG.set (i := 0) (.int .u64 (U x))).set (i := 1) (.int .u64 (U y))
    have hF3 : Bx _ w.heap.size #[.string s, .int .i8 k, .int .i16 st, .int .i16 sz] 39 := (hF2.set' (a := ⟨g, 0, none⟩) (by have := hF.lt; simp; omega) (.int .u64 (U x))).set' (a := ⟨g, 1, none⟩) (by have := hF.lt; simp; omega) (.int .u64 (U y))
    have zg : w.heap.size < g := by have := hF.lt; omega
    have kk : Keep w w2 := (by ((repeat (first | (with_reducible assumption) | ((with_reducible refine Keep.setCell ?_ ?_ _); rotate_left; focus (first | omega | (simp; done) | (simp; omega))) | (with_reducible refine Keep.alloc ?_ _) | (with_reducible refine Keep.drewN ?_ _) | (with_reducible refine Keep.drew ?_) | (with_reducible exact Keep.refl _) | refine Keep.trans ?_ (by with_reducible assumption) | exact Keep.refl _ | assumption))))
    (go_wp2_with fail); (go_at_call 57); (refine (impl_most _ _ _ _ _ hz).mono ?_); rintro e w3 ⟨rfl, hk3⟩
    have HF := Aside.mk (hF3.keep hk3)
    have HO := Aside.mk (hO2.keep hk3)
    have k3 : Keep w w3 := (by ((repeat (first | (with_reducible assumption) | ((with_reducible refine Keep.setCell ?_ ?_ _); rotate_left; focus (first | omega | (simp; done) | (simp; omega))) | (with_reducible refine Keep.alloc ?_ _) | (with_reducible refine Keep.drewN ?_ _) | (with_reducible refine Keep.drew ?_) | (with_reducible exact Keep.refl _) | refine Keep.trans ?_ (by with_reducible assumption) | exact Keep.refl _ | assumption))))
    clear hF hA hF2 hO2 hF3 hk3 kk hk hM hG hG_0 hG_1 hG_2 hG_3 hG_4 hF_0 hF_1 hF_2 hF_3 hF_4 hF_5 hF_6 hF_7 hF_8 hA_0 hA_1 hA_2 hA_3 hA_4 v_0 v_1 v_2 v_3 v_4 hkz hW hg
    go_wp2_with fail
    go_loopg [18] n (fun m s1 wr => ∃ i : Nat, i + m = n ∧ s1 = .int .i64 i ∧ (∀ u, u < i → isV k st sz x y u = false) ∧ Bx wr w.heap.size #[.string s, .int .i8 k, .int .i16 st, .int .i16 sz] 39 ∧ Bx wr g #[.int .u64 (U x), .int .u64 (U y)] 28 ∧ Keep w wr)
    case atStart => exact ⟨0, by omega, rfl, fun u hu => by omega, HF.out, HO.out, (by ((repeat (first | (with_reducible assumption) | ((with_reducible refine Keep.setCell ?_ ?_ _); rotate_left; focus (first | omega | (simp; done) | (simp; omega))) | (with_reducible refine Keep.alloc ?_ _) | (with_reducible refine Keep.drewN ?_ _) | (with_reducible refine Keep.drew ?_) | (with_reducible exact Keep.refl _) | refine Keep.trans ?_ (by with_reducible assumption) | exact Keep.refl _ | assumption))))⟩
    case round =>
      obtain ⟨i, hi, rfl, hbef, hF, hO, hk0⟩ := hrel
      by_cases hlt : (i : Int) < mostN k sz + 1
      · have HB := Aside.mk hbef
        have hen := fun W => impl_encode s k st sz i W hz h0 h2 (by omega) (by omega)
        have hp : (encLo k st sz i == x && encHi k st sz i == y) = isV k st sz x y i := rfl
        clear hbef
        generalize encLo k st sz i = eL at *
        generalize encHi k st sz i = eH at *
        go_wp2_with fail
        refine wp_region_keep (by kernel_rfl) (by kernel_rfl) ?_
        repeat
          first
            | (apply QuietL.run
               focus go_simp
               focus
                 intro w2 hk
                 obtain ⟨hF_0, hF_1, hF_2, hF_3, hF_4, hF_5, hF_6, hF_7, hF_8⟩ := (hF.keep hk).four
                 obtain ⟨hO_0, hO_1, hO_2, hO_3, hO_4⟩ := (hO.keep hk).two
                 apply QAt.mk
                 go_simp
                 first
                   | done
                   | exact rfl
                   | (go_at_call 70; exact quiet_call hk (hen _))
               simp only [Act.put, List.setIfInBounds_toArray, List.set_cons_succ, List.set_cons_zero])
            | (apply QuietL.skip
               focus go_simp
               simp only [Act.put, List.setIfInBounds_toArray, List.set_cons_succ, List.set_cons_zero])
        apply QuietL.nil
        intro w2 hk
        have hF := hF.keep hk
        obtain ⟨hF_0, hF_1, hF_2, hF_3, hF_4, hF_5, hF_6, hF_7, hF_8⟩ := hF.four
        have hO := hO.keep hk
        obtain ⟨hO_0, hO_1, hO_2, hO_3, hO_4⟩ := hO.two
        cases hb : isV k st sz x y i <;> rw [hb] at hp
        · have HF := Aside.mk hF
          have HO := Aside.mk hO
          clear hF hO
          go_wp2
          go_roundg (n - (i + 1))
          case measure => omega
          case rel => exact ⟨i + 1, by omega, by go_num, fun u hu => by rcases Nat.lt_or_ge u i with h | h; exact HB.out u h; have : u = i := by omega
                                                                        subst this; exact hb, HF.out, HO.out, (by ((repeat (first | (with_reducible assumption) | ((with_reducible refine Keep.setCell ?_ ?_ _); rotate_left; focus (first | omega | (simp; done) | (simp; omega))) | (with_reducible refine Keep.alloc ?_ _) | (with_reducible refine Keep.drewN ?_ _) | (with_reducible refine Keep.drew ?_) | (with_reducible exact Keep.refl _) | refine Keep.trans ?_ (by with_reducible assumption) | exact Keep.refl _ | assumption))))⟩
        · have hf := first_some (p := isV k st sz x y) (n := n) (by omega) hb HB.out
          obtain ⟨hf1, hf2⟩ := hf
          clear hF hO
          go_wp2
          go_ret2; exact ⟨by ((try rw [← hn]); (rw [hf1, hf2] <;> rfl)), (by ((repeat (first | (with_reducible assumption) | ((with_reducible refine Keep.setCell ?_ ?_ _); rotate_left; focus (first | omega | (simp; done) | (simp; omega))) | (with_reducible refine Keep.alloc ?_ _) | (with_reducible refine Keep.drewN ?_ _) | (with_reducible refine Keep.drew ?_) | (with_reducible exact Keep.refl _) | refine Keep.trans ?_ (by with_reducible assumption) | exact Keep.refl _ | assumption))))⟩
      · have hf := first_none (p := isV k st sz x y) (n := n) (fun u hu => hbef u (by omega))
        obtain ⟨hf1, hf2⟩ := hf
        clear hF hO
        go_wp2
        go_ret2; exact ⟨by ((try rw [← hn]); (rw [hf1, hf2] <;> rfl)), (by ((repeat (first | (with_reducible assumption) | ((with_reducible refine Keep.setCell ?_ ?_ _); rotate_left; focus (first | omega | (simp; done) | (simp; omega))) | (with_reducible refine Keep.alloc ?_ _) | (with_reducible refine Keep.drewN ?_ _) | (with_reducible refine Keep.drew ?_) | (with_reducible exact Keep.refl _) | refine Keep.trans ?_ (by with_reducible assumption) | exact Keep.refl _ | assumption))))⟩
  · have qN : deN k st sz a b = 0 := by rw [deN, hzero]; rfl
    have qE : deE k st sz a b = 6 := by rw [deE, hzero]; rfl
    rw [qN, qE]
    generalize hx : a &&& paLo k st sz = x at *
    generalize hy : b &&& paHi k st sz = y at *
    have hM := impl_MeetMasks a b (paLo k st sz) (paHi k st sz)
    rw [hx, hy] at hM
    clear qN qE HN HE hx hy
    go_enter Tryd.func72, Tryd.ntmps72
    go_wp2_with fail
    refine wp_gen (fun W => Bx W w.heap.size #[.string s, .int .i8 k, .int .i16 st, .int .i16 sz] 39 ∧ Bx W (w.heap.size + 1) #[.int .u64 (U a), .int .u64 (U b)] 28 ∧ Keep w W) ⟨(Bx.new _ _ _).alloc _, Bx.new1 _ _ _ _, (by ((repeat (first | (with_reducible assumption) | ((with_reducible refine Keep.setCell ?_ ?_ _); rotate_left; focus (first | omega | (simp; done) | (simp; omega))) | (with_reducible refine Keep.alloc ?_ _) | (with_reducible refine Keep.drewN ?_ _) | (with_reducible refine Keep.drew ?_) | (with_reducible exact Keep.refl _) | refine Keep.trans ?_ (by with_reducible assumption) | exact Keep.refl _ | assumption))))⟩ ?_
    rintro W ⟨hF, hA, hW⟩
    apply wp_region_mono 5 [Fx _, Fx _, Fx _, Fx _, Al (W.heap.size) #[.int .u64 0, .int .u64 0] 28] (by kernel_rfl) (by kernel_rfl) (mono_of ⟨Fx.mono _, Fx.mono _, Fx.mono _, Fx.mono _, Al.mono _ _ _, trivial⟩) ?st12 ?tl12
    case st12 =>
      simp only [List.take_succ_cons, List.take_zero, List.drop_succ_cons, List.drop_zero, putAll, Act.put, List.setIfInBounds_toArray, List.set_cons_succ, List.set_cons_zero, Nat.zero_add, Nat.reduceAdd]
      refine steps_cons ?_ (steps_cons ?_ (steps_cons ?_ (steps_cons ?_ (steps_cons ?_ steps_nil))))
      all_goals
        intro v w2 hk hd
        obtain ⟨hF_0, hF_1, hF_2, hF_3, hF_4, hF_5, hF_6, hF_7, hF_8⟩ := (hF.keep hk).four
        obtain ⟨hA_0, hA_1, hA_2, hA_3, hA_4⟩ := (hA.keep hk).two
        have hkz := hk.size
        simp [DepsOf, factAt, Fx, Region.binds] at hd
        simp only [factAt, List.getD_cons_zero, List.getD_cons_succ]
        refine Gives.mk ?_
        go_simp
        first | exact ⟨Keep.refl _, Fx.self _ _⟩ | exact ⟨(Keep.refl _).alloc _, _, rfl, Bx.new _ _ _, by first | omega | (simp; omega)⟩ | (go_at_call 59; exact gives_fx (impl_part _ _ _ _ _ hI ht h0 h1 h2)) | (go_at_call 92; exact gives_fx (hM _))
    simp only [List.take_succ_cons, List.take_zero, List.drop_succ_cons, List.drop_zero, putAll, Act.put, List.setIfInBounds_toArray, List.set_cons_succ, List.set_cons_zero, Nat.zero_add, Nat.reduceAdd]
    intro v w2 hk hh
    obtain ⟨hF_0, hF_1, hF_2, hF_3, hF_4, hF_5, hF_6, hF_7, hF_8⟩ := (hF.keep hk).four
    obtain ⟨hA_0, hA_1, hA_2, hA_3, hA_4⟩ := (hA.keep hk).two
    have hkz := hk.size
    simp only [Held, factAt, List.getD_cons_zero, List.getD_cons_succ, Fx, true_and] at hh
    obtain ⟨⟨⟨⟨v_0, v_1⟩, v_2⟩, v_3⟩, g, v_4, hG, hg⟩ := hh
    obtain ⟨hG_0, hG_1, hG_2, hG_3, hG_4⟩ := hG.two
    simp only [v_0, v_1, v_2, v_3, v_4]
    go_wp2
    have zg := hW.size
    go_ret2; exact ⟨rfl, (by ((repeat (first | (with_reducible assumption) | ((with_reducible refine Keep.setCell ?_ ?_ _); rotate_left; focus (first | omega | (simp; done) | (simp; omega))) | (with_reducible refine Keep.alloc ?_ _) | (with_reducible refine Keep.drewN ?_ _) | (with_reducible refine Keep.drew ?_) | (with_reducible exact Keep.refl _) | refine Keep.trans ?_ (by with_reducible assumption) | exact Keep.refl _ | assumption))))⟩
theorem spec_l01Value (s : ByteArray) (k st sz : Int) (a b : Wd) (gf o : Nat) (w : World) (hz : okSz k sz) (ht : I16 st) (h0 : 0 ≤ st) (h1 : 1 ≤ widthN k sz) (h2 : st + widthN k sz ≤ 96)
    (c0 : w.cell? ⟨gf, o, none⟩ = some (.string s)) (c1 : w.cell? ⟨gf, o + 1, none⟩ = some (.int .i8 k)) (c2 : w.cell? ⟨gf, o + 2, none⟩ = some (.int .i16 st)) (c3 : w.cell? ⟨gf, o + 3, none⟩ = some (.int .i16 sz)) :
    Calls Tryd.prog 71 #[.pointer (some ⟨gf, o, none⟩), .agg #[.int .u64 (U a), .int .u64 (U b)]] w fun e w' => e = .returned (.tuple #[.int .i64 (deN k st sz a b), .int .i64 (deE k st sz a b)]) ∧ Keep w w' := by
  have hI := I8_of_ok hz
  have hmost := mostN_bound hz
  have gz : gf < w.heap.size := World.block_lt_of_cell? w _ c0
  cases hzero : (a &&& paLo k st sz == 0#64 && b &&& paHi k st sz == 0#64)
  · have qN : deN k st sz a b = firstN (isV k st sz (a &&& paLo k st sz) (b &&& paHi k st sz)) (mostN k sz + 1).toNat := by rw [deN, hzero]; rfl
    have qE : deE k st sz a b = firstE (isV k st sz (a &&& paLo k st sz) (b &&& paHi k st sz)) (mostN k sz + 1).toNat := by rw [deE, hzero]; rfl
    rw [qN, qE]
    generalize hx : a &&& paLo k st sz = x at *
    generalize hy : b &&& paHi k st sz = y at *
    have hM := spec_l01Meet a b (paLo k st sz) (paHi k st sz)
    rw [hx, hy] at hM
    clear qN qE hx hy
    obtain ⟨n, hn⟩ : ∃ n, n = (mostN k sz + 1).toNat := ⟨_, rfl⟩
    try rw [← hn]
    go_enter Tryd.func71, Tryd.ntmps71
    go_wp2_with fail
    refine wp_gen (fun W => Bx W w.heap.size #[.int .u64 (U a), .int .u64 (U b)] 28 ∧ Keep w W) ⟨Bx.new _ _ _, (by ((repeat (first | (with_reducible assumption) | ((with_reducible refine Keep.setCell ?_ ?_ _); rotate_left; focus (first | omega | (simp; done) | (simp; omega))) | (with_reducible refine Keep.alloc ?_ _) | (with_reducible refine Keep.drewN ?_ _) | (with_reducible refine Keep.drew ?_) | (with_reducible exact Keep.refl _) | refine Keep.trans ?_ (by with_reducible assumption) | exact Keep.refl _ | assumption))))⟩ ?_
    rintro W ⟨hA, hW⟩
    apply wp_region_mono 5 [Fx _, Fx _, Fx _, Fx _, Al (W.heap.size) #[.int .u64 0, .int .u64 0] 28] (by kernel_rfl) (by kernel_rfl) (mono_of ⟨Fx.mono _, Fx.mono _, Fx.mono _, Fx.mono _, Al.mono _ _ _, trivial⟩) ?st13 ?tl13
    case st13 =>
      simp only [List.take_succ_cons, List.take_zero, List.drop_succ_cons, List.drop_zero, putAll, Act.put, List.setIfInBounds_toArray, List.set_cons_succ, List.set_cons_zero, Nat.zero_add, Nat.reduceAdd]
      refine steps_cons ?_ (steps_cons ?_ (steps_cons ?_ (steps_cons ?_ (steps_cons ?_ steps_nil))))
      all_goals
        intro v w2 hk hd
        obtain ⟨hA_0, hA_1, hA_2, hA_3, hA_4⟩ := (hA.keep hk).two
        have hkz := hk.size
        simp [DepsOf, factAt, Fx, Region.binds] at hd
        simp only [factAt, List.getD_cons_zero, List.getD_cons_succ]
        refine Gives.mk ?_
        go_simp
        first | exact ⟨Keep.refl _, Fx.self _ _⟩ | exact ⟨(Keep.refl _).alloc _, _, rfl, Bx.new _ _ _, by first | omega | (simp; omega)⟩ | (go_at_call 58; exact gives_fx (spec_l01Part s k st sz gf o _ hI ht h0 h1 h2 ((hW.trans hk).cell c0) ((hW.trans hk).cell c1) ((hW.trans hk).cell c2) ((hW.trans hk).cell c3))) | (go_at_call 91; exact gives_fx (hM _))
    simp only [List.take_succ_cons, List.take_zero, List.drop_succ_cons, List.drop_zero, putAll, Act.put, List.setIfInBounds_toArray, List.set_cons_succ, List.set_cons_zero, Nat.zero_add, Nat.reduceAdd]
    intro v w2 hk hh
    obtain ⟨hA_0, hA_1, hA_2, hA_3, hA_4⟩ := (hA.keep hk).two
    have hkz := hk.size
    simp only [Held, factAt, List.getD_cons_zero, List.getD_cons_succ, Fx, true_and] at hh
    obtain ⟨⟨⟨⟨v_0, v_1⟩, v_2⟩, v_3⟩, g, v_4, hG, hg⟩ := hh
    obtain ⟨hG_0, hG_1, hG_2, hG_3, hG_4⟩ := hG.two
    simp only [v_0, v_1, v_2, v_3, v_4]
    have hO2 := (hG.set (i := 0) (.int .u64 (U x))).set (i := 1) (.int .u64 (U y))
    have zg : w.heap.size < g := by have := hA.lt; omega
    have kk : Keep w w2 := (by ((repeat (first | (with_reducible assumption) | ((with_reducible refine Keep.setCell ?_ ?_ _); rotate_left; focus (first | omega | (simp; done) | (simp; omega))) | (with_reducible refine Keep.alloc ?_ _) | (with_reducible refine Keep.drewN ?_ _) | (with_reducible refine Keep.drew ?_) | (with_reducible exact Keep.refl _) | refine Keep.trans ?_ (by with_reducible assumption) | exact Keep.refl _ | assumption))))
    have HO := Aside.mk hO2
    clear hA hk hM hA_0 hA_1 hA_2 hA_3 hA_4 v_0 v_1 v_2 v_3 v_4 hkz hW hg
    go_wp2_with fail
    clear hG hG_0 hG_1 hG_2 hG_3 hG_4 hO2
    go_loopg [7] n (fun m s1 wr => ∃ i : Nat, i + m = n ∧ s1 = .int .i64 i ∧ (∀ u, u < i → isV k st sz x y u = false) ∧ Bx wr g #[.int .u64 (U x), .int .u64 (U y)] 28 ∧ Keep w wr)
    case atStart => exact ⟨0, by omega, rfl, fun u hu => by omega, HO.out, (by ((repeat (first | (with_reducible assumption) | ((with_reducible refine Keep.setCell ?_ ?_ _); rotate_left; focus (first | omega | (simp; done) | (simp; omega))) | (with_reducible refine Keep.alloc ?_ _) | (with_reducible refine Keep.drewN ?_ _) | (with_reducible refine Keep.drew ?_) | (with_reducible exact Keep.refl _) | refine Keep.trans ?_ (by with_reducible assumption) | exact Keep.refl _ | assumption))))⟩
    case round =>
      obtain ⟨i, hi, rfl, hbef, hO, hk0⟩ := hrel
      (go_wp2_with fail); (go_at_call 56); (refine (spec_l01Most s k st sz _ _ _ hz (hk0.cell c0) (hk0.cell c1) (hk0.cell c2) (hk0.cell c3)).mono ?_); rintro e w3 ⟨rfl, hk3⟩
      have hO3 := hO.keep hk3
      have k3 : Keep w w3 := (by ((repeat (first | (with_reducible assumption) | ((with_reducible refine Keep.setCell ?_ ?_ _); rotate_left; focus (first | omega | (simp; done) | (simp; omega))) | (with_reducible refine Keep.alloc ?_ _) | (with_reducible refine Keep.drewN ?_ _) | (with_reducible refine Keep.drew ?_) | (with_reducible exact Keep.refl _) | refine Keep.trans ?_ (by with_reducible assumption) | exact Keep.refl _ | assumption))))
      clear hO hk3 hk0
      by_cases hlt : (i : Int) ≤ mostN k sz
      · have HB := Aside.mk hbef
        have hen := fun W (kW : Keep w W) => spec_l01Code s k st sz i gf o W hz h0 h2 (by omega) (by omega) (kW.cell c0) (kW.cell c1) (kW.cell c2) (kW.cell c3)
        have hp : (encLo k st sz i == x && encHi k st sz i == y) = isV k st sz x y i := rfl
        clear hbef
        generalize encLo k st sz i = eL at *
        generalize encHi k st sz i = eH at *
        go_wp2_with fail
        refine wp_region_keep (by kernel_rfl) (by kernel_rfl) ?_
        repeat
          first
            | (apply QuietL.run
               focus go_simp
               focus
                 intro w2 hk
                 obtain ⟨hO3_0, hO3_1, hO3_2, hO3_3, hO3_4⟩ := (hO3.keep hk).two
                 apply QAt.mk
                 go_simp
                 first
                   | done
                   | exact rfl
                   | (go_at_call 69; exact quiet_call hk (hen _ (k3.trans hk)))
               simp only [Act.put, List.setIfInBounds_toArray, List.set_cons_succ, List.set_cons_zero])
            | (apply QuietL.skip
               focus go_simp
               simp only [Act.put, List.setIfInBounds_toArray, List.set_cons_succ, List.set_cons_zero])
        apply QuietL.nil
        intro w2 hk
        have hO3 := hO3.keep hk
        obtain ⟨hO3_0, hO3_1, hO3_2, hO3_3, hO3_4⟩ := hO3.two
        cases hb : isV k st sz x y i <;> rw [hb] at hp
        · have HO := Aside.mk hO3
          clear hO3
          go_wp2
          go_roundg (n - (i + 1))
          case measure => omega
          case rel => exact ⟨i + 1, by omega, by go_num, fun u hu => by rcases Nat.lt_or_ge u i with h | h; exact HB.out u h; have : u = i := by omega
                                                                        subst this; exact hb, HO.out, (by ((repeat (first | (with_reducible assumption) | ((with_reducible refine Keep.setCell ?_ ?_ _); rotate_left; focus (first | omega | (simp; done) | (simp; omega))) | (with_reducible refine Keep.alloc ?_ _) | (with_reducible refine Keep.drewN ?_ _) | (with_reducible refine Keep.drew ?_) | (with_reducible exact Keep.refl _) | refine Keep.trans ?_ (by with_reducible assumption) | exact Keep.refl _ | assumption))))⟩
        · have hf := first_some (p := isV k st sz x y) (n := n) (by omega) hb HB.out
          obtain ⟨hf1, hf2⟩ := hf
          clear hO3
          go_wp2
          go_ret2; exact ⟨by ((try rw [← hn]); (rw [hf1, hf2] <;> rfl)), (by ((repeat (first | (with_reducible assumption) | ((with_reducible refine Keep.setCell ?_ ?_ _); rotate_left; focus (first | omega | (simp; done) | (simp; omega))) | (with_reducible refine Keep.alloc ?_ _) | (with_reducible refine Keep.drewN ?_ _) | (with_reducible refine Keep.drew ?_) | (with_reducible exact Keep.refl _) | refine Keep.trans ?_ (by with_reducible assumption) | exact Keep.refl _ | assumption))))⟩
      · have hf := first_none (p := isV k st sz x y) (n := n) (fun u hu => hbef u (by omega))
        obtain ⟨hf1, hf2⟩ := hf
        clear hO3
        go_wp2
        go_ret2; exact ⟨by ((try rw [← hn]); (rw [hf1, hf2] <;> rfl)), (by ((repeat (first | (with_reducible assumption) | ((with_reducible refine Keep.setCell ?_ ?_ _); rotate_left; focus (first | omega | (simp; done) | (simp; omega))) | (with_reducible refine Keep.alloc ?_ _) | (with_reducible refine Keep.drewN ?_ _) | (with_reducible refine Keep.drew ?_) | (with_reducible exact Keep.refl _) | refine Keep.trans ?_ (by with_reducible assumption) | exact Keep.refl _ | assumption))))⟩
  · have qN : deN k st sz a b = 0 := by rw [deN, hzero]; rfl
    have qE : deE k st sz a b = 6 := by rw [deE, hzero]; rfl
    rw [qN, qE]
    generalize hx : a &&& paLo k st sz = x at *
    generalize hy : b &&& paHi k st sz = y at *
    have hM := spec_l01Meet a b (paLo k st sz) (paHi k st sz)
    rw [hx, hy] at hM
    clear qN qE hx hy
    obtain ⟨n, hn⟩ : ∃ n, n = (mostN k sz + 1).toNat := ⟨_, rfl⟩
    try rw [← hn]
    go_enter Tryd.func71, Tryd.ntmps71
    go_wp2_with fail
    refine wp_gen (fun W => Bx W w.heap.size #[.int .u64 (U a), .int .u64 (U b)] 28 ∧ Keep w W) ⟨Bx.new _ _ _, (by ((repeat (first | (with_reducible assumption) | ((with_reducible refine Keep.setCell ?_ ?_ _); rotate_left; focus (first | omega | (simp; done) | (simp; omega))) | (with_reducible refine Keep.alloc ?_ _) | (with_reducible refine Keep.drewN ?_ _) | (with_reducible refine Keep.drew ?_) | (with_reducible exact Keep.refl _) | refine Keep.trans ?_ (by with_reducible assumption) | exact Keep.refl _ | assumption))))⟩ ?_
    rintro W ⟨hA, hW⟩
    apply wp_region_mono 5 [Fx _, Fx _, Fx _, Fx _, Al (W.heap.size) #[.int .u64 0, .int .u64 0] 28] (by kernel_rfl) (by kernel_rfl) (mono_of ⟨Fx.mono _, Fx.mono _, Fx.mono _, Fx.mono _, Al.mono _ _ _, trivial⟩) ?st14 ?tl14
    case st14 =>
      simp only [List.take_succ_cons, List.take_zero, List.drop_succ_cons, List.drop_zero, putAll, Act.put, List.setIfInBounds_toArray, List.set_cons_succ, List.set_cons_zero, Nat.zero_add, Nat.reduceAdd]
      refine steps_cons ?_ (steps_cons ?_ (steps_cons ?_ (steps_cons ?_ (steps_cons ?_ steps_nil))))
      all_goals
        intro v w2 hk hd
        obtain ⟨hA_0, hA_1, hA_2, hA_3, hA_4⟩ := (hA.keep hk).two
        have hkz := hk.size
        simp [DepsOf, factAt, Fx, Region.binds] at hd
        simp only [factAt, List.getD_cons_zero, List.getD_cons_succ]
        refine Gives.mk ?_
        go_simp
        first | exact ⟨Keep.refl _, Fx.self _ _⟩ | exact ⟨(Keep.refl _).alloc _, _, rfl, Bx.new _ _ _, by first | omega | (simp; omega)⟩ | (go_at_call 58; exact gives_fx (spec_l01Part s k st sz gf o _ hI ht h0 h1 h2 ((hW.trans hk).cell c0) ((hW.trans hk).cell c1) ((hW.trans hk).cell c2) ((hW.trans hk).cell c3))) | (go_at_call 91; exact gives_fx (hM _))
    simp only [List.take_succ_cons, List.take_zero, List.drop_succ_cons, List.drop_zero, putAll, Act.put, List.setIfInBounds_toArray, List.set_cons_succ, List.set_cons_zero, Nat.zero_add, Nat.reduceAdd]
    intro v w2 hk hh
    obtain ⟨hA_0, hA_1, hA_2, hA_3, hA_4⟩ := (hA.keep hk).two
    have hkz := hk.size
    simp only [Held, factAt, List.getD_cons_zero, List.getD_cons_succ, Fx, true_and] at hh
    obtain ⟨⟨⟨⟨v_0, v_1⟩, v_2⟩, v_3⟩, g, v_4, hG, hg⟩ := hh
    obtain ⟨hG_0, hG_1, hG_2, hG_3, hG_4⟩ := hG.two
    simp only [v_0, v_1, v_2, v_3, v_4]
    go_wp2
    have zg := hW.size
    go_ret2; exact ⟨rfl, (by ((repeat (first | (with_reducible assumption) | ((with_reducible refine Keep.setCell ?_ ?_ _); rotate_left; focus (first | omega | (simp; done) | (simp; omega))) | (with_reducible refine Keep.alloc ?_ _) | (with_reducible refine Keep.drewN ?_ _) | (with_reducible refine Keep.drew ?_) | (with_reducible exact Keep.refl _) | refine Keep.trans ?_ (by with_reducible assumption) | exact Keep.refl _ | assumption))))⟩
end Go.Proofs.YtbgegnbcjklmjaaDoor

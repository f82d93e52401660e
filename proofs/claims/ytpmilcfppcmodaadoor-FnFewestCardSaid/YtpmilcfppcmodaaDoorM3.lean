/- Masks and holes, queries: the functions that give a code too. -/
import Derived.Test.YtpmilcfppcmodaaDoorL1
import Derived.Test.YtpmilcfppcmodaaDoorMono
set_option linter.unusedVariables false
set_option linter.unusedSimpArgs false
namespace Go.Proofs.YtpmilcfppcmodaaDoor
open Go.RowKit
set_option maxHeartbeats 1000000
theorem holeB_iff {h : Int} : holeB h = true ↔ 0 ≤ h ∧ h < 96 := by unfold holeB; simp
/-- What is asked of a mask and a hole. -/
def askedM (b : Wd) (h : Int) : Int := cond (okB b) (cond (holeB h) 0 2) 1
def hasHoleM (a b : Wd) (h : Int) : Bool := cond (okB b) (cond (holeB h) (hasB a b h) false) false
def withLo (a b : Wd) (h : Int) (o : Bool) : Wd := cond (okB b) (cond (holeB h) (cond o (a ||| bitLo h) (a &&& ~~~bitLo h)) 0#64) 0#64
def withHi (a b : Wd) (h : Int) (o : Bool) : Wd := cond (okB b) (cond (holeB h) (cond o (b ||| bitHi h) (b &&& ~~~bitHi h)) 0#64) 0#64
theorem impl_with1 (a b : Wd) (h : Int) (g c : Nat) (w : World) (h0 : 0 ≤ h) (h1 : h < 96) (hc : w.cell? ⟨g, 0, none⟩ = some (.int .i64 h)) :
    Calls Tryd.prog 74 #[.agg #[.int .u64 (U a), .int .u64 (U b)], .slice (some ⟨g, 0, none⟩) 1 c] w fun e w' => e = .returned (.agg #[.int .u64 (U (a ||| bitLo h)), .int .u64 (U (b ||| bitHi h))]) ∧ Keep w w' :=
  impl_with a b (some ⟨g, 0, none⟩) [h] c w (by simp; omega) (by simp) (.inr ⟨g, 0, rfl, fun j v hj => by
    match j, hj with
    | 0, hj => simp [ints] at hj; subst hj; exact hc⟩)
theorem impl_with1z (h : Int) (g c : Nat) (w : World) (h0 : 0 ≤ h) (h1 : h < 96) (hc : w.cell? ⟨g, 0, none⟩ = some (.int .i64 h)) :
    Calls Tryd.prog 74 #[.agg #[.int .u64 0, .int .u64 0], .slice (some ⟨g, 0, none⟩) 1 c] w fun e w' => e = .returned (.agg #[.int .u64 (U (bitLo h)), .int .u64 (U (bitHi h))]) ∧ Keep w w' := by
  have := impl_with1 0#64 0#64 h g c w h0 h1 hc
  simpa only [U_zero, BitVec.zero_or] using this
theorem impl_WithHole (a b : Wd) (h : Int) (o : Bool) (w : World) :
    Calls Tryd.prog 25 #[.agg #[.int .u64 (U a), .int .u64 (U b)], .int .i64 h, .bool o] w fun e w' => e = .returned (.tuple #[.agg #[.int .u64 (U (withLo a b h o)), .int .u64 (U (withHi a b h o))], .int .i64 (askedM b h)]) ∧ Keep w w' := by
  cases h1 : okB b
  · simp only [withLo, withHi, askedM, h1, cond_true, cond_false]
    go_enter Tryd.func25, Tryd.ntmps25
    go_wp2_with (first | (go_at_call 81; refine (impl_isMask _ _ _).mono ?_; rintro e w1 ⟨rfl, hk⟩; obtain ⟨hkc, hkf⟩ := hk.cells; have hkz0 : w.heap.size < w1.heap.size := (by have := hk.size; (try simp at this); omega); have hkz1 : w.heap.size + 1 < w1.heap.size := (by have := hk.size; (try simp at this); omega)))
    (apply bodyPost_ret; rotate_left; rfl; exact ⟨rfl, (by ((repeat (first | (with_reducible assumption) | ((with_reducible refine Keep.setCell ?_ ?_ _); rotate_left; focus (first | omega | (simp; done) | (simp; omega))) | (with_reducible refine Keep.alloc ?_ _) | (with_reducible refine Keep.drewN ?_ _) | (with_reducible refine Keep.drew ?_) | (with_reducible exact Keep.refl _) | refine Keep.trans ?_ (by with_reducible assumption) | exact Keep.refl _ | assumption))))⟩; simp [results, Tryd.results25, go_sem, U_zero, *])
  · cases h2 : holeB h
    · simp only [withLo, withHi, askedM, h1, h2, cond_true, cond_false]
      go_enter Tryd.func25, Tryd.ntmps25
      go_wp2_with (first | (go_at_call 81; refine (impl_isMask _ _ _).mono ?_; rintro e w1 ⟨rfl, hk⟩; obtain ⟨hkc, hkf⟩ := hk.cells; have hkz0 : w.heap.size < w1.heap.size := (by have := hk.size; (try simp at this); omega); have hkz1 : w.heap.size + 1 < w1.heap.size := (by have := hk.size; (try simp at this); omega)) | (go_at_call 84; refine (impl_isHole _ _).mono ?_; rintro e w2 ⟨rfl, hk2⟩; obtain ⟨hk2c, hk2f⟩ := hk2.cells; have hk2z0 : w.heap.size < w2.heap.size := (by have := hk2.size; (try simp at this); omega); have hk2z1 : w.heap.size + 1 < w2.heap.size := (by have := hk2.size; (try simp at this); omega)))
      (apply bodyPost_ret; rotate_left; rfl; exact ⟨rfl, (by ((repeat (first | (with_reducible assumption) | ((with_reducible refine Keep.setCell ?_ ?_ _); rotate_left; focus (first | omega | (simp; done) | (simp; omega))) | (with_reducible refine Keep.alloc ?_ _) | (with_reducible refine Keep.drewN ?_ _) | (with_reducible refine Keep.drew ?_) | (with_reducible exact Keep.refl _) | refine Keep.trans ?_ (by with_reducible assumption) | exact Keep.refl _ | assumption))))⟩; simp [results, Tryd.results25, go_sem, U_zero, *])
    · obtain ⟨g0, g1⟩ := holeB_iff.1 h2
      cases o
      · simp only [withLo, withHi, askedM, h1, h2, cond_true, cond_false]
        go_enter Tryd.func25, Tryd.ntmps25
        go_wp2_with (first | (go_at_call 81; refine (impl_isMask _ _ _).mono ?_; rintro e w1 ⟨rfl, hk⟩; obtain ⟨hkc, hkf⟩ := hk.cells; have hkz0 : w.heap.size < w1.heap.size := (by have := hk.size; (try simp at this); omega); have hkz1 : w.heap.size + 1 < w1.heap.size := (by have := hk.size; (try simp at this); omega)) | (go_at_call 84; refine (impl_isHole _ _).mono ?_; rintro e w2 ⟨rfl, hk2⟩; obtain ⟨hk2c, hk2f⟩ := hk2.cells; have hk2z0 : w.heap.size < w2.heap.size := (by have := hk2.size; (try simp at this); omega); have hk2z1 : w.heap.size + 1 < w2.heap.size := (by have := hk2.size; (try simp at this); omega)))
        have hA : Bx w2 w.heap.size #[.int .u64 (U a), .int .u64 (U b)] 33 := (((Bx.new _ _ _).alloc _).keep hk).keep hk2
        have hR : Bx w2 (w.heap.size + 1) #[.int .u64 0, .int .u64 0] 33 := ((Bx.new1 _ _ _ _).keep hk).keep hk2
        have hW : Keep w w2 := (by ((repeat (first | (with_reducible assumption) | ((with_reducible refine Keep.setCell ?_ ?_ _); rotate_left; focus (first | omega | (simp; done) | (simp; omega))) | (with_reducible refine Keep.alloc ?_ _) | (with_reducible refine Keep.drewN ?_ _) | (with_reducible refine Keep.drew ?_) | (with_reducible exact Keep.refl _) | refine Keep.trans ?_ (by with_reducible assumption) | exact Keep.refl _ | assumption))))
        clear hkc hkf hk2c hk2f hkz0 hkz1 hk2z0 hk2z1 hk hk2
        refine wp_region_mono 6 [Fx (.agg #[.int .u64 (U a), .int .u64 (U b)]), Fx (.agg #[.int .u64 0, .int .u64 0]), Fx (.int .i64 h), Sl w2.heap.size 1 #[.int .i64 h] 2, Fx (.agg #[.int .u64 (U (bitLo h)), .int .u64 (U (bitHi h))]), Fx (.agg #[.int .u64 (U (a &&& ~~~bitLo h)), .int .u64 (U (b &&& ~~~bitHi h))])] (by kernel_rfl) (by kernel_rfl) (mono_of ⟨Fx.mono _, Fx.mono _, Fx.mono _, Sl.mono _ _ _ _, Fx.mono _, Fx.mono _, trivial⟩) ?_ ?_
        focus
          simp only [List.take_succ_cons, List.take_zero, List.drop_succ_cons, List.drop_zero, putAll, Act.put, List.setIfInBounds_toArray, List.set_cons_succ, List.set_cons_zero, Nat.zero_add, Nat.reduceAdd]
          refine steps_cons ?_ (steps_cons ?_ (steps_cons ?_ (steps_cons ?_ (steps_cons ?_ (steps_cons ?_ steps_nil)))))
          all_goals
            intro v w2 hk hd
            obtain ⟨hA_0, hA_1, hA_2, hA_3, hA_4⟩ := (hA.keep hk).two
            obtain ⟨hR_0, hR_1, hR_2, hR_3, hR_4⟩ := (hR.keep hk).two
            have hkz := hk.size
            simp [DepsOf, factAt, Fx, Region.binds] at hd ⊢
            refine Gives.mk ?_
            go_simp
            first | exact Keep.refl _ | exact ⟨(Keep.refl _).alloc _, _, rfl, Bx.new _ _ _, by first | omega | (simp; omega)⟩ | ((obtain ⟨_, g, e3, hB, _⟩ := hd; rw [e3]; exact impl_with1z _ _ _ _ g0 g1 hB.one.1)) | (exact impl_LessMask _ _ _ _ _)
        simp only [List.take_succ_cons, List.take_zero, List.drop_succ_cons, List.drop_zero, putAll, Act.put, List.setIfInBounds_toArray, List.set_cons_succ, List.set_cons_zero, Nat.zero_add, Nat.reduceAdd]
        intro v w2 hk hh
        obtain ⟨hA_0, hA_1, hA_2, hA_3, hA_4⟩ := (hA.keep hk).two
        obtain ⟨hR_0, hR_1, hR_2, hR_3, hR_4⟩ := (hR.keep hk).two
        have hkz := hk.size
        simp only [Held, factAt, List.getD_cons_zero, List.getD_cons_succ, Fx, true_and] at hh
        obtain ⟨⟨⟨⟨⟨v_0, v_1⟩, v_2⟩, g3, v_3, hG3, hg3⟩, v_4⟩, v_5⟩ := hh
        have zhA := hA.lt
        have zhR := hR.lt
        have zW := hW.size
        go_wp2
        simp only [v_0, v_1, v_2, v_3, v_4, v_5]
        (apply bodyPost_ret; rotate_left; rfl; exact ⟨rfl, (by ((repeat (first | (with_reducible assumption) | ((with_reducible refine Keep.setCell ?_ ?_ _); rotate_left; focus (first | omega | (simp; done) | (simp; omega))) | (with_reducible refine Keep.alloc ?_ _) | (with_reducible refine Keep.drewN ?_ _) | (with_reducible refine Keep.drew ?_) | (with_reducible exact Keep.refl _) | refine Keep.trans ?_ (by with_reducible assumption) | exact Keep.refl _ | assumption))))⟩; simp [results, Tryd.results25, go_sem, U_zero, *])
      · simp only [withLo, withHi, askedM, h1, h2, cond_true, cond_false]
        go_enter Tryd.func25, Tryd.ntmps25
        go_wp2_with (first | (go_at_call 81; refine (impl_isMask _ _ _).mono ?_; rintro e w1 ⟨rfl, hk⟩; obtain ⟨hkc, hkf⟩ := hk.cells; have hkz0 : w.heap.size < w1.heap.size := (by have := hk.size; (try simp at this); omega); have hkz1 : w.heap.size + 1 < w1.heap.size := (by have := hk.size; (try simp at this); omega)) | (go_at_call 84; refine (impl_isHole _ _).mono ?_; rintro e w2 ⟨rfl, hk2⟩; obtain ⟨hk2c, hk2f⟩ := hk2.cells; have hk2z0 : w.heap.size < w2.heap.size := (by have := hk2.size; (try simp at this); omega); have hk2z1 : w.heap.size + 1 < w2.heap.size := (by have := hk2.size; (try simp at this); omega)))
        go_wp2_with (go_at_call 74; refine (impl_with1 _ _ _ _ _ _ g0 g1 (by simp [go_sem])).mono ?_; rintro e w3 ⟨rfl, hk3⟩; obtain ⟨hk3c, hk3f⟩ := hk3.cells; have hk3z0 : w.heap.size < w3.heap.size := (by have := hk3.size; (try simp at this); omega); have hk3z1 : w.heap.size + 1 < w3.heap.size := (by have := hk3.size; (try simp at this); omega))
        (apply bodyPost_ret; rotate_left; rfl; exact ⟨rfl, (by ((repeat (first | (with_reducible assumption) | ((with_reducible refine Keep.setCell ?_ ?_ _); rotate_left; focus (first | omega | (simp; done) | (simp; omega))) | (with_reducible refine Keep.alloc ?_ _) | (with_reducible refine Keep.drewN ?_ _) | (with_reducible refine Keep.drew ?_) | (with_reducible exact Keep.refl _) | refine Keep.trans ?_ (by with_reducible assumption) | exact Keep.refl _ | assumption))))⟩; simp [results, Tryd.results25, go_sem, U_zero, *])
end Go.Proofs.YtpmilcfppcmodaaDoor

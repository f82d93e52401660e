/- Queries: what is asked of them, and what they drop. -/
import Derived.Test.YtpmilcfppcmodaaDoorM3
set_option linter.unusedVariables false
set_option linter.unusedSimpArgs false
namespace Go.Proofs.YtpmilcfppcmodaaDoor
open Go.RowKit
set_option maxHeartbeats 1000000
def queryB (a b c d : Wd) : Bool := okB b && okB d && ((a &&& c) == 0#64 && (b &&& d) == 0#64)
def dropsB (a b c d x y : Wd) : Bool := withinB a b x y && ((c &&& x) == 0#64 && (d &&& y) == 0#64)
/-- From this place on lie these cells. -/
def Cs (w : World) (g o : Nat) (cs : List Value) : Prop := ∀ j v, cs[j]? = some v → w.cell? ⟨g, o + j, none⟩ = some v
theorem Cs.keep {w w' : World} {g o : Nat} {cs : List Value} (h : Cs w g o cs) (k : Keep w w') : Cs w' g o cs := fun j v hj => k.cell (h j v hj)
theorem Cs.of_bx {w : World} {g : Nat} {cs : Array Value} {T : TypeId} (h : Bx w g cs T) : Cs w g 0 cs.toList := fun j v hj => by
  rw [h.cell]; simpa using hj
theorem Cs.four {w : World} {g o : Nat} {x y z u : Value} (h : Cs w g o [x, y, z, u]) :
    w.cell? ⟨g, o, none⟩ = some x ∧ w.cell? ⟨g, o + 1, none⟩ = some y ∧ w.cell? ⟨g, o + 2, none⟩ = some z ∧ w.cell? ⟨g, o + 2 + 1, none⟩ = some u ∧ w.cell? ⟨g, o + 3, none⟩ = some u ∧ g < w.heap.size :=
  ⟨h 0 x rfl, h 1 y rfl, h 2 z rfl, h 3 u rfl, h 3 u rfl, World.block_lt_of_cell? w _ (h 0 x rfl)⟩
theorem impl_isQuery (a b c d : Wd) (w : World) :
    Calls Tryd.prog 79 #[.agg #[.int .u64 (U a), .int .u64 (U b), .int .u64 (U c), .int .u64 (U d)]] w fun e w' => e = .returned (.bool (queryB a b c d)) ∧ Keep w w' := by
  cases h1 : okB b <;> cases h2 : okB d
  all_goals
    go_enter Tryd.func79, Tryd.ntmps79
    go_wp2_with (first | (go_at_call 81; refine (impl_isMask _ _ _).mono ?_; rintro e w1 ⟨rfl, hk⟩; obtain ⟨hkc, hkf⟩ := hk.cells; have hkz0 : w.heap.size < w1.heap.size := (by have := hk.size; (try simp at this); omega)) | (go_at_call 135; refine (impl_MeetMasks _ _ _ _ _).mono ?_; rintro e w1 ⟨rfl, hk⟩; obtain ⟨hkc, hkf⟩ := hk.cells; have hkz0 : w.heap.size < w1.heap.size := (by have := hk.size; (try simp at this); omega)))
    go_ret; exact ⟨rb (by simp [queryB, h1, h2]), (by ((repeat (first | (with_reducible assumption) | ((with_reducible refine Keep.setCell ?_ ?_ _); rotate_left; focus (first | omega | (simp; done) | (simp; omega))) | (with_reducible refine Keep.alloc ?_ _) | (with_reducible refine Keep.drewN ?_ _) | (with_reducible refine Keep.drew ?_) | (with_reducible exact Keep.refl _) | refine Keep.trans ?_ (by with_reducible assumption) | exact Keep.refl _ | assumption))))⟩
theorem spec_l02Query (a b c d : Wd) (g o : Nat) (w : World) (hc : Cs w g o [.int .u64 (U a), .int .u64 (U b), .int .u64 (U c), .int .u64 (U d)]) :
    Calls Tryd.prog 68 #[.pointer (some ⟨g, o, none⟩)] w fun e w' => e = .returned (.bool (queryB a b c d)) ∧ Keep w w' := by
  obtain ⟨c0, c1, c2, c3, c4, z⟩ := hc.four
  cases h1 : okB b <;> cases h2 : okB d
  all_goals
    go_enter Tryd.func68, Tryd.ntmps68
    go_wp2_with fail
    refine wp_region_keep (by kernel_rfl) (by kernel_rfl) ?_
    repeat
      first
        | (apply QuietL.run
           focus go_simp
           focus
             intro w2 hk
             have c0' := hk.cell c0
             have c1' := hk.cell c1
             have c2' := hk.cell c2
             have c3' := hk.cell c3
             apply QAt.mk
             go_simp
             first
               | done
               | exact rfl
               | (go_at_call 125; exact quiet_call hk (spec_l01Mask _ _ _))
               | (go_at_call 76; exact quiet_call hk (spec_l01Meet _ _ _ _ _))
           simp only [Act.put, List.setIfInBounds_toArray, List.set_cons_succ, List.set_cons_zero])
        | (apply QuietL.skip
           focus go_simp
           simp only [Act.put, List.setIfInBounds_toArray, List.set_cons_succ, List.set_cons_zero])
    apply QuietL.nil
    intro w2 hk
    have c0' := hk.cell c0
    have c1' := hk.cell c1
    have c2' := hk.cell c2
    have c3' := hk.cell c3
    go_wp2
    go_ret; exact ⟨rb (by simp [queryB, h1, h2]), (by ((repeat (first | (with_reducible assumption) | ((with_reducible refine Keep.setCell ?_ ?_ _); rotate_left; focus (first | omega | (simp; done) | (simp; omega))) | (with_reducible refine Keep.alloc ?_ _) | (with_reducible refine Keep.drewN ?_ _) | (with_reducible refine Keep.drew ?_) | (with_reducible exact Keep.refl _) | refine Keep.trans ?_ (by with_reducible assumption) | exact Keep.refl _ | assumption))))⟩
theorem impl_drops (a b c d x y : Wd) (w : World) :
    Calls Tryd.prog 137 #[.agg #[.int .u64 (U a), .int .u64 (U b), .int .u64 (U c), .int .u64 (U d)], .agg #[.int .u64 (U x), .int .u64 (U y)]] w fun e w' => e = .returned (.bool (dropsB a b c d x y)) ∧ Keep w w' := by
  cases h1 : withinB a b x y
  all_goals
    go_enter Tryd.func137, Tryd.ntmps137
    go_wp2_with (first | (go_at_call 160; refine (impl_IsWithin _ _ _ _ _).mono ?_; rintro e w1 ⟨rfl, hk⟩; obtain ⟨hkc, hkf⟩ := hk.cells; have hkz0 : w.heap.size < w1.heap.size := (by have := hk.size; (try simp at this); omega); have hkz1 : w.heap.size + 1 < w1.heap.size := (by have := hk.size; (try simp at this); omega)) | (go_at_call 135; refine (impl_MeetMasks _ _ _ _ _).mono ?_; rintro e w1 ⟨rfl, hk⟩; obtain ⟨hkc, hkf⟩ := hk.cells; have hkz0 : w.heap.size < w1.heap.size := (by have := hk.size; (try simp at this); omega); have hkz1 : w.heap.size + 1 < w1.heap.size := (by have := hk.size; (try simp at this); omega)))
    go_ret; exact ⟨rb (by simp [dropsB, h1]), (by ((repeat (first | (with_reducible assumption) | ((with_reducible refine Keep.setCell ?_ ?_ _); rotate_left; focus (first | omega | (simp; done) | (simp; omega))) | (with_reducible refine Keep.alloc ?_ _) | (with_reducible refine Keep.drewN ?_ _) | (with_reducible refine Keep.drew ?_) | (with_reducible exact Keep.refl _) | refine Keep.trans ?_ (by with_reducible assumption) | exact Keep.refl _ | assumption))))⟩
theorem spec_l02Drops (a b c d x y : Wd) (g o : Nat) (w : World) (hc : Cs w g o [.int .u64 (U a), .int .u64 (U b), .int .u64 (U c), .int .u64 (U d)]) :
    Calls Tryd.prog 126 #[.pointer (some ⟨g, o, none⟩), .agg #[.int .u64 (U x), .int .u64 (U y)]] w fun e w' => e = .returned (.bool (dropsB a b c d x y)) ∧ Keep w w' := by
  obtain ⟨c0, c1, c2, c3, c4, z⟩ := hc.four
  cases h1 : withinB a b x y
  all_goals
    go_enter Tryd.func126, Tryd.ntmps126
    go_wp2_with fail
    refine wp_gen (fun W => Cs W g o [.int .u64 (U a), .int .u64 (U b), .int .u64 (U c), .int .u64 (U d)] ∧ Bx W w.heap.size #[.int .u64 (U x), .int .u64 (U y)] 33 ∧ Keep w W) ⟨hc.keep (by ((repeat (first | (with_reducible assumption) | ((with_reducible refine Keep.setCell ?_ ?_ _); rotate_left; focus (first | omega | (simp; done) | (simp; omega))) | (with_reducible refine Keep.alloc ?_ _) | (with_reducible refine Keep.drewN ?_ _) | (with_reducible refine Keep.drew ?_) | (with_reducible exact Keep.refl _) | refine Keep.trans ?_ (by with_reducible assumption) | exact Keep.refl _ | assumption)))), Bx.new _ _ _, (by ((repeat (first | (with_reducible assumption) | ((with_reducible refine Keep.setCell ?_ ?_ _); rotate_left; focus (first | omega | (simp; done) | (simp; omega))) | (with_reducible refine Keep.alloc ?_ _) | (with_reducible refine Keep.drewN ?_ _) | (with_reducible refine Keep.drew ?_) | (with_reducible exact Keep.refl _) | refine Keep.trans ?_ (by with_reducible assumption) | exact Keep.refl _ | assumption))))⟩ ?_
    clear c0 c1 c2 c3 c4 z
    rintro W ⟨hc, hA, hW⟩
    obtain ⟨c0, c1, c2, c3, c4, z⟩ := hc.four
    refine wp_region_keep (by kernel_rfl) (by kernel_rfl) ?_
    repeat
      first
        | (apply QuietL.run
           focus go_simp
           focus
             intro w2 hk
             have c0' := hk.cell c0
             have c1' := hk.cell c1
             have c2' := hk.cell c2
             have c3' := hk.cell c3
             obtain ⟨hA_0, hA_1, hA_2, hA_3, hA_4⟩ := (hA.keep hk).two
             apply QAt.mk
             go_simp
             first
               | done
               | exact rfl
               | (go_at_call 158; exact quiet_call hk (spec_IsWithin _ _ _ _ _))
               | (go_at_call 76; exact quiet_call hk (spec_l01Meet _ _ _ _ _))
           simp only [Act.put, List.setIfInBounds_toArray, List.set_cons_succ, List.set_cons_zero])
        | (apply QuietL.skip
           focus go_simp
           simp only [Act.put, List.setIfInBounds_toArray, List.set_cons_succ, List.set_cons_zero])
    apply QuietL.nil
    intro w2 hk
    have c0' := hk.cell c0
    have c1' := hk.cell c1
    have c2' := hk.cell c2
    have c3' := hk.cell c3
    have hA := hA.keep hk
    obtain ⟨hA_0, hA_1, hA_2, hA_3, hA_4⟩ := hA.two
    go_wp2
    go_ret; exact ⟨rb (by simp [dropsB, h1]), (by ((repeat (first | (with_reducible assumption) | ((with_reducible refine Keep.setCell ?_ ?_ _); rotate_left; focus (first | omega | (simp; done) | (simp; omega))) | (with_reducible refine Keep.alloc ?_ _) | (with_reducible refine Keep.drewN ?_ _) | (with_reducible refine Keep.drew ?_) | (with_reducible exact Keep.refl _) | refine Keep.trans ?_ (by with_reducible assumption) | exact Keep.refl _ | assumption))))⟩
def dropsCardB (a b c d x y : Wd) : Bool := cond (queryB a b c d) (cond (okB y) (dropsB a b c d x y) false) false
def dropsCardN (a b c d x y : Wd) : Int := cond (queryB a b c d) (cond (okB y) 0 1) 1
end Go.Proofs.YtpmilcfppcmodaaDoor

/- The laws of counted holes, and of two queries at once. -/
import Derived.Test.YtjgaacoikhonoaaW3
import Derived.Test.YtjgaacoikhonoaaM5
set_option linter.unusedVariables false
set_option linter.unusedSimpArgs false
namespace Go.Proofs.Ytjgaacoikhonoaa
open Go.RowKit
set_option maxHeartbeats 1000000
theorem laws_FnExactCountHoles (a b : Wd) (w : World) :
    Calls Try.prog 6 #[.agg #[.int .u64 (U a), .int .u64 (U b)]] w fun e w' => e = .returned (.bool true) ∧ Keep w w' := by
  go_enter Try.func6, Try.ntmps6
  (go_wp2_with fail); (go_at_call 16); (refine (laws_toMask _ _ _).mono ?_); rintro e w1 ⟨rfl, hk1⟩
  have hA := (Bx.new w #[.int .u64 (U a), .int .u64 (U b)] 23).keep hk1
  have k1 : Keep w w1 := (by ((repeat (first | (with_reducible assumption) | ((with_reducible refine Keep.setCell ?_ ?_ _); rotate_left; focus (first | omega | (simp; done) | (simp; omega))) | (with_reducible refine Keep.alloc ?_ _) | (with_reducible refine Keep.drewN ?_ _) | (with_reducible refine Keep.drew ?_) | (with_reducible exact Keep.refl _) | refine Keep.trans ?_ (by with_reducible assumption) | exact Keep.refl _ | assumption))))
  clear hk1
  have hAs := hA.two
  (go_wp2_with fail); (go_at_call 24); (refine (spec_CountHoles _ _ _).mono ?_); rintro e w2 ⟨rfl, hk2⟩
  have hA2 := hA.keep hk2
  have k2 : Keep w w2 := (by ((repeat (first | (with_reducible assumption) | ((with_reducible refine Keep.setCell ?_ ?_ _); rotate_left; focus (first | omega | (simp; done) | (simp; omega))) | (with_reducible refine Keep.alloc ?_ _) | (with_reducible refine Keep.drewN ?_ _) | (with_reducible refine Keep.drew ?_) | (with_reducible exact Keep.refl _) | refine Keep.trans ?_ (by with_reducible assumption) | exact Keep.refl _ | assumption))))
  clear hAs hA hk2 k1
  have hAs := hA2.two
  (go_wp2_with fail); (go_at_call 16); (refine (laws_toMask _ _ _).mono ?_); rintro e w3 ⟨rfl, hk3⟩
  (go_wp2_with fail); (go_at_call 25); (refine (impl_CountHoles _ _ _).mono ?_); rintro e w4 ⟨rfl, hk4⟩
  go_wp2
  go_ret; exact ⟨rfl, (by ((repeat (first | (with_reducible assumption) | ((with_reducible refine Keep.setCell ?_ ?_ _); rotate_left; focus (first | omega | (simp; done) | (simp; omega))) | (with_reducible refine Keep.alloc ?_ _) | (with_reducible refine Keep.drewN ?_ _) | (with_reducible refine Keep.drew ?_) | (with_reducible exact Keep.refl _) | refine Keep.trans ?_ (by with_reducible assumption) | exact Keep.refl _ | assumption))))⟩
/-- What a query's passes are. -/
def passesN (a b c d : Wd) : Int := cond (queryB a b c d) ((pc a + pc b + (pc c + pc d) : Nat) : Int) 0
def passesE (a b c d : Wd) : Int := cond (queryB a b c d) 0 1
theorem impl_PassesOf (a b c d : Wd) (w : World) :
    Calls Try.prog 45 #[.agg #[.int .u64 (U a), .int .u64 (U b), .int .u64 (U c), .int .u64 (U d)]] w fun e w' => e = .returned (.tuple #[.int .i64 (passesN a b c d), .int .i64 (passesE a b c d)]) ∧ Keep w w' := by
  have la := pc_le a
  have lb := pc_le b
  have lc := pc_le c
  have ld := pc_le d
  cases h1 : queryB a b c d <;> simp only [passesN, passesE, h1, cond_true, cond_false]
  · go_enter Try.func45, Try.ntmps45
    (go_wp2_with fail); (go_at_call 58); (refine (impl_isQuery _ _ _ _ _).mono ?_); rintro e w1 ⟨rfl, hk1⟩
    rw [h1]
    go_wp2
    go_ret2; exact ⟨rfl, (by ((repeat (first | (with_reducible assumption) | ((with_reducible refine Keep.setCell ?_ ?_ _); rotate_left; focus (first | omega | (simp; done) | (simp; omega))) | (with_reducible refine Keep.alloc ?_ _) | (with_reducible refine Keep.drewN ?_ _) | (with_reducible refine Keep.drew ?_) | (with_reducible exact Keep.refl _) | refine Keep.trans ?_ (by with_reducible assumption) | exact Keep.refl _ | assumption))))⟩
  · go_enter Try.func45, Try.ntmps45
    (go_wp2_with fail); (go_at_call 58); (refine (impl_isQuery _ _ _ _ _).mono ?_); rintro e w1 ⟨rfl, hk1⟩
    rw [h1]
    have hA := (Bx.new w #[.int .u64 (U a), .int .u64 (U b), .int .u64 (U c), .int .u64 (U d)] 33).keep hk1
    have k1 : Keep w w1 := (by ((repeat (first | (with_reducible assumption) | ((with_reducible refine Keep.setCell ?_ ?_ _); rotate_left; focus (first | omega | (simp; done) | (simp; omega))) | (with_reducible refine Keep.alloc ?_ _) | (with_reducible refine Keep.drewN ?_ _) | (with_reducible refine Keep.drew ?_) | (with_reducible exact Keep.refl _) | refine Keep.trans ?_ (by with_reducible assumption) | exact Keep.refl _ | assumption))))
    clear hk1
    have hAs := hA.four
    go_wp2_with fail
    refine wp_gen (fun W => Bx W w.heap.size #[.int .u64 (U a), .int .u64 (U b), .int .u64 (U c), .int .u64 (U d)] 33 ∧ Keep w W) ⟨hA, (by ((repeat (first | (with_reducible assumption) | ((with_reducible refine Keep.setCell ?_ ?_ _); rotate_left; focus (first | omega | (simp; done) | (simp; omega))) | (with_reducible refine Keep.alloc ?_ _) | (with_reducible refine Keep.drewN ?_ _) | (with_reducible refine Keep.drew ?_) | (with_reducible exact Keep.refl _) | refine Keep.trans ?_ (by with_reducible assumption) | exact Keep.refl _ | assumption))))⟩ ?_
    clear hA hAs k1
    rintro W ⟨hA, hW⟩
    refine wp_region_keep (by kernel_rfl) (by kernel_rfl) ?_
    repeat
      first
        | (apply QuietL.run
           focus go_simp
           focus
             intro w2 hk
             obtain ⟨hA_0, hA_1, hA_2, hA_3, hA_4, hA_5, hA_6, hA_7, hA_8⟩ := (hA.keep hk).four
             apply QAt.mk
             go_simp
             first
               | done
               | exact rfl
               | (go_at_call 25; exact quiet_call hk (impl_CountHoles _ _ _))
           simp only [Act.put, List.setIfInBounds_toArray, List.set_cons_succ, List.set_cons_zero])
        | (apply QuietL.skip
           focus go_simp
           simp only [Act.put, List.setIfInBounds_toArray, List.set_cons_succ, List.set_cons_zero])
    apply QuietL.nil
    intro w2 hk
    have hA := hA.keep hk
    obtain ⟨hA_0, hA_1, hA_2, hA_3, hA_4, hA_5, hA_6, hA_7, hA_8⟩ := hA.four
    go_wp2
    go_ret2; refine ⟨?_, (by ((repeat (first | (with_reducible assumption) | ((with_reducible refine Keep.setCell ?_ ?_ _); rotate_left; focus (first | omega | (simp; done) | (simp; omega))) | (with_reducible refine Keep.alloc ?_ _) | (with_reducible refine Keep.drewN ?_ _) | (with_reducible refine Keep.drew ?_) | (with_reducible exact Keep.refl _) | refine Keep.trans ?_ (by with_reducible assumption) | exact Keep.refl _ | assumption))))⟩; rw [wrapI64 ⟨by omega, by omega⟩]; rfl
theorem spec_PassesOf (a b c d : Wd) (w : World) :
    Calls Try.prog 44 #[.agg #[.int .u64 (U a), .int .u64 (U b), .int .u64 (U c), .int .u64 (U d)]] w fun e w' => e = .returned (.tuple #[.int .i64 (passesN a b c d), .int .i64 (passesE a b c d)]) ∧ Keep w w' := by
  have la := pc_le a
  have lb := pc_le b
  have lc := pc_le c
  have ld := pc_le d
  cases h1 : queryB a b c d <;> simp only [passesN, passesE, h1, cond_true, cond_false]
  · go_enter Try.func44, Try.ntmps44
    (go_wp2_with fail); (go_at_call 57); (refine (spec_l02Query a b c d _ _ _ (Cs.of_bx (Bx.new _ _ _))).mono ?_); rintro e w1 ⟨rfl, hk1⟩
    rw [h1]
    go_wp2
    go_ret2; exact ⟨rfl, (by ((repeat (first | (with_reducible assumption) | ((with_reducible refine Keep.setCell ?_ ?_ _); rotate_left; focus (first | omega | (simp; done) | (simp; omega))) | (with_reducible refine Keep.alloc ?_ _) | (with_reducible refine Keep.drewN ?_ _) | (with_reducible refine Keep.drew ?_) | (with_reducible exact Keep.refl _) | refine Keep.trans ?_ (by with_reducible assumption) | exact Keep.refl _ | assumption))))⟩
  · go_enter Try.func44, Try.ntmps44
    (go_wp2_with fail); (go_at_call 57); (refine (spec_l02Query a b c d _ _ _ (Cs.of_bx (Bx.new _ _ _))).mono ?_); rintro e w1 ⟨rfl, hk1⟩
    rw [h1]
    have hA := (Bx.new w #[.int .u64 (U a), .int .u64 (U b), .int .u64 (U c), .int .u64 (U d)] 33).keep hk1
    have k1 : Keep w w1 := (by ((repeat (first | (with_reducible assumption) | ((with_reducible refine Keep.setCell ?_ ?_ _); rotate_left; focus (first | omega | (simp; done) | (simp; omega))) | (with_reducible refine Keep.alloc ?_ _) | (with_reducible refine Keep.drewN ?_ _) | (with_reducible refine Keep.drew ?_) | (with_reducible exact Keep.refl _) | refine Keep.trans ?_ (by with_reducible assumption) | exact Keep.refl _ | assumption))))
    clear hk1
    have hAs := hA.four
    go_wp2_with fail
    refine wp_gen (fun W => Bx W w.heap.size #[.int .u64 (U a), .int .u64 (U b), .int .u64 (U c), .int .u64 (U d)] 33 ∧ Keep w W) ⟨hA, (by ((repeat (first | (with_reducible assumption) | ((with_reducible refine Keep.setCell ?_ ?_ _); rotate_left; focus (first | omega | (simp; done) | (simp; omega))) | (with_reducible refine Keep.alloc ?_ _) | (with_reducible refine Keep.drewN ?_ _) | (with_reducible refine Keep.drew ?_) | (with_reducible exact Keep.refl _) | refine Keep.trans ?_ (by with_reducible assumption) | exact Keep.refl _ | assumption))))⟩ ?_
    clear hA hAs k1
    rintro W ⟨hA, hW⟩
    refine wp_region_keep (by kernel_rfl) (by kernel_rfl) ?_
    repeat
      first
        | (apply QuietL.run
           focus go_simp
           focus
             intro w2 hk
             obtain ⟨hA_0, hA_1, hA_2, hA_3, hA_4, hA_5, hA_6, hA_7, hA_8⟩ := (hA.keep hk).four
             apply QAt.mk
             go_simp
             first
               | done
               | exact rfl
               | (go_at_call 24; exact quiet_call hk (spec_CountHoles _ _ _))
           simp only [Act.put, List.setIfInBounds_toArray, List.set_cons_succ, List.set_cons_zero])
        | (apply QuietL.skip
           focus go_simp
           simp only [Act.put, List.setIfInBounds_toArray, List.set_cons_succ, List.set_cons_zero])
    apply QuietL.nil
    intro w2 hk
    have hA := hA.keep hk
    obtain ⟨hA_0, hA_1, hA_2, hA_3, hA_4, hA_5, hA_6, hA_7, hA_8⟩ := hA.four
    go_wp2
    go_ret2; refine ⟨?_, (by ((repeat (first | (with_reducible assumption) | ((with_reducible refine Keep.setCell ?_ ?_ _); rotate_left; focus (first | omega | (simp; done) | (simp; omega))) | (with_reducible refine Keep.alloc ?_ _) | (with_reducible refine Keep.drewN ?_ _) | (with_reducible refine Keep.drew ?_) | (with_reducible exact Keep.refl _) | refine Keep.trans ?_ (by with_reducible assumption) | exact Keep.refl _ | assumption))))⟩; rw [wrapI64 ⟨by omega, by omega⟩]; rfl
theorem laws_FnExactPassesOf (a b c d : Wd) (w : World) :
    Calls Try.prog 13 #[.agg #[.int .u64 (U a), .int .u64 (U b), .int .u64 (U c), .int .u64 (U d)]] w fun e w' => e = .returned (.bool true) ∧ Keep w w' := by
  go_enter Try.func13, Try.ntmps13
  (go_wp2_with fail); (go_at_call 20); (refine (laws_toQuery _ _ _ _ _).mono ?_); rintro e w1 ⟨rfl, hk1⟩
  have hA := (Bx.new w #[.int .u64 (U a), .int .u64 (U b), .int .u64 (U c), .int .u64 (U d)] 30).keep hk1
  have k1 : Keep w w1 := (by ((repeat (first | (with_reducible assumption) | ((with_reducible refine Keep.setCell ?_ ?_ _); rotate_left; focus (first | omega | (simp; done) | (simp; omega))) | (with_reducible refine Keep.alloc ?_ _) | (with_reducible refine Keep.drewN ?_ _) | (with_reducible refine Keep.drew ?_) | (with_reducible exact Keep.refl _) | refine Keep.trans ?_ (by with_reducible assumption) | exact Keep.refl _ | assumption))))
  clear hk1
  have hAs := hA.four
  (go_wp2_with fail); (go_at_call 44); (refine (spec_PassesOf _ _ _ _ _).mono ?_); rintro e w2 ⟨rfl, hk2⟩
  have hA2 := hA.keep hk2
  have k2 : Keep w w2 := (by ((repeat (first | (with_reducible assumption) | ((with_reducible refine Keep.setCell ?_ ?_ _); rotate_left; focus (first | omega | (simp; done) | (simp; omega))) | (with_reducible refine Keep.alloc ?_ _) | (with_reducible refine Keep.drewN ?_ _) | (with_reducible refine Keep.drew ?_) | (with_reducible exact Keep.refl _) | refine Keep.trans ?_ (by with_reducible assumption) | exact Keep.refl _ | assumption))))
  clear hAs hA hk2 k1
  have hAs := hA2.four
  (go_wp2_with fail); (go_at_call 20); (refine (laws_toQuery _ _ _ _ _).mono ?_); rintro e w3 ⟨rfl, hk3⟩
  (go_wp2_with fail); (go_at_call 45); (refine (impl_PassesOf _ _ _ _ _).mono ?_); rintro e w4 ⟨rfl, hk4⟩
  go_wp2
  go_ret; exact ⟨rfl, (by ((repeat (first | (with_reducible assumption) | ((with_reducible refine Keep.setCell ?_ ?_ _); rotate_left; focus (first | omega | (simp; done) | (simp; omega))) | (with_reducible refine Keep.alloc ?_ _) | (with_reducible refine Keep.drewN ?_ _) | (with_reducible refine Keep.drew ?_) | (with_reducible exact Keep.refl _) | refine Keep.trans ?_ (by with_reducible assumption) | exact Keep.refl _ | assumption))))⟩
def bothE (a b c d x y z u : Wd) : Int := cond (queryB a b c d) (cond (queryB x y z u) (cond (queryB (a ||| x) (b ||| y) (c ||| z) (d ||| u)) 0 4) 1) 1
def bothV (a b c d x y z u r : Wd) : Wd := cond (queryB a b c d) (cond (queryB x y z u) (cond (queryB (a ||| x) (b ||| y) (c ||| z) (d ||| u)) r 0#64) 0#64) 0#64
theorem impl_BothQueries (a b c d x y z u : Wd) (w : World) :
    Calls Try.prog 36 #[.agg #[.int .u64 (U a), .int .u64 (U b), .int .u64 (U c), .int .u64 (U d)], .agg #[.int .u64 (U x), .int .u64 (U y), .int .u64 (U z), .int .u64 (U u)]] w fun e w' => e = .returned (.tuple #[.agg #[.int .u64 (U (bothV a b c d x y z u (a ||| x))), .int .u64 (U (bothV a b c d x y z u (b ||| y))), .int .u64 (U (bothV a b c d x y z u (c ||| z))), .int .u64 (U (bothV a b c d x y z u (d ||| u)))], .int .i64 (bothE a b c d x y z u)]) ∧ Keep w w' := by
  cases h1 : queryB a b c d
  · simp only [bothE, bothV, h1, cond_true, cond_false]
    go_enter Try.func36, Try.ntmps36
    (go_wp2_with fail); (go_at_call 58); (refine (impl_isQuery _ _ _ _ _).mono ?_); rintro e w1 ⟨rfl, hk1⟩
    rw [h1]
    obtain ⟨hk1c, hk1f⟩ := hk1.cells; have hk1z0 : w.heap.size < w1.heap.size := (by have := hk1.size; (try simp at this); omega); have hk1z1 : w.heap.size + 1 < w1.heap.size := (by have := hk1.size; (try simp at this); omega); have hk1z2 : w.heap.size + 1 + 1 < w1.heap.size := (by have := hk1.size; (try simp at this); omega)
    go_wp2
    (apply bodyPost_ret; rotate_left; rfl; exact ⟨rfl, (by ((repeat (first | (with_reducible assumption) | ((with_reducible refine Keep.setCell ?_ ?_ _); rotate_left; focus (first | omega | (simp; done) | (simp; omega))) | (with_reducible refine Keep.alloc ?_ _) | (with_reducible refine Keep.drewN ?_ _) | (with_reducible refine Keep.drew ?_) | (with_reducible exact Keep.refl _) | refine Keep.trans ?_ (by with_reducible assumption) | exact Keep.refl _ | assumption))))⟩; simp [results, Try.results36, go_sem, U_zero, *])
  · cases h2 : queryB x y z u
    · simp only [bothE, bothV, h1, h2, cond_true, cond_false]
      go_enter Try.func36, Try.ntmps36
      (go_wp2_with fail); (go_at_call 58); (refine (impl_isQuery _ _ _ _ _).mono ?_); rintro e w1 ⟨rfl, hk1⟩
      rw [h1]
      obtain ⟨hk1c, hk1f⟩ := hk1.cells; have hk1z0 : w.heap.size < w1.heap.size := (by have := hk1.size; (try simp at this); omega); have hk1z1 : w.heap.size + 1 < w1.heap.size := (by have := hk1.size; (try simp at this); omega); have hk1z2 : w.heap.size + 1 + 1 < w1.heap.size := (by have := hk1.size; (try simp at this); omega)
      (go_wp2_with fail); (go_at_call 58); (refine (impl_isQuery _ _ _ _ _).mono ?_); rintro e w2 ⟨rfl, hk2⟩
      rw [h2]
      obtain ⟨hk2c, hk2f⟩ := hk2.cells; have hk2z0 : w.heap.size < w2.heap.size := (by have := hk2.size; (try simp at this); omega); have hk2z1 : w.heap.size + 1 < w2.heap.size := (by have := hk2.size; (try simp at this); omega); have hk2z2 : w.heap.size + 1 + 1 < w2.heap.size := (by have := hk2.size; (try simp at this); omega)
      go_wp2
      (apply bodyPost_ret; rotate_left; rfl; exact ⟨rfl, (by ((repeat (first | (with_reducible assumption) | ((with_reducible refine Keep.setCell ?_ ?_ _); rotate_left; focus (first | omega | (simp; done) | (simp; omega))) | (with_reducible refine Keep.alloc ?_ _) | (with_reducible refine Keep.drewN ?_ _) | (with_reducible refine Keep.drew ?_) | (with_reducible exact Keep.refl _) | refine Keep.trans ?_ (by with_reducible assumption) | exact Keep.refl _ | assumption))))⟩; simp [results, Try.results36, go_sem, U_zero, *])
    · cases h3 : queryB (a ||| x) (b ||| y) (c ||| z) (d ||| u)
      all_goals
        simp only [bothE, bothV, h1, h2, h3, cond_true, cond_false]
        go_enter Try.func36, Try.ntmps36
        (go_wp2_with fail); (go_at_call 58); (refine (impl_isQuery _ _ _ _ _).mono ?_); rintro e w1 ⟨rfl, hk1⟩
        rw [h1]
        obtain ⟨hk1c, hk1f⟩ := hk1.cells; have hk1z0 : w.heap.size < w1.heap.size := (by have := hk1.size; (try simp at this); omega); have hk1z1 : w.heap.size + 1 < w1.heap.size := (by have := hk1.size; (try simp at this); omega); have hk1z2 : w.heap.size + 1 + 1 < w1.heap.size := (by have := hk1.size; (try simp at this); omega)
        (go_wp2_with fail); (go_at_call 58); (refine (impl_isQuery _ _ _ _ _).mono ?_); rintro e w2 ⟨rfl, hk2⟩
        rw [h2]
        obtain ⟨hk2c, hk2f⟩ := hk2.cells; have hk2z0 : w.heap.size < w2.heap.size := (by have := hk2.size; (try simp at this); omega); have hk2z1 : w.heap.size + 1 < w2.heap.size := (by have := hk2.size; (try simp at this); omega); have hk2z2 : w.heap.size + 1 + 1 < w2.heap.size := (by have := hk2.size; (try simp at this); omega)
        go_wp2_with fail
        refine wp_gen (fun W => Bx W w.heap.size #[.int .u64 (U a), .int .u64 (U b), .int .u64 (U c), .int .u64 (U d)] 33 ∧ Bx W (w.heap.size + 1) #[.int .u64 (U x), .int .u64 (U y), .int .u64 (U z), .int .u64 (U u)] 33 ∧ Bx W (w.heap.size + 1 + 1) #[.int .u64 0, .int .u64 0, .int .u64 0, .int .u64 0] 33 ∧ Keep w W) ⟨((((Bx.new _ _ _).alloc _).alloc _).keep hk1).keep hk2, (((Bx.new1 _ _ _ _).alloc _).keep hk1).keep hk2, ((Bx.new2 _ _ _ _ _).keep hk1).keep hk2, (by ((repeat (first | (with_reducible assumption) | ((with_reducible refine Keep.setCell ?_ ?_ _); rotate_left; focus (first | omega | (simp; done) | (simp; omega))) | (with_reducible refine Keep.alloc ?_ _) | (with_reducible refine Keep.drewN ?_ _) | (with_reducible refine Keep.drew ?_) | (with_reducible exact Keep.refl _) | refine Keep.trans ?_ (by with_reducible assumption) | exact Keep.refl _ | assumption))))⟩ ?_
        clear hk1 hk2 hk1c hk1f hk1z0 hk1z1 hk1z2 hk2c hk2f hk2z0 hk2z1 hk2z2
        rintro W ⟨hA, hB, hR, hW⟩
        refine wp_region_mono 12 [Fx (.pointer (some ⟨w.heap.size, 0, none⟩)), Fx (.agg #[.int .u64 (U a), .int .u64 (U b)]), Fx (.pointer (some ⟨w.heap.size + 1, 0, none⟩)), Fx (.agg #[.int .u64 (U x), .int .u64 (U y)]), Fx (.agg #[.int .u64 (U (a ||| x)), .int .u64 (U (b ||| y))]), Fx (.pointer (some ⟨w.heap.size, 2, none⟩)), Fx (.agg #[.int .u64 (U c), .int .u64 (U d)]), Fx (.pointer (some ⟨w.heap.size + 1, 2, none⟩)), Fx (.agg #[.int .u64 (U z), .int .u64 (U u)]), Fx (.agg #[.int .u64 (U (c ||| z)), .int .u64 (U (d ||| u))]), Fx (.agg #[.int .u64 (U (a ||| x)), .int .u64 (U (b ||| y)), .int .u64 (U (c ||| z)), .int .u64 (U (d ||| u))]), Al W.heap.size #[.int .u64 0, .int .u64 0, .int .u64 0, .int .u64 0] 33] (by kernel_rfl) (by kernel_rfl) (mono_of ⟨Fx.mono _, Fx.mono _, Fx.mono _, Fx.mono _, Fx.mono _, Fx.mono _, Fx.mono _, Fx.mono _, Fx.mono _, Fx.mono _, Fx.mono _, Al.mono _ _ _, trivial⟩) ?_ ?_
        focus
          simp only [List.take_succ_cons, List.take_zero, List.drop_succ_cons, List.drop_zero, putAll, Act.put, List.setIfInBounds_toArray, List.set_cons_succ, List.set_cons_zero, Nat.zero_add, Nat.reduceAdd]
          refine steps_cons ?_ (steps_cons ?_ (steps_cons ?_ (steps_cons ?_ (steps_cons ?_ (steps_cons ?_ (steps_cons ?_ (steps_cons ?_ (steps_cons ?_ (steps_cons ?_ (steps_cons ?_ (steps_cons ?_ steps_nil)))))))))))
          all_goals
            intro v w2 hk hd
            obtain ⟨hA_0, hA_1, hA_2, hA_3, hA_4, hA_5, hA_6, hA_7, hA_8⟩ := (hA.keep hk).four
            obtain ⟨hB_0, hB_1, hB_2, hB_3, hB_4, hB_5, hB_6, hB_7, hB_8⟩ := (hB.keep hk).four
            obtain ⟨hR_0, hR_1, hR_2, hR_3, hR_4, hR_5, hR_6, hR_7, hR_8⟩ := (hR.keep hk).four
            have hkz := hk.size
            simp [DepsOf, factAt, Fx, Region.binds] at hd ⊢
            refine Gives.mk ?_
            go_simp
            first | exact Keep.refl _ | exact ⟨(Keep.refl _).alloc _, _, rfl, Bx.new _ _ _, by first | omega | (simp; omega)⟩ | (exact impl_JoinMasks _ _ _ _ _)
        simp only [List.take_succ_cons, List.take_zero, List.drop_succ_cons, List.drop_zero, putAll, Act.put, List.setIfInBounds_toArray, List.set_cons_succ, List.set_cons_zero, Nat.zero_add, Nat.reduceAdd]
        intro v w2 hk hh
        obtain ⟨hA_0, hA_1, hA_2, hA_3, hA_4, hA_5, hA_6, hA_7, hA_8⟩ := (hA.keep hk).four
        obtain ⟨hB_0, hB_1, hB_2, hB_3, hB_4, hB_5, hB_6, hB_7, hB_8⟩ := (hB.keep hk).four
        obtain ⟨hR_0, hR_1, hR_2, hR_3, hR_4, hR_5, hR_6, hR_7, hR_8⟩ := (hR.keep hk).four
        have hkz := hk.size
        simp only [Held, factAt, List.getD_cons_zero, List.getD_cons_succ, Fx, true_and] at hh
        obtain ⟨⟨⟨⟨⟨⟨⟨⟨⟨⟨⟨v_0, v_1⟩, v_2⟩, v_3⟩, v_4⟩, v_5⟩, v_6⟩, v_7⟩, v_8⟩, v_9⟩, v_10⟩, g, v_11, hG, hg⟩ := hh
        obtain ⟨hG_0, hG_1, hG_2, hG_3, hG_4, hG_5, hG_6, hG_7, hG_8⟩ := hG.four
        have zhA := hA.lt
        have zhB := hB.lt
        have zhR := hR.lt
        have zW := hW.size
        (go_wp2_with fail); (go_at_call 58); (refine (impl_isQuery _ _ _ _ _).mono ?_); rintro e w3 ⟨rfl, hk3⟩
        rw [h3]
        have hC := ((((hG.set (.int .u64 (U (a ||| x)))).set (.int .u64 (U (b ||| y)))).set (.int .u64 (U (c ||| z)))).set (.int .u64 (U (d ||| u)))).keep hk3
        have hR3 := (((((hR.keep hk).set' (by simp; omega) _).set' (by simp; omega) _).set' (by simp; omega) _).set' (by simp; omega) _).keep hk3
        have k3 : Keep w w3 := (by ((repeat (first | (with_reducible assumption) | ((with_reducible refine Keep.setCell ?_ ?_ _); rotate_left; focus (first | omega | (simp; done) | (simp; omega))) | (with_reducible refine Keep.alloc ?_ _) | (with_reducible refine Keep.drewN ?_ _) | (with_reducible refine Keep.drew ?_) | (with_reducible exact Keep.refl _) | refine Keep.trans ?_ (by with_reducible assumption) | exact Keep.refl _ | assumption))))
        clear hk3 hk hA hB hG hR hG_0 hG_1 hG_2 hG_3 hG_4 hG_5 hG_6 hG_7 hG_8 hR_0 hR_1 hR_2 hR_3 hR_4 hR_5 hR_6 hR_7 hR_8 hA_0 hA_1 hA_2 hA_3 hA_4 hA_5 hA_6 hA_7 hA_8 hB_0 hB_1 hB_2 hB_3 hB_4 hB_5 hB_6 hB_7 hB_8
        have hCs := hC.four
        have hRs := hR3.four
        go_wp2
        (apply bodyPost_ret; rotate_left; rfl; exact ⟨rfl, (by ((repeat (first | (with_reducible assumption) | ((with_reducible refine Keep.setCell ?_ ?_ _); rotate_left; focus (first | omega | (simp; done) | (simp; omega))) | (with_reducible refine Keep.alloc ?_ _) | (with_reducible refine Keep.drewN ?_ _) | (with_reducible refine Keep.drew ?_) | (with_reducible exact Keep.refl _) | refine Keep.trans ?_ (by with_reducible assumption) | exact Keep.refl _ | assumption))))⟩; simp [results, Try.results36, go_sem, U_zero, *])
theorem spec_BothQueries (a b c d x y z u : Wd) (w : World) :
    Calls Try.prog 35 #[.agg #[.int .u64 (U a), .int .u64 (U b), .int .u64 (U c), .int .u64 (U d)], .agg #[.int .u64 (U x), .int .u64 (U y), .int .u64 (U z), .int .u64 (U u)]] w fun e w' => e = .returned (.tuple #[.agg #[.int .u64 (U (bothV a b c d x y z u (a ||| x))), .int .u64 (U (bothV a b c d x y z u (b ||| y))), .int .u64 (U (bothV a b c d x y z u (c ||| z))), .int .u64 (U (bothV a b c d x y z u (d ||| u)))], .int .i64 (bothE a b c d x y z u)]) ∧ Keep w w' := by
  cases h1 : queryB a b c d
  · simp only [bothE, bothV, h1, cond_true, cond_false]
    go_enter Try.func35, Try.ntmps35
    (go_wp2_with fail); (go_at_call 57); (refine (spec_l02Query a b c d _ _ _ (Cs.of_bx (((Bx.new _ _ _).alloc _).alloc _))).mono ?_); rintro e w1 ⟨rfl, hk1⟩
    rw [h1]
    obtain ⟨hk1c, hk1f⟩ := hk1.cells; have hk1z0 : w.heap.size < w1.heap.size := (by have := hk1.size; (try simp at this); omega); have hk1z1 : w.heap.size + 1 < w1.heap.size := (by have := hk1.size; (try simp at this); omega); have hk1z2 : w.heap.size + 1 + 1 < w1.heap.size := (by have := hk1.size; (try simp at this); omega)
    go_wp2
    (apply bodyPost_ret; rotate_left; rfl; exact ⟨rfl, (by ((repeat (first | (with_reducible assumption) | ((with_reducible refine Keep.setCell ?_ ?_ _); rotate_left; focus (first | omega | (simp; done) | (simp; omega))) | (with_reducible refine Keep.alloc ?_ _) | (with_reducible refine Keep.drewN ?_ _) | (with_reducible refine Keep.drew ?_) | (with_reducible exact Keep.refl _) | refine Keep.trans ?_ (by with_reducible assumption) | exact Keep.refl _ | assumption))))⟩; simp [results, Try.results35, go_sem, U_zero, *])
  · cases h2 : queryB x y z u
    · simp only [bothE, bothV, h1, h2, cond_true, cond_false]
      go_enter Try.func35, Try.ntmps35
      (go_wp2_with fail); (go_at_call 57); (refine (spec_l02Query a b c d _ _ _ (Cs.of_bx (((Bx.new _ _ _).alloc _).alloc _))).mono ?_); rintro e w1 ⟨rfl, hk1⟩
      rw [h1]
      obtain ⟨hk1c, hk1f⟩ := hk1.cells; have hk1z0 : w.heap.size < w1.heap.size := (by have := hk1.size; (try simp at this); omega); have hk1z1 : w.heap.size + 1 < w1.heap.size := (by have := hk1.size; (try simp at this); omega); have hk1z2 : w.heap.size + 1 + 1 < w1.heap.size := (by have := hk1.size; (try simp at this); omega)
      (go_wp2_with fail); (go_at_call 57); (refine (spec_l02Query x y z u _ _ _ (Cs.of_bx (((Bx.new1 _ _ _ _).alloc _).keep hk1))).mono ?_); rintro e w2 ⟨rfl, hk2⟩
      rw [h2]
      obtain ⟨hk2c, hk2f⟩ := hk2.cells; have hk2z0 : w.heap.size < w2.heap.size := (by have := hk2.size; (try simp at this); omega); have hk2z1 : w.heap.size + 1 < w2.heap.size := (by have := hk2.size; (try simp at this); omega); have hk2z2 : w.heap.size + 1 + 1 < w2.heap.size := (by have := hk2.size; (try simp at this); omega)
      go_wp2
      (apply bodyPost_ret; rotate_left; rfl; exact ⟨rfl, (by ((repeat (first | (with_reducible assumption) | ((with_reducible refine Keep.setCell ?_ ?_ _); rotate_left; focus (first | omega | (simp; done) | (simp; omega))) | (with_reducible refine Keep.alloc ?_ _) | (with_reducible refine Keep.drewN ?_ _) | (with_reducible refine Keep.drew ?_) | (with_reducible exact Keep.refl _) | refine Keep.trans ?_ (by with_reducible assumption) | exact Keep.refl _ | assumption))))⟩; simp [results, Try.results35, go_sem, U_zero, *])
    · cases h3 : queryB (a ||| x) (b ||| y) (c ||| z) (d ||| u)
      all_goals
        simp only [bothE, bothV, h1, h2, h3, cond_true, cond_false]
        go_enter Try.func35, Try.ntmps35
        (go_wp2_with fail); (go_at_call 57); (refine (spec_l02Query a b c d _ _ _ (Cs.of_bx (((Bx.new _ _ _).alloc _).alloc _))).mono ?_); rintro e w1 ⟨rfl, hk1⟩
        rw [h1]
        obtain ⟨hk1c, hk1f⟩ := hk1.cells; have hk1z0 : w.heap.size < w1.heap.size := (by have := hk1.size; (try simp at this); omega); have hk1z1 : w.heap.size + 1 < w1.heap.size := (by have := hk1.size; (try simp at this); omega); have hk1z2 : w.heap.size + 1 + 1 < w1.heap.size := (by have := hk1.size; (try simp at this); omega)
        (go_wp2_with fail); (go_at_call 57); (refine (spec_l02Query x y z u _ _ _ (Cs.of_bx (((Bx.new1 _ _ _ _).alloc _).keep hk1))).mono ?_); rintro e w2 ⟨rfl, hk2⟩
        rw [h2]
        obtain ⟨hk2c, hk2f⟩ := hk2.cells; have hk2z0 : w.heap.size < w2.heap.size := (by have := hk2.size; (try simp at this); omega); have hk2z1 : w.heap.size + 1 < w2.heap.size := (by have := hk2.size; (try simp at this); omega); have hk2z2 : w.heap.size + 1 + 1 < w2.heap.size := (by have := hk2.size; (try simp at this); omega)
        go_wp2_with fail
        refine wp_gen (fun W => Bx W w.heap.size #[.int .u64 (U a), .int .u64 (U b), .int .u64 (U c), .int .u64 (U d)] 33 ∧ Bx W (w.heap.size + 1) #[.int .u64 (U x), .int .u64 (U y), .int .u64 (U z), .int .u64 (U u)] 33 ∧ Bx W (w.heap.size + 1 + 1) #[.int .u64 0, .int .u64 0, .int .u64 0, .int .u64 0] 33 ∧ Keep w W) ⟨((((Bx.new _ _ _).alloc _).alloc _).keep hk1).keep hk2, (((Bx.new1 _ _ _ _).alloc _).keep hk1).keep hk2, ((Bx.new2 _ _ _ _ _).keep hk1).keep hk2, (by ((repeat (first | (with_reducible assumption) | ((with_reducible refine Keep.setCell ?_ ?_ _); rotate_left; focus (first | omega | (simp; done) | (simp; omega))) | (with_reducible refine Keep.alloc ?_ _) | (with_reducible refine Keep.drewN ?_ _) | (with_reducible refine Keep.drew ?_) | (with_reducible exact Keep.refl _) | refine Keep.trans ?_ (by with_reducible assumption) | exact Keep.refl _ | assumption))))⟩ ?_
        clear hk1 hk2 hk1c hk1f hk1z0 hk1z1 hk1z2 hk2c hk2f hk2z0 hk2z1 hk2z2
        rintro W ⟨hA, hB, hR, hW⟩
        refine wp_region_mono 12 [Fx (.pointer (some ⟨w.heap.size, 0, none⟩)), Fx (.agg #[.int .u64 (U a), .int .u64 (U b)]), Fx (.pointer (some ⟨w.heap.size + 1, 0, none⟩)), Fx (.agg #[.int .u64 (U x), .int .u64 (U y)]), Fx (.agg #[.int .u64 (U (a ||| x)), .int .u64 (U (b ||| y))]), Fx (.pointer (some ⟨w.heap.size, 2, none⟩)), Fx (.agg #[.int .u64 (U c), .int .u64 (U d)]), Fx (.pointer (some ⟨w.heap.size + 1, 2, none⟩)), Fx (.agg #[.int .u64 (U z), .int .u64 (U u)]), Fx (.agg #[.int .u64 (U (c ||| z)), .int .u64 (U (d ||| u))]), Fx (.agg #[.int .u64 (U (a ||| x)), .int .u64 (U (b ||| y)), .int .u64 (U (c ||| z)), .int .u64 (U (d ||| u))]), Al W.heap.size #[.int .u64 0, .int .u64 0, .int .u64 0, .int .u64 0] 33] (by kernel_rfl) (by kernel_rfl) (mono_of ⟨Fx.mono _, Fx.mono _, Fx.mono _, Fx.mono _, Fx.mono _, Fx.mono _, Fx.mono _, Fx.mono _, Fx.mono _, Fx.mono _, Fx.mono _, Al.mono _ _ _, trivial⟩) ?_ ?_
        focus
          simp only [List.take_succ_cons, List.take_zero, List.drop_succ_cons, List.drop_zero, putAll, Act.put, List.setIfInBounds_toArray, List.set_cons_succ, List.set_cons_zero, Nat.zero_add, Nat.reduceAdd]
          refine steps_cons ?_ (steps_cons ?_ (steps_cons ?_ (steps_cons ?_ (steps_cons ?_ (steps_cons ?_ (steps_cons ?_ (steps_cons ?_ (steps_cons ?_ (steps_cons ?_ (steps_cons ?_ (steps_cons ?_ steps_nil)))))))))))
          all_goals
            intro v w2 hk hd
            obtain ⟨hA_0, hA_1, hA_2, hA_3, hA_4, hA_5, hA_6, hA_7, hA_8⟩ := (hA.keep hk).four
            obtain ⟨hB_0, hB_1, hB_2, hB_3, hB_4, hB_5, hB_6, hB_7, hB_8⟩ := (hB.keep hk).four
            obtain ⟨hR_0, hR_1, hR_2, hR_3, hR_4, hR_5, hR_6, hR_7, hR_8⟩ := (hR.keep hk).four
            have hkz := hk.size
            simp [DepsOf, factAt, Fx, Region.binds] at hd ⊢
            refine Gives.mk ?_
            go_simp
            first | exact Keep.refl _ | exact ⟨(Keep.refl _).alloc _, _, rfl, Bx.new _ _ _, by first | omega | (simp; omega)⟩ | (exact spec_l01Join _ _ _ _ _)
        simp only [List.take_succ_cons, List.take_zero, List.drop_succ_cons, List.drop_zero, putAll, Act.put, List.setIfInBounds_toArray, List.set_cons_succ, List.set_cons_zero, Nat.zero_add, Nat.reduceAdd]
        intro v w2 hk hh
        obtain ⟨hA_0, hA_1, hA_2, hA_3, hA_4, hA_5, hA_6, hA_7, hA_8⟩ := (hA.keep hk).four
        obtain ⟨hB_0, hB_1, hB_2, hB_3, hB_4, hB_5, hB_6, hB_7, hB_8⟩ := (hB.keep hk).four
        obtain ⟨hR_0, hR_1, hR_2, hR_3, hR_4, hR_5, hR_6, hR_7, hR_8⟩ := (hR.keep hk).four
        have hkz := hk.size
        simp only [Held, factAt, List.getD_cons_zero, List.getD_cons_succ, Fx, true_and] at hh
        obtain ⟨⟨⟨⟨⟨⟨⟨⟨⟨⟨⟨v_0, v_1⟩, v_2⟩, v_3⟩, v_4⟩, v_5⟩, v_6⟩, v_7⟩, v_8⟩, v_9⟩, v_10⟩, g, v_11, hG, hg⟩ := hh
        obtain ⟨hG_0, hG_1, hG_2, hG_3, hG_4, hG_5, hG_6, hG_7, hG_8⟩ := hG.four
        have zhA := hA.lt
        have zhB := hB.lt
        have zhR := hR.lt
        have zW := hW.size
        (go_wp2_with fail); (go_at_call 57); (refine (spec_l02Query _ _ _ _ _ _ _ (Cs.of_bx ((((hG.set (.int .u64 (U (a ||| x)))).set (.int .u64 (U (b ||| y)))).set (.int .u64 (U (c ||| z)))).set (.int .u64 (U (d ||| u)))))).mono ?_); rintro e w3 ⟨rfl, hk3⟩
        rw [h3]
        have hC := ((((hG.set (.int .u64 (U (a ||| x)))).set (.int .u64 (U (b ||| y)))).set (.int .u64 (U (c ||| z)))).set (.int .u64 (U (d ||| u)))).keep hk3
        have hR3 := (((((hR.keep hk).set' (by simp; omega) _).set' (by simp; omega) _).set' (by simp; omega) _).set' (by simp; omega) _).keep hk3
        have k3 : Keep w w3 := (by ((repeat (first | (with_reducible assumption) | ((with_reducible refine Keep.setCell ?_ ?_ _); rotate_left; focus (first | omega | (simp; done) | (simp; omega))) | (with_reducible refine Keep.alloc ?_ _) | (with_reducible refine Keep.drewN ?_ _) | (with_reducible refine Keep.drew ?_) | (with_reducible exact Keep.refl _) | refine Keep.trans ?_ (by with_reducible assumption) | exact Keep.refl _ | assumption))))
        clear hk3 hk hA hB hG hR hG_0 hG_1 hG_2 hG_3 hG_4 hG_5 hG_6 hG_7 hG_8 hR_0 hR_1 hR_2 hR_3 hR_4 hR_5 hR_6 hR_7 hR_8 hA_0 hA_1 hA_2 hA_3 hA_4 hA_5 hA_6 hA_7 hA_8 hB_0 hB_1 hB_2 hB_3 hB_4 hB_5 hB_6 hB_7 hB_8
        have hCs := hC.four
        have hRs := hR3.four
        go_wp2
        (apply bodyPost_ret; rotate_left; rfl; exact ⟨rfl, (by ((repeat (first | (with_reducible assumption) | ((with_reducible refine Keep.setCell ?_ ?_ _); rotate_left; focus (first | omega | (simp; done) | (simp; omega))) | (with_reducible refine Keep.alloc ?_ _) | (with_reducible refine Keep.drewN ?_ _) | (with_reducible refine Keep.drew ?_) | (with_reducible exact Keep.refl _) | refine Keep.trans ?_ (by with_reducible assumption) | exact Keep.refl _ | assumption))))⟩; simp [results, Try.results35, go_sem, U_zero, *])
end Go.Proofs.Ytjgaacoikhonoaa

/- The reference's WithHole; the fields of a mix. -/
import Derived.Test.YtjgaacoikhonoaaM3
set_option linter.unusedVariables false
set_option linter.unusedSimpArgs false
namespace Go.Proofs.Ytjgaacoikhonoaa
open Go.RowKit
set_option maxHeartbeats 1000000
theorem spec_WithHole (a b : Wd) (h : Int) (o : Bool) (w : World) :
    Calls Try.prog 38 #[.agg #[.int .u64 (U a), .int .u64 (U b)], .int .i64 h, .bool o] w fun e w' => e = .returned (.tuple #[.agg #[.int .u64 (U (withLo a b h o)), .int .u64 (U (withHi a b h o))], .int .i64 (askedM b h)]) ∧ Keep w w' := by
  cases h1 : okB b
  · have e1 : askedM b h = 1 := by simp only [askedM, h1, cond_false]
    simp only [withLo, withHi, h1, cond_true, cond_false]
    go_enter Try.func38, Try.ntmps38
    go_wp2_with (go_at_call 59; refine (spec_l01Asked _ _ _ _).mono ?_; rintro e w1 ⟨rfl, hk⟩; obtain ⟨hkc, hkf⟩ := hk.cells; have hkz0 : w.heap.size < w1.heap.size := (by have := hk.size; (try simp at this); omega); have hkz1 : w.heap.size + 1 < w1.heap.size := (by have := hk.size; (try simp at this); omega))
    (apply bodyPost_ret; rotate_left; rfl; exact ⟨rfl, (by ((repeat (first | (with_reducible assumption) | ((with_reducible refine Keep.setCell ?_ ?_ _); rotate_left; focus (first | omega | (simp; done) | (simp; omega))) | (with_reducible refine Keep.alloc ?_ _) | (with_reducible refine Keep.drewN ?_ _) | (with_reducible refine Keep.drew ?_) | (with_reducible exact Keep.refl _) | refine Keep.trans ?_ (by with_reducible assumption) | exact Keep.refl _ | assumption))))⟩; simp [results, Try.results38, go_sem, U_zero, *])
  · cases h2 : holeB h
    · have e1 : askedM b h = 2 := by simp only [askedM, h1, h2, cond_true, cond_false]
      simp only [withLo, withHi, h1, h2, cond_true, cond_false]
      go_enter Try.func38, Try.ntmps38
      go_wp2_with (go_at_call 59; refine (spec_l01Asked _ _ _ _).mono ?_; rintro e w1 ⟨rfl, hk⟩; obtain ⟨hkc, hkf⟩ := hk.cells; have hkz0 : w.heap.size < w1.heap.size := (by have := hk.size; (try simp at this); omega); have hkz1 : w.heap.size + 1 < w1.heap.size := (by have := hk.size; (try simp at this); omega))
      (apply bodyPost_ret; rotate_left; rfl; exact ⟨rfl, (by ((repeat (first | (with_reducible assumption) | ((with_reducible refine Keep.setCell ?_ ?_ _); rotate_left; focus (first | omega | (simp; done) | (simp; omega))) | (with_reducible refine Keep.alloc ?_ _) | (with_reducible refine Keep.drewN ?_ _) | (with_reducible refine Keep.drew ?_) | (with_reducible exact Keep.refl _) | refine Keep.trans ?_ (by with_reducible assumption) | exact Keep.refl _ | assumption))))⟩; simp [results, Try.results38, go_sem, U_zero, *])
    · have e1 : askedM b h = 0 := by simp only [askedM, h1, h2, cond_true, cond_false]
      obtain ⟨g0, g1⟩ := holeB_iff.1 h2
      have key : ∀ W : World, Keep w W → True := fun _ _ => trivial
      clear key
      cases o
      · simp only [withLo, withHi, h1, h2, cond_true, cond_false]
        go_enter Try.func38, Try.ntmps38
        go_wp2_with (go_at_call 59; refine (spec_l01Asked _ _ _ _).mono ?_; rintro e w1 ⟨rfl, hk⟩; obtain ⟨hkc, hkf⟩ := hk.cells; have hkz0 : w.heap.size < w1.heap.size := (by have := hk.size; (try simp at this); omega); have hkz1 : w.heap.size + 1 < w1.heap.size := (by have := hk.size; (try simp at this); omega))
        refine wp_gen (fun W => Bx W w.heap.size #[.int .u64 (U a), .int .u64 (U b)] 24 ∧ Bx W (w.heap.size + 1) #[.int .u64 0, .int .u64 0] 24 ∧ Keep w W) ⟨((Bx.new _ _ _).alloc _).keep hk, (Bx.new1 _ _ _ _).keep hk, (by ((repeat (first | (with_reducible assumption) | ((with_reducible refine Keep.setCell ?_ ?_ _); rotate_left; focus (first | omega | (simp; done) | (simp; omega))) | (with_reducible refine Keep.alloc ?_ _) | (with_reducible refine Keep.drewN ?_ _) | (with_reducible refine Keep.drew ?_) | (with_reducible exact Keep.refl _) | refine Keep.trans ?_ (by with_reducible assumption) | exact Keep.refl _ | assumption))))⟩ ?_
        clear hkc hkf hkz0 hkz1 hk
        rintro W ⟨hA, hR, hW⟩
        refine wp_region_mono 4 [Fx (.agg #[.int .u64 (U a), .int .u64 (U b)]), Fx (.int .i64 h), Fx (.agg #[.int .u64 (U (bitLo h)), .int .u64 (U (bitHi h))]), Fx (.agg #[.int .u64 (U (a &&& ~~~bitLo h)), .int .u64 (U (b &&& ~~~bitHi h))])] (by kernel_rfl) (by kernel_rfl) (mono_of ⟨Fx.mono _, Fx.mono _, Fx.mono _, Fx.mono _, trivial⟩) ?_ ?_
        focus
          simp only [List.take_succ_cons, List.take_zero, List.drop_succ_cons, List.drop_zero, putAll, Act.put, List.setIfInBounds_toArray, List.set_cons_succ, List.set_cons_zero, Nat.zero_add, Nat.reduceAdd]
          refine steps_cons ?_ (steps_cons ?_ (steps_cons ?_ (steps_cons ?_ steps_nil)))
          all_goals
            intro v w2 hk hd
            obtain ⟨hA_0, hA_1, hA_2, hA_3, hA_4⟩ := (hA.keep hk).two
            obtain ⟨hR_0, hR_1, hR_2, hR_3, hR_4⟩ := (hR.keep hk).two
            have hkz := hk.size
            simp [DepsOf, factAt, Fx, Region.binds] at hd ⊢
            refine Gives.mk ?_
            go_simp
            first | exact Keep.refl _ | exact ⟨(Keep.refl _).alloc _, _, rfl, Bx.new _ _ _, by first | omega | (simp; omega)⟩ | (exact spec_l01Bit _ g0 g1 _) | (exact spec_l01Less _ _ _ _ _)
        simp only [List.take_succ_cons, List.take_zero, List.drop_succ_cons, List.drop_zero, putAll, Act.put, List.setIfInBounds_toArray, List.set_cons_succ, List.set_cons_zero, Nat.zero_add, Nat.reduceAdd]
        intro v w2 hk hh
        obtain ⟨hA_0, hA_1, hA_2, hA_3, hA_4⟩ := (hA.keep hk).two
        obtain ⟨hR_0, hR_1, hR_2, hR_3, hR_4⟩ := (hR.keep hk).two
        have hkz := hk.size
        simp only [Held, factAt, List.getD_cons_zero, List.getD_cons_succ, Fx, true_and] at hh
        obtain ⟨⟨⟨v_0, v_1⟩, v_2⟩, v_3⟩ := hh
        have zhA := hA.lt
        have zhR := hR.lt
        have zW := hW.size
        go_wp2
        simp only [v_0, v_1, v_2, v_3]
        (apply bodyPost_ret; rotate_left; rfl; exact ⟨rfl, (by ((repeat (first | (with_reducible assumption) | ((with_reducible refine Keep.setCell ?_ ?_ _); rotate_left; focus (first | omega | (simp; done) | (simp; omega))) | (with_reducible refine Keep.alloc ?_ _) | (with_reducible refine Keep.drewN ?_ _) | (with_reducible refine Keep.drew ?_) | (with_reducible exact Keep.refl _) | refine Keep.trans ?_ (by with_reducible assumption) | exact Keep.refl _ | assumption))))⟩; simp [results, Try.results38, go_sem, U_zero, *])
      · simp only [withLo, withHi, h1, h2, cond_true, cond_false]
        go_enter Try.func38, Try.ntmps38
        go_wp2_with (go_at_call 59; refine (spec_l01Asked _ _ _ _).mono ?_; rintro e w1 ⟨rfl, hk⟩; obtain ⟨hkc, hkf⟩ := hk.cells; have hkz0 : w.heap.size < w1.heap.size := (by have := hk.size; (try simp at this); omega); have hkz1 : w.heap.size + 1 < w1.heap.size := (by have := hk.size; (try simp at this); omega))
        refine wp_gen (fun W => Bx W w.heap.size #[.int .u64 (U a), .int .u64 (U b)] 24 ∧ Bx W (w.heap.size + 1) #[.int .u64 0, .int .u64 0] 24 ∧ Keep w W) ⟨((Bx.new _ _ _).alloc _).keep hk, (Bx.new1 _ _ _ _).keep hk, (by ((repeat (first | (with_reducible assumption) | ((with_reducible refine Keep.setCell ?_ ?_ _); rotate_left; focus (first | omega | (simp; done) | (simp; omega))) | (with_reducible refine Keep.alloc ?_ _) | (with_reducible refine Keep.drewN ?_ _) | (with_reducible refine Keep.drew ?_) | (with_reducible exact Keep.refl _) | refine Keep.trans ?_ (by with_reducible assumption) | exact Keep.refl _ | assumption))))⟩ ?_
        clear hkc hkf hkz0 hkz1 hk
        rintro W ⟨hA, hR, hW⟩
        refine wp_region_mono 4 [Fx (.agg #[.int .u64 (U a), .int .u64 (U b)]), Fx (.int .i64 h), Fx (.agg #[.int .u64 (U (bitLo h)), .int .u64 (U (bitHi h))]), Fx (.agg #[.int .u64 (U (a ||| bitLo h)), .int .u64 (U (b ||| bitHi h))])] (by kernel_rfl) (by kernel_rfl) (mono_of ⟨Fx.mono _, Fx.mono _, Fx.mono _, Fx.mono _, trivial⟩) ?_ ?_
        focus
          simp only [List.take_succ_cons, List.take_zero, List.drop_succ_cons, List.drop_zero, putAll, Act.put, List.setIfInBounds_toArray, List.set_cons_succ, List.set_cons_zero, Nat.zero_add, Nat.reduceAdd]
          refine steps_cons ?_ (steps_cons ?_ (steps_cons ?_ (steps_cons ?_ steps_nil)))
          all_goals
            intro v w2 hk hd
            obtain ⟨hA_0, hA_1, hA_2, hA_3, hA_4⟩ := (hA.keep hk).two
            obtain ⟨hR_0, hR_1, hR_2, hR_3, hR_4⟩ := (hR.keep hk).two
            have hkz := hk.size
            simp [DepsOf, factAt, Fx, Region.binds] at hd ⊢
            refine Gives.mk ?_
            go_simp
            first | exact Keep.refl _ | exact ⟨(Keep.refl _).alloc _, _, rfl, Bx.new _ _ _, by first | omega | (simp; omega)⟩ | (exact spec_l01Bit _ g0 g1 _) | (exact spec_l01Join _ _ _ _ _)
        simp only [List.take_succ_cons, List.take_zero, List.drop_succ_cons, List.drop_zero, putAll, Act.put, List.setIfInBounds_toArray, List.set_cons_succ, List.set_cons_zero, Nat.zero_add, Nat.reduceAdd]
        intro v w2 hk hh
        obtain ⟨hA_0, hA_1, hA_2, hA_3, hA_4⟩ := (hA.keep hk).two
        obtain ⟨hR_0, hR_1, hR_2, hR_3, hR_4⟩ := (hR.keep hk).two
        have hkz := hk.size
        simp only [Held, factAt, List.getD_cons_zero, List.getD_cons_succ, Fx, true_and] at hh
        obtain ⟨⟨⟨v_0, v_1⟩, v_2⟩, v_3⟩ := hh
        have zhA := hA.lt
        have zhR := hR.lt
        have zW := hW.size
        go_wp2
        simp only [v_0, v_1, v_2, v_3]
        (apply bodyPost_ret; rotate_left; rfl; exact ⟨rfl, (by ((repeat (first | (with_reducible assumption) | ((with_reducible refine Keep.setCell ?_ ?_ _); rotate_left; focus (first | omega | (simp; done) | (simp; omega))) | (with_reducible refine Keep.alloc ?_ _) | (with_reducible refine Keep.drewN ?_ _) | (with_reducible refine Keep.drew ?_) | (with_reducible exact Keep.refl _) | refine Keep.trans ?_ (by with_reducible assumption) | exact Keep.refl _ | assumption))))⟩; simp [results, Try.results38, go_sem, U_zero, *])
/-- Is a mix valid? -/
def mixB (s z p : Int) : Bool := inB z 4 96 && (inB p 1 8 && (decide (2 * p ≤ z) && inB s 0 (96 - z)))
theorem inB_iff {n lo hi : Int} : inB n lo hi = true ↔ lo ≤ n ∧ n ≤ hi := by unfold inB; simp
theorem inB_not {n lo hi : Int} : inB n lo hi = false ↔ ¬ (lo ≤ n ∧ n ≤ hi) := by rw [← inB_iff]; simp
theorem mixB_iff {s z p : Int} : mixB s z p = true ↔ 4 ≤ z ∧ z ≤ 96 ∧ 1 ≤ p ∧ p ≤ 8 ∧ 2 * p ≤ z ∧ 0 ≤ s ∧ s ≤ 96 - z := by unfold mixB; simp [inB]; omega
theorem mixB_not {s z p : Int} : mixB s z p = false ↔ ¬ (4 ≤ z ∧ z ≤ 96 ∧ 1 ≤ p ∧ p ≤ 8 ∧ 2 * p ≤ z ∧ 0 ≤ s ∧ s ≤ 96 - z) := by rw [← mixB_iff]; simp
theorem half16 {z : Int} (h : 4 ≤ z ∧ z ≤ 96) : IntKind.i16.wrap (z.tdiv 2) = z / 2 := by
  rw [Int.tdiv_eq_ediv_of_nonneg (by omega)]
  simp [IntKind.wrap, IntKind.bits, IntKind.signed]; omega
theorem impl_isMix (s z p : Int) (w : World) (hz : I16 z) (hp : I16 p) (hs : I16 s) :
    Calls Try.prog 70 #[.agg #[.int .i16 s, .int .i16 z, .int .i16 p]] w fun e w' => e = .returned (.bool (mixB s z p)) ∧ Keep w w' := by
  obtain ⟨hz1, hz2⟩ := hz
  obtain ⟨hp1, hp2⟩ := hp
  obtain ⟨hs1, hs2⟩ := hs
  by_cases hr : 4 ≤ z ∧ z ≤ 96
  · have e := half16 hr
    obtain ⟨r1, r2⟩ := hr
    cases hm : mixB s z p
    all_goals
      have hm2 := hm
      first | rw [mixB_iff] at hm2 | rw [mixB_not] at hm2
      go_enter Try.func70, Try.ntmps70
      go_wp2
      all_goals (go_ret; exact ⟨rb (by first | rfl | (simp; done) | (simp; omega) | omega | (exfalso; omega)), (by ((repeat (first | (with_reducible assumption) | ((with_reducible refine Keep.setCell ?_ ?_ _); rotate_left; focus (first | omega | (simp; done) | (simp; omega))) | (with_reducible refine Keep.alloc ?_ _) | (with_reducible refine Keep.drewN ?_ _) | (with_reducible refine Keep.drew ?_) | (with_reducible exact Keep.refl _) | refine Keep.trans ?_ (by with_reducible assumption) | exact Keep.refl _ | assumption))))⟩)
  · have hm : mixB s z p = false := mixB_not.2 (by omega)
    rw [hm]
    go_enter Try.func70, Try.ntmps70
    go_wp2
    all_goals (first | (exfalso; omega) | (go_ret; exact ⟨rfl, (by ((repeat (first | (with_reducible assumption) | ((with_reducible refine Keep.setCell ?_ ?_ _); rotate_left; focus (first | omega | (simp; done) | (simp; omega))) | (with_reducible refine Keep.alloc ?_ _) | (with_reducible refine Keep.drewN ?_ _) | (with_reducible refine Keep.drew ?_) | (with_reducible exact Keep.refl _) | refine Keep.trans ?_ (by with_reducible assumption) | exact Keep.refl _ | assumption))))⟩))
theorem spec_l03Ok (s z p : Int) (g o : Nat) (w : World) (hz : I16 z) (hp : I16 p) (hs : I16 s)
    (c0 : w.cell? ⟨g, o, none⟩ = some (.int .i16 s)) (c1 : w.cell? ⟨g, o + 1, none⟩ = some (.int .i16 z)) (c2 : w.cell? ⟨g, o + 2, none⟩ = some (.int .i16 p)) :
    Calls Try.prog 68 #[.pointer (some ⟨g, o, none⟩)] w fun e w' => e = .returned (.bool (mixB s z p)) ∧ Keep w w' := by
  obtain ⟨hz1, hz2⟩ := hz
  obtain ⟨hp1, hp2⟩ := hp
  obtain ⟨hs1, hs2⟩ := hs
  have ez : IntKind.i64.wrap z = z := wrapI64 ⟨by omega, by omega⟩
  have ep : IntKind.i64.wrap p = p := wrapI64 ⟨by omega, by omega⟩
  have es : IntKind.i64.wrap s = s := wrapI64 ⟨by omega, by omega⟩
  have e3 : IntKind.i64.wrap (96 - z) = 96 - z := wrapI64 ⟨by omega, by omega⟩
  cases h1 : inB z 4 96
  · go_enter Try.func68, Try.ntmps68
    go_wp2_with fail
    refine wp_region_keep (by kernel_rfl) (by kernel_rfl) ?_
    repeat
      first
        | (apply QuietL.run
           focus go_simp
           focus
             intro w2 hk
             have c0' := hk.cell c0
             have c1' := hk.cell c1
             have c2' := hk.cell c2
             apply QAt.mk
             go_simp
             first
               | done
               | exact rfl
               | (go_at_call 84; exact quiet_call hk (spec_l00In _ _ _ _))
           simp only [Act.put, List.setIfInBounds_toArray, List.set_cons_succ, List.set_cons_zero])
        | (apply QuietL.skip
           focus go_simp
           simp only [Act.put, List.setIfInBounds_toArray, List.set_cons_succ, List.set_cons_zero])
    apply QuietL.nil
    intro w2 hk
    have c0' := hk.cell c0
    have c1' := hk.cell c1
    have c2' := hk.cell c2
    go_wp2
    go_ret; exact ⟨rb (by simp [mixB, h1]), (by ((repeat (first | (with_reducible assumption) | ((with_reducible refine Keep.setCell ?_ ?_ _); rotate_left; focus (first | omega | (simp; done) | (simp; omega))) | (with_reducible refine Keep.alloc ?_ _) | (with_reducible refine Keep.drewN ?_ _) | (with_reducible refine Keep.drew ?_) | (with_reducible exact Keep.refl _) | refine Keep.trans ?_ (by with_reducible assumption) | exact Keep.refl _ | assumption))))⟩
  · obtain ⟨r1, r2⟩ := inB_iff.1 h1
    cases h2 : inB p 1 8
    · go_enter Try.func68, Try.ntmps68
      go_wp2_with fail
      refine wp_region_keep (by kernel_rfl) (by kernel_rfl) ?_
      repeat
        first
          | (apply QuietL.run
             focus go_simp
             focus
               intro w2 hk
               have c0' := hk.cell c0
               have c1' := hk.cell c1
               have c2' := hk.cell c2
               apply QAt.mk
               go_simp
               first
                 | done
                 | exact rfl
                 | (go_at_call 84; exact quiet_call hk (spec_l00In _ _ _ _))
             simp only [Act.put, List.setIfInBounds_toArray, List.set_cons_succ, List.set_cons_zero])
          | (apply QuietL.skip
             focus go_simp
             simp only [Act.put, List.setIfInBounds_toArray, List.set_cons_succ, List.set_cons_zero])
      apply QuietL.nil
      intro w2 hk
      have c0' := hk.cell c0
      have c1' := hk.cell c1
      have c2' := hk.cell c2
      go_wp2
      go_ret; exact ⟨rb (by simp [mixB, h1, h2]), (by ((repeat (first | (with_reducible assumption) | ((with_reducible refine Keep.setCell ?_ ?_ _); rotate_left; focus (first | omega | (simp; done) | (simp; omega))) | (with_reducible refine Keep.alloc ?_ _) | (with_reducible refine Keep.drewN ?_ _) | (with_reducible refine Keep.drew ?_) | (with_reducible exact Keep.refl _) | refine Keep.trans ?_ (by with_reducible assumption) | exact Keep.refl _ | assumption))))⟩
    · obtain ⟨q1, q2⟩ := inB_iff.1 h2
      have e4 : IntKind.i16.wrap (2 * p) = 2 * p := wrapI16 ⟨by omega, by omega⟩
      by_cases h3 : 2 * p ≤ z
      · have h3' : decide (2 * p ≤ z) = true := by simpa using h3
        cases h4 : inB s 0 (96 - z)
        all_goals
          go_enter Try.func68, Try.ntmps68
          go_wp2_with fail
          refine wp_region_keep (by kernel_rfl) (by kernel_rfl) ?_
          repeat
            first
              | (apply QuietL.run
                 focus go_simp
                 focus
                   intro w2 hk
                   have c0' := hk.cell c0
                   have c1' := hk.cell c1
                   have c2' := hk.cell c2
                   apply QAt.mk
                   go_simp
                   first
                     | done
                     | exact rfl
                     | (go_at_call 84; exact quiet_call hk (spec_l00In _ _ _ _))
                 simp only [Act.put, List.setIfInBounds_toArray, List.set_cons_succ, List.set_cons_zero])
              | (apply QuietL.skip
                 focus go_simp
                 simp only [Act.put, List.setIfInBounds_toArray, List.set_cons_succ, List.set_cons_zero])
          apply QuietL.nil
          intro w2 hk
          have c0' := hk.cell c0
          have c1' := hk.cell c1
          have c2' := hk.cell c2
          go_wp2
          go_ret; exact ⟨rb (by simp [mixB, h1, h2, h3, h4]), (by ((repeat (first | (with_reducible assumption) | ((with_reducible refine Keep.setCell ?_ ?_ _); rotate_left; focus (first | omega | (simp; done) | (simp; omega))) | (with_reducible refine Keep.alloc ?_ _) | (with_reducible refine Keep.drewN ?_ _) | (with_reducible refine Keep.drew ?_) | (with_reducible exact Keep.refl _) | refine Keep.trans ?_ (by with_reducible assumption) | exact Keep.refl _ | assumption))))⟩
      · have h3' : decide (2 * p ≤ z) = false := by simpa using h3
        go_enter Try.func68, Try.ntmps68
        go_wp2_with fail
        refine wp_region_keep (by kernel_rfl) (by kernel_rfl) ?_
        repeat
          first
            | (apply QuietL.run
               focus go_simp
               focus
                 intro w2 hk
                 have c0' := hk.cell c0
                 have c1' := hk.cell c1
                 have c2' := hk.cell c2
                 apply QAt.mk
                 go_simp
                 first
                   | done
                   | exact rfl
                   | (go_at_call 84; exact quiet_call hk (spec_l00In _ _ _ _))
               simp only [Act.put, List.setIfInBounds_toArray, List.set_cons_succ, List.set_cons_zero])
            | (apply QuietL.skip
               focus go_simp
               simp only [Act.put, List.setIfInBounds_toArray, List.set_cons_succ, List.set_cons_zero])
        apply QuietL.nil
        intro w2 hk
        have c0' := hk.cell c0
        have c1' := hk.cell c1
        have c2' := hk.cell c2
        go_wp2
        go_ret; exact ⟨rb (by simp [mixB, h1, h2]; omega), (by ((repeat (first | (with_reducible assumption) | ((with_reducible refine Keep.setCell ?_ ?_ _); rotate_left; focus (first | omega | (simp; done) | (simp; omega))) | (with_reducible refine Keep.alloc ?_ _) | (with_reducible refine Keep.drewN ?_ _) | (with_reducible refine Keep.drew ?_) | (with_reducible exact Keep.refl _) | refine Keep.trans ?_ (by with_reducible assumption) | exact Keep.refl _ | assumption))))⟩
end Go.Proofs.Ytjgaacoikhonoaa

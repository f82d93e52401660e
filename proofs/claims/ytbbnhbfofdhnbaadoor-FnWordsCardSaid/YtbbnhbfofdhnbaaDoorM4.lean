/- The reference's WithHole; the fields of a mix. -/
import Derived.Test.YtbbnhbfofdhnbaaDoorM3
set_option linter.unusedVariables false
set_option linter.unusedSimpArgs false
namespace Go.Proofs.YtbbnhbfofdhnbaaDoor
open Go.RowKit
set_option maxHeartbeats 1000000
/-- Is a mix valid? -/
def mixB (s z p : Int) : Bool := inB z 4 96 && (inB p 1 8 && (decide (2 * p ≤ z) && inB s 0 (96 - z)))
theorem inB_iff {n lo hi : Int} : inB n lo hi = true ↔ lo ≤ n ∧ n ≤ hi := by unfold inB; simp
theorem inB_not {n lo hi : Int} : inB n lo hi = false ↔ ¬ (lo ≤ n ∧ n ≤ hi) := by rw [← inB_iff]; simp
theorem mixB_iff {s z p : Int} : mixB s z p = true ↔ 4 ≤ z ∧ z ≤ 96 ∧ 1 ≤ p ∧ p ≤ 8 ∧ 2 * p ≤ z ∧ 0 ≤ s ∧ s ≤ 96 - z := by unfold mixB; simp [inB]; omega
theorem mixB_not {s z p : Int} : mixB s z p = false ↔ ¬ (4 ≤ z ∧ z ≤ 96 ∧ 1 ≤ p ∧ p ≤ 8 ∧ 2 * p ≤ z ∧ 0 ≤ s ∧ s ≤ 96 - z) := by rw [← mixB_iff]; simp
theorem half16 {z : Int} (h : 4 ≤ z ∧ z ≤ 96) : IntKind.i16.wrap (z.tdiv 2) = z / 2 := by
  rw [Int.tdiv_eq_ediv_of_nonneg (by omega)]
  simp [IntKind.wrap, IntKind.bits, IntKind.signed]; omega
theorem impl_isMix (s z p : Int) (w : World) (hz : I16 z) (hp : I16 p) (hs : I16 s) :
    Calls Tryd.prog 54 #[.agg #[.int .i16 s, .int .i16 z, .int .i16 p]] w fun e w' => e = .returned (.bool (mixB s z p)) ∧ Keep w w' := by
  obtain ⟨hz1, hz2⟩ := hz
  obtain ⟨hp1, hp2⟩ := hp
  obtain ⟨hs1, hs2⟩ := hs
  by_cases hr : 4 ≤ z ∧ z ≤ 96
  · have e := half16 hr
    obtain ⟨r1, r2⟩ := hr
    cases hm : mixB s z p
    all_goals
      have hm2 := hm
      first | rw [mixB_iff] at hm2 | rw [mixB_not] at hm2
      go_enter Tryd.func54, Tryd.ntmps54
      go_wp2
      all_goals (go_ret; exact ⟨rb (by first | rfl | (simp; done) | (simp; omega) | omega | (exfalso; omega)), (by ((repeat (first | (with_reducible assumption) | ((with_reducible refine Keep.setCell ?_ ?_ _); rotate_left; focus (first | omega | (simp; done) | (simp; omega))) | (with_reducible refine Keep.alloc ?_ _) | (with_reducible refine Keep.drewN ?_ _) | (with_reducible refine Keep.drew ?_) | (with_reducible exact Keep.refl _) | refine Keep.trans ?_ (by with_reducible assumption) | exact Keep.refl _ | assumption))))⟩)
  · have hm : mixB s z p = false := mixB_not.2 (by omega)
    rw [hm]
    go_enter Tryd.func54, Tryd.ntmps54
    go_wp2
    all_goals (first | (exfalso; omega) | (go_ret; exact ⟨rfl, (by ((repeat (first | (with_reducible assumption) | ((with_reducible refine Keep.setCell ?_ ?_ _); rotate_left; focus (first | omega | (simp; done) | (simp; omega))) | (with_reducible refine Keep.alloc ?_ _) | (with_reducible refine Keep.drewN ?_ _) | (with_reducible refine Keep.drew ?_) | (with_reducible exact Keep.refl _) | refine Keep.trans ?_ (by with_reducible assumption) | exact Keep.refl _ | assumption))))⟩))
theorem spec_l03Ok (s z p : Int) (g o : Nat) (w : World) (hz : I16 z) (hp : I16 p) (hs : I16 s)
    (c0 : w.cell? ⟨g, o, none⟩ = some (.int .i16 s)) (c1 : w.cell? ⟨g, o + 1, none⟩ = some (.int .i16 z)) (c2 : w.cell? ⟨g, o + 2, none⟩ = some (.int .i16 p)) :
    Calls Tryd.prog 84 #[.pointer (some ⟨g, o, none⟩)] w fun e w' => e = .returned (.bool (mixB s z p)) ∧ Keep w w' := by
  obtain ⟨hz1, hz2⟩ := hz
  obtain ⟨hp1, hp2⟩ := hp
  obtain ⟨hs1, hs2⟩ := hs
  have ez : IntKind.i64.wrap z = z := wrapI64 ⟨by omega, by omega⟩
  have ep : IntKind.i64.wrap p = p := wrapI64 ⟨by omega, by omega⟩
  have es : IntKind.i64.wrap s = s := wrapI64 ⟨by omega, by omega⟩
  have e3 : IntKind.i64.wrap (96 - z) = 96 - z := wrapI64 ⟨by omega, by omega⟩
  cases h1 : inB z 4 96
  · go_enter Tryd.func84, Tryd.ntmps84
    go_wp2_with fail
    refine wp_region_keep (by kernel_rfl) (by kernel_rfl) ?_
    repeat
      first
        | (apply QuietL.run
           focus go_simp
           focus
             intro w2 hk
             have c0' := hk.cell c0
             have c1' := hk.cell c1
             have c2' := hk.cell c2
             apply QAt.mk
             go_simp
             first
               | done
               | exact rfl
               | (go_at_call 98; exact quiet_call hk (spec_l00In _ _ _ _))
           simp only [Act.put, List.setIfInBounds_toArray, List.set_cons_succ, List.set_cons_zero])
        | (apply QuietL.skip
           focus go_simp
           simp only [Act.put, List.setIfInBounds_toArray, List.set_cons_succ, List.set_cons_zero])
    apply QuietL.nil
    intro w2 hk
    have c0' := hk.cell c0
    have c1' := hk.cell c1
    have c2' := hk.cell c2
    go_wp2
    go_ret; exact ⟨rb (by simp [mixB, h1]), (by ((repeat (first | (with_reducible assumption) | ((with_reducible refine Keep.setCell ?_ ?_ _); rotate_left; focus (first | omega | (simp; done) | (simp; omega))) | (with_reducible refine Keep.alloc ?_ _) | (with_reducible refine Keep.drewN ?_ _) | (with_reducible refine Keep.drew ?_) | (with_reducible exact Keep.refl _) | refine Keep.trans ?_ (by with_reducible assumption) | exact Keep.refl _ | assumption))))⟩
  · obtain ⟨r1, r2⟩ := inB_iff.1 h1
    cases h2 : inB p 1 8
    · go_enter Tryd.func84, Tryd.ntmps84
      go_wp2_with fail
      refine wp_region_keep (by kernel_rfl) (by kernel_rfl) ?_
      repeat
        first
          | (apply QuietL.run
             focus go_simp
             focus
               intro w2 hk
               have c0' := hk.cell c0
               have c1' := hk.cell c1
               have c2' := hk.cell c2
               apply QAt.mk
               go_simp
               first
                 | done
                 | exact rfl
                 | (go_at_call 98; exact quiet_call hk (spec_l00In _ _ _ _))
             simp only [Act.put, List.setIfInBounds_toArray, List.set_cons_succ, List.set_cons_zero])
          | (apply QuietL.skip
             focus go_simp
             simp only [Act.put, List.setIfInBounds_toArray, List.set_cons_succ, List.set_cons_zero])
      apply QuietL.nil
      intro w2 hk
      have c0' := hk.cell c0
      have c1' := hk.cell c1
      have c2' := hk.cell c2
      go_wp2
      go_ret; exact ⟨rb (by simp [mixB, h1, h2]), (by ((repeat (first | (with_reducible assumption) | ((with_reducible refine Keep.setCell ?_ ?_ _); rotate_left; focus (first | omega | (simp; done) | (simp; omega))) | (with_reducible refine Keep.alloc ?_ _) | (with_reducible refine Keep.drewN ?_ _) | (with_reducible refine Keep.drew ?_) | (with_reducible exact Keep.refl _) | refine Keep.trans ?_ (by with_reducible assumption) | exact Keep.refl _ | assumption))))⟩
    · obtain ⟨q1, q2⟩ := inB_iff.1 h2
      have e4 : IntKind.i16.wrap (2 * p) = 2 * p := wrapI16 ⟨by omega, by omega⟩
      by_cases h3 : 2 * p ≤ z
      · have h3' : decide (2 * p ≤ z) = true := by simpa using h3
        cases h4 : inB s 0 (96 - z)
        all_goals
          go_enter Tryd.func84, Tryd.ntmps84
          go_wp2_with fail
          refine wp_region_keep (by kernel_rfl) (by kernel_rfl) ?_
          repeat
            first
              | (apply QuietL.run
                 focus go_simp
                 focus
                   intro w2 hk
                   have c0' := hk.cell c0
                   have c1' := hk.cell c1
                   have c2' := hk.cell c2
                   apply QAt.mk
                   go_simp
                   first
                     | done
                     | exact rfl
                     | (go_at_call 98; exact quiet_call hk (spec_l00In _ _ _ _))
                 simp only [Act.put, List.setIfInBounds_toArray, List.set_cons_succ, List.set_cons_zero])
              | (apply QuietL.skip
                 focus go_simp
                 simp only [Act.put, List.setIfInBounds_toArray, List.set_cons_succ, List.set_cons_zero])
          apply QuietL.nil
          intro w2 hk
          have c0' := hk.cell c0
          have c1' := hk.cell c1
          have c2' := hk.cell c2
          go_wp2
          go_ret; exact ⟨rb (by simp [mixB, h1, h2, h3, h4]), (by ((repeat (first | (with_reducible assumption) | ((with_reducible refine Keep.setCell ?_ ?_ _); rotate_left; focus (first | omega | (simp; done) | (simp; omega))) | (with_reducible refine Keep.alloc ?_ _) | (with_reducible refine Keep.drewN ?_ _) | (with_reducible refine Keep.drew ?_) | (with_reducible exact Keep.refl _) | refine Keep.trans ?_ (by with_reducible assumption) | exact Keep.refl _ | assumption))))⟩
      · have h3' : decide (2 * p ≤ z) = false := by simpa using h3
        go_enter Tryd.func84, Tryd.ntmps84
        go_wp2_with fail
        refine wp_region_keep (by kernel_rfl) (by kernel_rfl) ?_
        repeat
          first
            | (apply QuietL.run
               focus go_simp
               focus
                 intro w2 hk
                 have c0' := hk.cell c0
                 have c1' := hk.cell c1
                 have c2' := hk.cell c2
                 apply QAt.mk
                 go_simp
                 first
                   | done
                   | exact rfl
                   | (go_at_call 98; exact quiet_call hk (spec_l00In _ _ _ _))
               simp only [Act.put, List.setIfInBounds_toArray, List.set_cons_succ, List.set_cons_zero])
            | (apply QuietL.skip
               focus go_simp
               simp only [Act.put, List.setIfInBounds_toArray, List.set_cons_succ, List.set_cons_zero])
        apply QuietL.nil
        intro w2 hk
        have c0' := hk.cell c0
        have c1' := hk.cell c1
        have c2' := hk.cell c2
        go_wp2
        go_ret; exact ⟨rb (by simp [mixB, h1, h2]; omega), (by ((repeat (first | (with_reducible assumption) | ((with_reducible refine Keep.setCell ?_ ?_ _); rotate_left; focus (first | omega | (simp; done) | (simp; omega))) | (with_reducible refine Keep.alloc ?_ _) | (with_reducible refine Keep.drewN ?_ _) | (with_reducible refine Keep.drew ?_) | (with_reducible exact Keep.refl _) | refine Keep.trans ?_ (by with_reducible assumption) | exact Keep.refl _ | assumption))))⟩
end Go.Proofs.YtbbnhbfofdhnbaaDoor

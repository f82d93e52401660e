/- Valid fields. -/
import Derived.Test.YtpmilcfppcmodaaDoorN2
set_option linter.unusedVariables false
set_option linter.unusedSimpArgs false
namespace Go.Proofs.YtpmilcfppcmodaaDoor
open Go.RowKit
set_option maxHeartbeats 10000000
theorem impl_isField (s : ByteArray) (k st sz : Int) (w : World) (hs : s.size ≤ 9223372036854775807) (hk : I8 k) (ht : I16 st) (hz : I16 sz) :
    Calls Tryd.prog 112 #[.agg #[.string s, .int .i8 k, .int .i16 st, .int .i16 sz]] w fun e w' => e = .returned (.bool (fieldB s k st sz)) ∧ Keep w w' := by
  cases h1 : nameB s
  · go_enter Tryd.func112, Tryd.ntmps112
    (go_wp2_with fail); (go_at_call 147); (refine (impl_isName _ _ hs).mono ?_); rintro e w1 ⟨rfl, hk1⟩
    rw [h1]
    obtain ⟨hk1c, hk1f⟩ := hk1.cells; have hk1z0 : w.heap.size < w1.heap.size := (by have := hk1.size; (try simp at this); omega)
    go_wp2
    go_ret; exact ⟨rb (by simp [fieldB, h1]), (by ((repeat (first | (with_reducible assumption) | ((with_reducible refine Keep.setCell ?_ ?_ _); rotate_left; focus (first | omega | (simp; done) | (simp; omega))) | (with_reducible refine Keep.alloc ?_ _) | (with_reducible refine Keep.drewN ?_ _) | (with_reducible refine Keep.drew ?_) | (with_reducible exact Keep.refl _) | refine Keep.trans ?_ (by with_reducible assumption) | exact Keep.refl _ | assumption))))⟩
  · by_cases hr : 0 ≤ k ∧ k ≤ 3 ∧ 0 ≤ st ∧ 1 ≤ sz
    · obtain ⟨r1, r2, r3, r4⟩ := hr
      have hz0 := hz
      have hw1 : -1000 ≤ widthN k sz ∧ widthN k sz ≤ 1000000 := by obtain ⟨z1, z2⟩ := hz; unfold widthN; split <;> (try split) <;> (try split) <;> omega
      have e1 : IntKind.i64.wrap st = st := wrapI64 ⟨by obtain ⟨t1, t2⟩ := ht; omega, by obtain ⟨t1, t2⟩ := ht; omega⟩
      have e2 : IntKind.i64.wrap (st + widthN k sz) = st + widthN k sz := wrapI64 ⟨by omega, by obtain ⟨t1, t2⟩ := ht; omega⟩
      have e3 : IntKind.i64.wrap k = k := wrapI64 ⟨by omega, by omega⟩
      by_cases hm : sz ≤ mostW k
      · have hf : fieldB s k st sz = decide (st + widthN k sz ≤ 96) := by
          unfold fieldB inB
          simp only [h1, Bool.true_and]
          have a1 : decide (1 ≤ sz) = true := by simpa using r4
          have a2 : decide (sz ≤ mostW k) = true := by simpa using hm
          have a3 : decide (0 ≤ st) = true := by simpa using r3
          rw [a1, a2, a3]
          simp only [Bool.true_and]
          have : (st ≤ 96 - widthN k sz) = (st + widthN k sz ≤ 96) := by apply propext; omega
          simp only [this]
        rw [hf]
        generalize hwn : widthN k sz = wd at *
        obtain rfl | rfl | rfl | rfl : k = 0 ∨ k = 1 ∨ k = 2 ∨ k = 3 := by omega
        all_goals
          simp [mostW] at hm
          go_enter Tryd.func112, Tryd.ntmps112
          (go_wp2_with fail); (go_at_call 147); (refine (impl_isName _ _ hs).mono ?_); rintro e w1 ⟨rfl, hk1⟩
          rw [h1]
          have hA1 := (Bx.new w #[.string s, .int .i8 _, .int .i16 st, .int .i16 sz] 89).keep hk1
          obtain ⟨hk1c, hk1f⟩ := hk1.cells; have hk1z0 : w.heap.size < w1.heap.size := (by have := hk1.size; (try simp at this); omega)
          go_wp2_with fail
          refine wp_gen (fun W => Bx W w.heap.size #[.string s, .int .i8 _, .int .i16 st, .int .i16 sz] 89 ∧ Bx W w1.heap.size #[.int .i16 24, .int .i16 4, .int .i16 4, .int .i16 12] 166 ∧ Keep w W) ⟨hA1.alloc _, Bx.new _ _ _, (by ((repeat (first | (with_reducible assumption) | ((with_reducible refine Keep.setCell ?_ ?_ _); rotate_left; focus (first | omega | (simp; done) | (simp; omega))) | (with_reducible refine Keep.alloc ?_ _) | (with_reducible refine Keep.drewN ?_ _) | (with_reducible refine Keep.drew ?_) | (with_reducible exact Keep.refl _) | refine Keep.trans ?_ (by with_reducible assumption) | exact Keep.refl _ | assumption))))⟩ ?_
          clear hk1c hk1f hk1z0 hA1
          rintro W ⟨hA, hM, hW⟩
          refine wp_region_keep (by kernel_rfl) (by kernel_rfl) ?_
          repeat
            first
              | (apply QuietL.run
                 focus go_simp
                 focus
                   intro w2 hk
                   obtain ⟨hA_0, hA_1, hA_2, hA_3, hA_4, hA_5, hA_6, hA_7, hA_8⟩ := (hA.keep hk).four
                   obtain ⟨hM_0, hM_1, hM_2, hM_3, hM_4, hM_5, hM_6, hM_7, hM_8⟩ := (hM.keep hk).four
                   apply QAt.mk
                   go_simp
                   first
                     | done
                     | exact rfl
                     | (go_at_call 142; exact quiet_call hk ((hwn ▸ impl_many s _ st sz _ hz0)))
                 simp only [Act.put, List.setIfInBounds_toArray, List.set_cons_succ, List.set_cons_zero])
              | (apply QuietL.skip
                 focus go_simp
                 simp only [Act.put, List.setIfInBounds_toArray, List.set_cons_succ, List.set_cons_zero])
          apply QuietL.nil
          intro w2 hk
          have hA := hA.keep hk
          obtain ⟨hA_0, hA_1, hA_2, hA_3, hA_4, hA_5, hA_6, hA_7, hA_8⟩ := hA.four
          have hM := hM.keep hk
          obtain ⟨hM_0, hM_1, hM_2, hM_3, hM_4, hM_5, hM_6, hM_7, hM_8⟩ := hM.four
          go_wp2
          go_ret; exact ⟨rfl, (by ((repeat (first | (with_reducible assumption) | ((with_reducible refine Keep.setCell ?_ ?_ _); rotate_left; focus (first | omega | (simp; done) | (simp; omega))) | (with_reducible refine Keep.alloc ?_ _) | (with_reducible refine Keep.drewN ?_ _) | (with_reducible refine Keep.drew ?_) | (with_reducible exact Keep.refl _) | refine Keep.trans ?_ (by with_reducible assumption) | exact Keep.refl _ | assumption))))⟩
      · have hf : fieldB s k st sz = false := by
          unfold fieldB inB
          have a2 : decide (sz ≤ mostW k) = false := by simpa using hm
          rw [a2]; simp
        rw [hf]
        have hm2 : mostW k < sz := by omega
        clear hm hw1 e2
        obtain rfl | rfl | rfl | rfl : k = 0 ∨ k = 1 ∨ k = 2 ∨ k = 3 := by omega
        all_goals
          simp [mostW] at hm2
          go_enter Tryd.func112, Tryd.ntmps112
          (go_wp2_with fail); (go_at_call 147); (refine (impl_isName _ _ hs).mono ?_); rintro e w1 ⟨rfl, hk1⟩
          rw [h1]
          have hA1 := (Bx.new w #[.string s, .int .i8 _, .int .i16 st, .int .i16 sz] 89).keep hk1
          obtain ⟨hk1c, hk1f⟩ := hk1.cells; have hk1z0 : w.heap.size < w1.heap.size := (by have := hk1.size; (try simp at this); omega)
          go_wp2_with fail
          refine wp_gen (fun W => Bx W w.heap.size #[.string s, .int .i8 _, .int .i16 st, .int .i16 sz] 89 ∧ Bx W w1.heap.size #[.int .i16 24, .int .i16 4, .int .i16 4, .int .i16 12] 166 ∧ Keep w W) ⟨hA1.alloc _, Bx.new _ _ _, (by ((repeat (first | (with_reducible assumption) | ((with_reducible refine Keep.setCell ?_ ?_ _); rotate_left; focus (first | omega | (simp; done) | (simp; omega))) | (with_reducible refine Keep.alloc ?_ _) | (with_reducible refine Keep.drewN ?_ _) | (with_reducible refine Keep.drew ?_) | (with_reducible exact Keep.refl _) | refine Keep.trans ?_ (by with_reducible assumption) | exact Keep.refl _ | assumption))))⟩ ?_
          clear hk1c hk1f hk1z0 hA1
          rintro W ⟨hA, hM, hW⟩
          refine wp_region_keep (by kernel_rfl) (by kernel_rfl) ?_
          repeat
            first
              | (apply QuietL.run
                 focus go_simp
                 focus
                   intro w2 hk
                   obtain ⟨hA_0, hA_1, hA_2, hA_3, hA_4, hA_5, hA_6, hA_7, hA_8⟩ := (hA.keep hk).four
                   obtain ⟨hM_0, hM_1, hM_2, hM_3, hM_4, hM_5, hM_6, hM_7, hM_8⟩ := (hM.keep hk).four
                   apply QAt.mk
                   go_simp
                   first
                     | done
                     | exact rfl
                     | (go_at_call 142; exact quiet_call hk (impl_many s _ st sz _ hz0))
                 simp only [Act.put, List.setIfInBounds_toArray, List.set_cons_succ, List.set_cons_zero])
              | (apply QuietL.skip
                 focus go_simp
                 simp only [Act.put, List.setIfInBounds_toArray, List.set_cons_succ, List.set_cons_zero])
          apply QuietL.nil
          intro w2 hk
          have hA := hA.keep hk
          obtain ⟨hA_0, hA_1, hA_2, hA_3, hA_4, hA_5, hA_6, hA_7, hA_8⟩ := hA.four
          have hM := hM.keep hk
          obtain ⟨hM_0, hM_1, hM_2, hM_3, hM_4, hM_5, hM_6, hM_7, hM_8⟩ := hM.four
          go_wp2
          go_ret; exact ⟨rfl, (by ((repeat (first | (with_reducible assumption) | ((with_reducible refine Keep.setCell ?_ ?_ _); rotate_left; focus (first | omega | (simp; done) | (simp; omega))) | (with_reducible refine Keep.alloc ?_ _) | (with_reducible refine Keep.drewN ?_ _) | (with_reducible refine Keep.drew ?_) | (with_reducible exact Keep.refl _) | refine Keep.trans ?_ (by with_reducible assumption) | exact Keep.refl _ | assumption))))⟩
    · have e : fieldB s k st sz = false := by
        unfold fieldB inB mostW
        simp only [h1, Bool.true_and]
        simp
        intro h2 h3 h4
        split at h3 <;> omega
      rw [e]
      go_enter Tryd.func112, Tryd.ntmps112
      (go_wp2_with fail); (go_at_call 147); (refine (impl_isName _ _ hs).mono ?_); rintro e w1 ⟨rfl, hk1⟩
      rw [h1]
      obtain ⟨hk1c, hk1f⟩ := hk1.cells; have hk1z0 : w.heap.size < w1.heap.size := (by have := hk1.size; (try simp at this); omega)
      go_wp2_with fail
      all_goals (first | (exfalso; omega) | (go_ret; exact ⟨rfl, (by ((repeat (first | (with_reducible assumption) | ((with_reducible refine Keep.setCell ?_ ?_ _); rotate_left; focus (first | omega | (simp; done) | (simp; omega))) | (with_reducible refine Keep.alloc ?_ _) | (with_reducible refine Keep.drewN ?_ _) | (with_reducible refine Keep.drew ?_) | (with_reducible exact Keep.refl _) | refine Keep.trans ?_ (by with_reducible assumption) | exact Keep.refl _ | assumption))))⟩))
theorem spec_l01Field (s : ByteArray) (k st sz : Int) (g o : Nat) (w : World) (hs : s.size ≤ 9223372036854775807) (hk : I8 k) (ht : I16 st) (hz : I16 sz)
    (c0 : w.cell? ⟨g, o, none⟩ = some (.string s)) (c1 : w.cell? ⟨g, o + 1, none⟩ = some (.int .i8 k)) (c2 : w.cell? ⟨g, o + 2, none⟩ = some (.int .i16 st)) (c3 : w.cell? ⟨g, o + 3, none⟩ = some (.int .i16 sz)) :
    Calls Tryd.prog 110 #[.pointer (some ⟨g, o, none⟩)] w fun e w' => e = .returned (.bool (fieldB s k st sz)) ∧ Keep w w' := by
  have hz0 := hz
  obtain ⟨z1, z2⟩ := hz
  obtain ⟨t1, t2⟩ := ht
  have hw1 : -1000000 ≤ widthN k sz ∧ widthN k sz ≤ 1000000 := by unfold widthN; split <;> (try split) <;> (try split) <;> omega
  have e0 : IntKind.i64.wrap sz = sz := wrapI64 ⟨by omega, by omega⟩
  have e1 : IntKind.i64.wrap st = st := wrapI64 ⟨by omega, by omega⟩
  have e2 : IntKind.i64.wrap (96 - widthN k sz) = 96 - widthN k sz := wrapI64 ⟨by omega, by omega⟩
  clear hw1
  obtain ⟨M, hM⟩ : ∃ M, M = mostW k := ⟨_, rfl⟩
  have hcase : (k = 0 ∧ M = 24) ∨ (k = 1 ∧ M = 4) ∨ (k = 2 ∧ M = 4) ∨ (k = 3 ∧ M = 12) ∨ ((k ≠ 0 ∧ k ≠ 1 ∧ k ≠ 2 ∧ k ≠ 3) ∧ M = 0) := by
    rw [hM]; unfold mostW; split <;> (try split) <;> (try split) <;> (try split) <;> omega
  have hf : fieldB s k st sz = (nameB s && (inB sz 1 M && inB st 0 (96 - widthN k sz))) := by rw [hM]; rfl
  rw [hf]
  clear hf hM
  generalize hwn : widthN k sz = wd at *
  cases h1 : nameB s
  · rcases hcase with ⟨rfl, rfl⟩ | ⟨rfl, rfl⟩ | ⟨rfl, rfl⟩ | ⟨rfl, rfl⟩ | ⟨⟨n0, n1, n2, n3⟩, rfl⟩
    all_goals
      go_enter Tryd.func110, Tryd.ntmps110
      go_wp2_with fail
      refine wp_region_keep (by kernel_rfl) (by kernel_rfl) ?_
      repeat
        first
          | (apply QuietL.run
             focus go_simp
             focus
               intro w2 hk
               have c0' := hk.cell c0
               have c1' := hk.cell c1
               have c2' := hk.cell c2
               have c3' := hk.cell c3
               apply QAt.mk
               go_simp
               first
                 | done
                 | exact rfl
                 | (go_at_call 145; exact quiet_call hk (spec_l01Name _ _ hs))
                 | (go_at_call 132; exact quiet_call hk (spec_l00In _ _ _ _))
                 | (go_at_call 117; exact quiet_call hk ((hwn ▸ spec_l01Width s _ st sz _ _ _ hz0 c0' c1' c2' c3')))
             simp only [Act.put, List.setIfInBounds_toArray, List.set_cons_succ, List.set_cons_zero])
          | (apply QuietL.skip
             focus go_simp
             simp only [Act.put, List.setIfInBounds_toArray, List.set_cons_succ, List.set_cons_zero])
      apply QuietL.nil
      intro w2 hk
      have c0' := hk.cell c0
      have c1' := hk.cell c1
      have c2' := hk.cell c2
      have c3' := hk.cell c3
      go_wp2
      go_ret; exact ⟨rb (by simp), (by ((repeat (first | (with_reducible assumption) | ((with_reducible refine Keep.setCell ?_ ?_ _); rotate_left; focus (first | omega | (simp; done) | (simp; omega))) | (with_reducible refine Keep.alloc ?_ _) | (with_reducible refine Keep.drewN ?_ _) | (with_reducible refine Keep.drew ?_) | (with_reducible exact Keep.refl _) | refine Keep.trans ?_ (by with_reducible assumption) | exact Keep.refl _ | assumption))))⟩
  · cases h2 : inB sz 1 M
    all_goals
      rcases hcase with ⟨rfl, rfl⟩ | ⟨rfl, rfl⟩ | ⟨rfl, rfl⟩ | ⟨rfl, rfl⟩ | ⟨⟨n0, n1, n2, n3⟩, rfl⟩
      all_goals
        go_enter Tryd.func110, Tryd.ntmps110
        go_wp2_with fail
        refine wp_region_keep (by kernel_rfl) (by kernel_rfl) ?_
        repeat
          first
            | (apply QuietL.run
               focus go_simp
               focus
                 intro w2 hk
                 have c0' := hk.cell c0
                 have c1' := hk.cell c1
                 have c2' := hk.cell c2
                 have c3' := hk.cell c3
                 apply QAt.mk
                 go_simp
                 first
                   | done
                   | exact rfl
                   | (go_at_call 145; exact quiet_call hk (spec_l01Name _ _ hs))
                   | (go_at_call 132; exact quiet_call hk (spec_l00In _ _ _ _))
                   | (go_at_call 117; exact quiet_call hk ((hwn ▸ spec_l01Width s _ st sz _ _ _ hz0 c0' c1' c2' c3')))
               simp only [Act.put, List.setIfInBounds_toArray, List.set_cons_succ, List.set_cons_zero])
            | (apply QuietL.skip
               focus go_simp
               simp only [Act.put, List.setIfInBounds_toArray, List.set_cons_succ, List.set_cons_zero])
        apply QuietL.nil
        intro w2 hk
        have c0' := hk.cell c0
        have c1' := hk.cell c1
        have c2' := hk.cell c2
        have c3' := hk.cell c3
        go_wp2
        go_ret; exact ⟨rb (by simp), (by ((repeat (first | (with_reducible assumption) | ((with_reducible refine Keep.setCell ?_ ?_ _); rotate_left; focus (first | omega | (simp; done) | (simp; omega))) | (with_reducible refine Keep.alloc ?_ _) | (with_reducible refine Keep.drewN ?_ _) | (with_reducible refine Keep.drew ?_) | (with_reducible exact Keep.refl _) | refine Keep.trans ?_ (by with_reducible assumption) | exact Keep.refl _ | assumption))))⟩
end Go.Proofs.YtpmilcfppcmodaaDoor

/- The laws of keys and of the holes that sort. -/
import Derived.Test.YtbgegnbcjklmjaaDoorW9
import Derived.Test.YtbgegnbcjklmjaaDoorK6
set_option linter.unusedVariables false
set_option linter.unusedSimpArgs false
namespace Go.Proofs.YtbgegnbcjklmjaaDoor
open Go.RowKit
set_option maxHeartbeats 4000000
set_option maxRecDepth 20000
theorem laws_FnExactKeyOf (s : ByteArray) (k st sz : Int) (a b : Wd) (w : World) (hw : FieldW s k st sz) :
    Calls Tryd.prog 10 #[.agg #[.string s, .int .i8 k, .int .i16 st, .int .i16 sz], .agg #[.int .u64 (U a), .int .u64 (U b)]] w fun e w' => e = .returned (.bool true) ∧ Keep w w' := by
  by_cases hn : s.size ≤ 1048576
  · have e1 := szN_le (left := 1048576) (n := s.size) (by omega)
    go_enter Tryd.func10, Tryd.ntmps10
    (go_wp2_with fail); (go_at_call 19); (refine (laws_szField _ _ _ _ 1048576 _ (by decide) hw.1).mono ?_); rintro e w1 ⟨rfl, hk1⟩
    rw [e1]
    go_wp2_with fail
    refine wp_gen (fun W => Bx W w.heap.size #[.string s, .int .i8 k, .int .i16 st, .int .i16 sz] 36 ∧ Bx W (w.heap.size + 1) #[.int .u64 (U a), .int .u64 (U b)] 23 ∧ Keep w W) ⟨((Bx.new _ _ _).alloc _).keep hk1, (Bx.new1 _ _ _ _).keep hk1, (by ((repeat (first | (with_reducible assumption) | ((with_reducible refine Keep.setCell ?_ ?_ _); rotate_left; focus (first | omega | (simp; done) | (simp; omega))) | (with_reducible refine Keep.alloc ?_ _) | (with_reducible refine Keep.drewN ?_ _) | (with_reducible refine Keep.drew ?_) | (with_reducible exact Keep.refl _) | refine Keep.trans ?_ (by with_reducible assumption) | exact Keep.refl _ | assumption))))⟩ ?_
    clear hk1
    rintro W ⟨hA, hB, hW⟩
    refine wp_region_keep (by kernel_rfl) (by kernel_rfl) ?_
    repeat
      first
        | (apply QuietL.run
           focus go_simp
           focus
             intro w2 hk
             obtain ⟨hA_0, hA_1, hA_2, hA_3, hA_4, hA_5, hA_6, hA_7, hA_8⟩ := (hA.keep hk).four
             obtain ⟨hB_0, hB_1, hB_2, hB_3, hB_4⟩ := (hB.keep hk).two
             apply QAt.mk
             go_simp
             first
               | done
               | exact rfl
               | (go_at_call 21; exact quiet_call hk (laws_toField _ _ _ _ _))
               | (go_at_call 39; exact quiet_call hk (laws_toMask _ _ _))
               | (go_at_call 38; exact quiet_call hk (spec_KeyOf _ _ _ _ _ _ _ hw))
           simp only [Act.put, List.setIfInBounds_toArray, List.set_cons_succ, List.set_cons_zero])
        | (apply QuietL.skip
           focus go_simp
           simp only [Act.put, List.setIfInBounds_toArray, List.set_cons_succ, List.set_cons_zero])
    apply QuietL.nil
    intro w2 hk
    have hA := hA.keep hk
    obtain ⟨hA_0, hA_1, hA_2, hA_3, hA_4, hA_5, hA_6, hA_7, hA_8⟩ := hA.four
    have hB := hB.keep hk
    obtain ⟨hB_0, hB_1, hB_2, hB_3, hB_4⟩ := hB.two
    go_wp2_with fail
    refine wp_region_keep (by kernel_rfl) (by kernel_rfl) ?_
    repeat
      first
        | (apply QuietL.run
           focus go_simp
           focus
             intro w2 hk
             obtain ⟨hA_0, hA_1, hA_2, hA_3, hA_4, hA_5, hA_6, hA_7, hA_8⟩ := (hA.keep hk).four
             obtain ⟨hB_0, hB_1, hB_2, hB_3, hB_4⟩ := (hB.keep hk).two
             apply QAt.mk
             go_simp
             first
               | done
               | exact rfl
               | (go_at_call 21; exact quiet_call hk (laws_toField _ _ _ _ _))
               | (go_at_call 39; exact quiet_call hk (laws_toMask _ _ _))
               | (go_at_call 40; exact quiet_call hk (impl_KeyOf _ _ _ _ _ _ _ hw))
           simp only [Act.put, List.setIfInBounds_toArray, List.set_cons_succ, List.set_cons_zero])
        | (apply QuietL.skip
           focus go_simp
           simp only [Act.put, List.setIfInBounds_toArray, List.set_cons_succ, List.set_cons_zero])
    apply QuietL.nil
    intro w2 hk
    have hA := hA.keep hk
    obtain ⟨hA_0, hA_1, hA_2, hA_3, hA_4, hA_5, hA_6, hA_7, hA_8⟩ := hA.four
    have hB := hB.keep hk
    obtain ⟨hB_0, hB_1, hB_2, hB_3, hB_4⟩ := hB.two
    go_wp2
    go_ret; exact ⟨rfl, (by ((repeat (first | (with_reducible assumption) | ((with_reducible refine Keep.setCell ?_ ?_ _); rotate_left; focus (first | omega | (simp; done) | (simp; omega))) | (with_reducible refine Keep.alloc ?_ _) | (with_reducible refine Keep.drewN ?_ _) | (with_reducible refine Keep.drew ?_) | (with_reducible exact Keep.refl _) | refine Keep.trans ?_ (by with_reducible assumption) | exact Keep.refl _ | assumption))))⟩
  · have e1 := szN_gt (left := 1048576) (n := s.size) (by omega)
    go_enter Tryd.func10, Tryd.ntmps10
    (go_wp2_with fail); (go_at_call 19); (refine (laws_szField _ _ _ _ 1048576 _ (by decide) hw.1).mono ?_); rintro e w1 ⟨rfl, hk1⟩
    rw [e1]
    go_wp2
    go_ret; exact ⟨rfl, (by ((repeat (first | (with_reducible assumption) | ((with_reducible refine Keep.setCell ?_ ?_ _); rotate_left; focus (first | omega | (simp; done) | (simp; omega))) | (with_reducible refine Keep.alloc ?_ _) | (with_reducible refine Keep.drewN ?_ _) | (with_reducible refine Keep.drew ?_) | (with_reducible exact Keep.refl _) | refine Keep.trans ?_ (by with_reducible assumption) | exact Keep.refl _ | assumption))))⟩
theorem hsL_len (s : ByteArray) (k st sz : Int) : (hsL s k st sz).length ≤ 24 := by
  cases h : fieldB s k st sz
  · simp [hsL, h]
  · simp only [hsL, h, cond_true]; rw [sortL_len]; exact sortN_le (okSz_of h)
theorem laws_FnExactHolesToSort (s : ByteArray) (k st sz : Int) (w : World) (hw : FieldW s k st sz) :
    Calls Tryd.prog 9 #[.agg #[.string s, .int .i8 k, .int .i16 st, .int .i16 sz]] w fun e w' => e = .returned (.bool true) ∧ Keep w w' := by
  by_cases hsz : s.size ≤ 1048576
  · have e1 := szN_le (left := 1048576) (n := s.size) (by omega)
    have hl := hsL_len s k st sz
    have hJ := fun W => spec_HolesToSort s k st sz W hw
    have hI := fun W => impl_HolesToSort s k st sz W hw
    generalize hsL s k st sz = l at *
    generalize fE s k st sz = E at *
    go_enter Tryd.func9, Tryd.ntmps9
    (go_wp2_with fail); (go_at_call 19); (refine (laws_szField _ _ _ _ 1048576 _ (by decide) hw.1).mono ?_); rintro e w0 ⟨rfl, hk0⟩
    rw [e1]
    have hA0 := (Bx.new w #[.string s, .int .i8 k, .int .i16 st, .int .i16 sz] 36).keep hk0
    have k0 : Keep w w0 := (by ((repeat (first | (with_reducible assumption) | ((with_reducible refine Keep.setCell ?_ ?_ _); rotate_left; focus (first | omega | (simp; done) | (simp; omega))) | (with_reducible refine Keep.alloc ?_ _) | (with_reducible refine Keep.drewN ?_ _) | (with_reducible refine Keep.drew ?_) | (with_reducible exact Keep.refl _) | refine Keep.trans ?_ (by with_reducible assumption) | exact Keep.refl _ | assumption))))
    clear hk0
    have hAs := hA0.four
    (go_wp2_with fail); (go_at_call 21); (refine (laws_toField _ _ _ _ _).mono ?_); rintro e w1 ⟨rfl, hk1⟩
    have hA := hA0.keep hk1
    have k1 : Keep w w1 := (by ((repeat (first | (with_reducible assumption) | ((with_reducible refine Keep.setCell ?_ ?_ _); rotate_left; focus (first | omega | (simp; done) | (simp; omega))) | (with_reducible refine Keep.alloc ?_ _) | (with_reducible refine Keep.drewN ?_ _) | (with_reducible refine Keep.drew ?_) | (with_reducible exact Keep.refl _) | refine Keep.trans ?_ (by with_reducible assumption) | exact Keep.refl _ | assumption))))
    have z1 : w.heap.size < w1.heap.size := hA.lt
    clear hk1 hA0 k0 hAs
    (go_wp2_with fail); (go_at_call 33); (refine (hJ _).mono ?_); rintro e w2 ⟨v2, rfl, ho2, hk2⟩
    obtain ⟨A2, c2, rfl, -, hb2⟩ := own_row ho2
    have HB2 := Aside.mk hb2
    have z2 : w1.heap.size ≤ w2.heap.size := hk2.size
    have HO2 := Aside.mk ho2
    have hA2 := hA.keep hk2
    have k2 : Keep w w2 := (by ((repeat (first | (with_reducible assumption) | ((with_reducible refine Keep.setCell ?_ ?_ _); rotate_left; focus (first | omega | (simp; done) | (simp; omega))) | (with_reducible refine Keep.alloc ?_ _) | (with_reducible refine Keep.drewN ?_ _) | (with_reducible refine Keep.drew ?_) | (with_reducible exact Keep.refl _) | refine Keep.trans ?_ (by with_reducible assumption) | exact Keep.refl _ | assumption))))
    clear hA hk2 ho2 hb2 k1
    have hAs := hA2.four
    (go_wp2_with fail); (go_at_call 21); (refine (laws_toField _ _ _ _ _).mono ?_); rintro e w3 ⟨rfl, hk3⟩
    have HO3 := Aside.mk (own_keep HO2.out hk3)
    have hA3 := hA2.keep hk3
    have k3 : Keep w w3 := (by ((repeat (first | (with_reducible assumption) | ((with_reducible refine Keep.setCell ?_ ?_ _); rotate_left; focus (first | omega | (simp; done) | (simp; omega))) | (with_reducible refine Keep.alloc ?_ _) | (with_reducible refine Keep.drewN ?_ _) | (with_reducible refine Keep.drew ?_) | (with_reducible exact Keep.refl _) | refine Keep.trans ?_ (by with_reducible assumption) | exact Keep.refl _ | assumption))))
    have z3 : w2.heap.size ≤ w3.heap.size := hk3.size
    clear hA2 hk3 k2 HO2 hAs
    (go_wp2_with fail); (go_at_call 34); (refine (hI _).mono ?_); rintro e w4 ⟨v4, rfl, ho4, hk4⟩
    obtain ⟨A4, c4, rfl, -, hb4⟩ := own_row ho4
    have HB4 := Aside.mk hb4
    have HO4 := Aside.mk (own_keep HO3.out hk4)
    have HG4 := Aside.mk ho4
    have hA4 := hA3.keep hk4
    have k4 : Keep w w4 := (by ((repeat (first | (with_reducible assumption) | ((with_reducible refine Keep.setCell ?_ ?_ _); rotate_left; focus (first | omega | (simp; done) | (simp; omega))) | (with_reducible refine Keep.alloc ?_ _) | (with_reducible refine Keep.drewN ?_ _) | (with_reducible refine Keep.drew ?_) | (with_reducible exact Keep.refl _) | refine Keep.trans ?_ (by with_reducible assumption) | exact Keep.refl _ | assumption))))
    clear hA3 hk4 k3 HO3 ho4 hb4
    (go_wp2_with fail); (go_at_call 35); (refine (laws_eqInt64S _ _ l _ _ _ (by omega) (own_rd2 HG4.out) (own_rd2 HO4.out)).mono ?_); rintro e w5 ⟨rfl, hk5⟩
    have HO5 := Aside.mk (own_keep HO4.out hk5)
    have HG5 := Aside.mk (own_keep HG4.out hk5)
    have hA5 := hA4.keep hk5
    have k5 : Keep w w5 := (by ((repeat (first | (with_reducible assumption) | ((with_reducible refine Keep.setCell ?_ ?_ _); rotate_left; focus (first | omega | (simp; done) | (simp; omega))) | (with_reducible refine Keep.alloc ?_ _) | (with_reducible refine Keep.drewN ?_ _) | (with_reducible refine Keep.drew ?_) | (with_reducible exact Keep.refl _) | refine Keep.trans ?_ (by with_reducible assumption) | exact Keep.refl _ | assumption))))
    clear hA4 hk5 k4 HO4 HG4
    (go_wp2_with fail); (go_at_call 36); (refine (laws_markInt64S _ _ _ _ _ 1 _ (by omega) (by omega) (by omega) HG5.out).mono ?_); rintro e w6 ⟨rfl, ho6, hg6⟩
    have hne : ∀ k, Value.ownBlock (.slice A2 l.length c2) = some k → Value.ownBlock (.slice A4 l.length c4) ≠ some k := fun k h2 h4 => by
      have := HB2.out k h2; have := HB4.out k h4; omega
    have HO6 := Aside.mk (HO5.out.kept hg6 (by
      cases h2 : Value.ownBlock (.slice A2 l.length c2) with
      | none => exact .inl rfl
      | some k => exact .inr (fun h => hne k h2 h.symm)))
    have HG6 := Aside.mk ho6
    have hA6 := hA5.grownBy hg6 (fun h => by have := HB4.out _ h.symm; omega)
    have k6 : Keep w w6 := k5.grown hg6 (fun k hk => by have := HB4.out k hk; omega)
    clear ho6 hg6 hA5 k5 HO5 HG5 hne
    (go_wp2_with fail); (go_at_call 37); (refine (laws_heldInt64S _ _ _ 1 _ (by omega) (by omega) (by omega) (own_rd2 HG6.out)).mono ?_); rintro e w7 ⟨rfl, hk7⟩
    have HO7 := Aside.mk (own_keep HO6.out hk7)
    have HG7 := Aside.mk (own_keep HG6.out hk7)
    have hA7 := hA6.keep hk7
    have k7 : Keep w w7 := (by ((repeat (first | (with_reducible assumption) | ((with_reducible refine Keep.setCell ?_ ?_ _); rotate_left; focus (first | omega | (simp; done) | (simp; omega))) | (with_reducible refine Keep.alloc ?_ _) | (with_reducible refine Keep.drewN ?_ _) | (with_reducible refine Keep.drew ?_) | (with_reducible exact Keep.refl _) | refine Keep.trans ?_ (by with_reducible assumption) | exact Keep.refl _ | assumption))))
    clear hA6 hk7 k6 HO6 HG6
    have hAs := hA7.four
    (go_wp2_with fail); (go_at_call 21); (refine (laws_toField _ _ _ _ _).mono ?_); rintro e w8 ⟨rfl, hk8⟩
    have HO8 := Aside.mk (own_keep HO7.out hk8)
    have HG8 := Aside.mk (own_keep HG7.out hk8)
    have k8 : Keep w w8 := (by ((repeat (first | (with_reducible assumption) | ((with_reducible refine Keep.setCell ?_ ?_ _); rotate_left; focus (first | omega | (simp; done) | (simp; omega))) | (with_reducible refine Keep.alloc ?_ _) | (with_reducible refine Keep.drewN ?_ _) | (with_reducible refine Keep.drew ?_) | (with_reducible exact Keep.refl _) | refine Keep.trans ?_ (by with_reducible assumption) | exact Keep.refl _ | assumption))))
    clear hA7 hk8 k7 HO7 HG7 hAs
    (go_wp2_with fail); (go_at_call 34); (refine (hI _).mono ?_); rintro e w9 ⟨v9, rfl, ho9, hk9⟩
    obtain ⟨A9, c9, rfl, -, hb9⟩ := own_row ho9
    have HO9 := Aside.mk (own_keep HO8.out hk9)
    have HG9 := Aside.mk (own_keep HG8.out hk9)
    have HH9 := Aside.mk ho9
    have k9 : Keep w w9 := (by ((repeat (first | (with_reducible assumption) | ((with_reducible refine Keep.setCell ?_ ?_ _); rotate_left; focus (first | omega | (simp; done) | (simp; omega))) | (with_reducible refine Keep.alloc ?_ _) | (with_reducible refine Keep.drewN ?_ _) | (with_reducible refine Keep.drew ?_) | (with_reducible exact Keep.refl _) | refine Keep.trans ?_ (by with_reducible assumption) | exact Keep.refl _ | assumption))))
    clear hk9 k8 HO8 HG8 ho9 hb9
    (go_wp2_with fail); (go_at_call 35); (refine (laws_eqInt64S _ _ l _ _ _ (by omega) (own_rd2 HH9.out) (own_rd2 HO9.out)).mono ?_); rintro e w10 ⟨rfl, hk10⟩
    have HG10 := Aside.mk (own_keep HG9.out hk10)
    have k10 : Keep w w10 := (by ((repeat (first | (with_reducible assumption) | ((with_reducible refine Keep.setCell ?_ ?_ _); rotate_left; focus (first | omega | (simp; done) | (simp; omega))) | (with_reducible refine Keep.alloc ?_ _) | (with_reducible refine Keep.drewN ?_ _) | (with_reducible refine Keep.drew ?_) | (with_reducible exact Keep.refl _) | refine Keep.trans ?_ (by with_reducible assumption) | exact Keep.refl _ | assumption))))
    clear hk10 k9 HO9 HG9 HH9
    (go_wp2_with fail); (go_at_call 37); (refine (laws_heldInt64S _ _ _ 1 _ (by omega) (by omega) (by omega) (own_rd2 HG10.out)).mono ?_); rintro e w11 ⟨rfl, hk11⟩
    go_wp2
    go_ret; exact ⟨rfl, (by ((repeat (first | (with_reducible assumption) | ((with_reducible refine Keep.setCell ?_ ?_ _); rotate_left; focus (first | omega | (simp; done) | (simp; omega))) | (with_reducible refine Keep.alloc ?_ _) | (with_reducible refine Keep.drewN ?_ _) | (with_reducible refine Keep.drew ?_) | (with_reducible exact Keep.refl _) | refine Keep.trans ?_ (by with_reducible assumption) | exact Keep.refl _ | assumption))))⟩
  · have e1 := szN_gt (left := 1048576) (n := s.size) (by omega)
    go_enter Tryd.func9, Tryd.ntmps9
    (go_wp2_with fail); (go_at_call 19); (refine (laws_szField _ _ _ _ 1048576 _ (by decide) hw.1).mono ?_); rintro e w1 ⟨rfl, hk1⟩
    rw [e1]
    go_wp2
    go_ret; exact ⟨rfl, (by ((repeat (first | (with_reducible assumption) | ((with_reducible refine Keep.setCell ?_ ?_ _); rotate_left; focus (first | omega | (simp; done) | (simp; omega))) | (with_reducible refine Keep.alloc ?_ _) | (with_reducible refine Keep.drewN ?_ _) | (with_reducible refine Keep.drew ?_) | (with_reducible exact Keep.refl _) | refine Keep.trans ?_ (by with_reducible assumption) | exact Keep.refl _ | assumption))))⟩
end Go.Proofs.YtbgegnbcjklmjaaDoor

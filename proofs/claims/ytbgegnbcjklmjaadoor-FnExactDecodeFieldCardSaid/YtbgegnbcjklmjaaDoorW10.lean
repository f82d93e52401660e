/- The laws of codes of values. -/
import Derived.Test.YtbgegnbcjklmjaaDoorW9
import Derived.Test.YtbgegnbcjklmjaaDoorE9
set_option linter.unusedVariables false
set_option linter.unusedSimpArgs false
namespace Go.Proofs.YtbgegnbcjklmjaaDoor
open Go.RowKit
set_option maxHeartbeats 4000000
set_option maxRecDepth 20000
theorem laws_FnExactEncodeField (s : ByteArray) (k st sz v : Int) (w : World) (hw : FieldW s k st sz) (hv : (Lit.int .i64 v).wf = true) :
    Calls Tryd.prog 11 #[.agg #[.string s, .int .i8 k, .int .i16 st, .int .i16 sz], .int .i64 v] w fun e w' => e = .returned (.bool true) ∧ Keep w w' := by
  by_cases hn : s.size ≤ 1048576
  · have e1 := szN_le (left := 1048576) (n := s.size) (by omega)
    go_enter Tryd.func11, Tryd.ntmps11
    (go_wp2_with fail); (go_at_call 19); (refine (laws_szField _ _ _ _ 1048576 _ (by decide) hw.1).mono ?_); rintro e w1 ⟨rfl, hk1⟩
    rw [e1]
    obtain ⟨hk1c, hk1f⟩ := hk1.cells; have hk1z0 : w.heap.size < w1.heap.size := (by have := hk1.size; (try simp at this); omega)
    (go_wp2_with fail); (go_at_call 21); (refine (laws_toField _ _ _ _ _).mono ?_); rintro e w2 ⟨rfl, hk2⟩
    obtain ⟨hk2c, hk2f⟩ := hk2.cells; have hk2z0 : w.heap.size < w2.heap.size := (by have := hk2.size; (try simp at this); omega)
    (go_wp2_with fail); (go_at_call 41); (refine (spec_EncodeField _ _ _ _ _ _ hw).mono ?_); rintro e w3 ⟨rfl, hk3⟩
    have hA : Bx w3 w.heap.size #[.string s, .int .i8 k, .int .i16 st, .int .i16 sz] 36 := (((Bx.new _ _ _).keep hk1).keep hk2).keep hk3
    have k3 : Keep w w3 := (by ((repeat (first | (with_reducible assumption) | ((with_reducible refine Keep.setCell ?_ ?_ _); rotate_left; focus (first | omega | (simp; done) | (simp; omega))) | (with_reducible refine Keep.alloc ?_ _) | (with_reducible refine Keep.drewN ?_ _) | (with_reducible refine Keep.drew ?_) | (with_reducible exact Keep.refl _) | refine Keep.trans ?_ (by with_reducible assumption) | exact Keep.refl _ | assumption))))
    clear hk1 hk2 hk3 hk1c hk1f hk2c hk2f hk1z0 hk2z0
    have hAs := hA.four
    (go_wp2_with fail); (go_at_call 21); (refine (laws_toField _ _ _ _ _).mono ?_); rintro e w4 ⟨rfl, hk4⟩
    have hA4 := ((hA.alloc _).keep hk4)
    have hB4 : Bx w4 w3.heap.size #[.int .u64 (U (enLo s k st sz v)), .int .u64 (U (enHi s k st sz v))] 28 := (Bx.new _ _ _).keep hk4
    have k4 : Keep w w4 := (by ((repeat (first | (with_reducible assumption) | ((with_reducible refine Keep.setCell ?_ ?_ _); rotate_left; focus (first | omega | (simp; done) | (simp; omega))) | (with_reducible refine Keep.alloc ?_ _) | (with_reducible refine Keep.drewN ?_ _) | (with_reducible refine Keep.drew ?_) | (with_reducible exact Keep.refl _) | refine Keep.trans ?_ (by with_reducible assumption) | exact Keep.refl _ | assumption))))
    clear hAs hA hk4 k3
    (go_wp2_with fail); (go_at_call 42); (refine (impl_EncodeField _ _ _ _ _ _ hw).mono ?_); rintro e w5 ⟨rfl, hk5⟩
    have hB5 := hB4.keep hk5
    have k5 : Keep w w5 := (by ((repeat (first | (with_reducible assumption) | ((with_reducible refine Keep.setCell ?_ ?_ _); rotate_left; focus (first | omega | (simp; done) | (simp; omega))) | (with_reducible refine Keep.alloc ?_ _) | (with_reducible refine Keep.drewN ?_ _) | (with_reducible refine Keep.drew ?_) | (with_reducible exact Keep.refl _) | refine Keep.trans ?_ (by with_reducible assumption) | exact Keep.refl _ | assumption))))
    clear hA4 hB4 hk5 k4
    have hBs := hB5.two
    (go_wp2_with fail); (go_at_call 29); (refine (laws_eqMask_self _ _ _).mono ?_); rintro e w6 ⟨rfl, hk6⟩
    go_wp2
    go_ret; exact ⟨rfl, (by ((repeat (first | (with_reducible assumption) | ((with_reducible refine Keep.setCell ?_ ?_ _); rotate_left; focus (first | omega | (simp; done) | (simp; omega))) | (with_reducible refine Keep.alloc ?_ _) | (with_reducible refine Keep.drewN ?_ _) | (with_reducible refine Keep.drew ?_) | (with_reducible exact Keep.refl _) | refine Keep.trans ?_ (by with_reducible assumption) | exact Keep.refl _ | assumption))))⟩
  · have e1 := szN_gt (left := 1048576) (n := s.size) (by omega)
    go_enter Tryd.func11, Tryd.ntmps11
    (go_wp2_with fail); (go_at_call 19); (refine (laws_szField _ _ _ _ 1048576 _ (by decide) hw.1).mono ?_); rintro e w1 ⟨rfl, hk1⟩
    rw [e1]
    go_wp2
    go_ret; exact ⟨rfl, (by ((repeat (first | (with_reducible assumption) | ((with_reducible refine Keep.setCell ?_ ?_ _); rotate_left; focus (first | omega | (simp; done) | (simp; omega))) | (with_reducible refine Keep.alloc ?_ _) | (with_reducible refine Keep.drewN ?_ _) | (with_reducible refine Keep.drew ?_) | (with_reducible exact Keep.refl _) | refine Keep.trans ?_ (by with_reducible assumption) | exact Keep.refl _ | assumption))))⟩
theorem laws_FnExactQueryFor (s : ByteArray) (k st sz v : Int) (w : World) (hw : FieldW s k st sz) (hv : (Lit.int .i64 v).wf = true) :
    Calls Tryd.prog 13 #[.agg #[.string s, .int .i8 k, .int .i16 st, .int .i16 sz], .int .i64 v] w fun e w' => e = .returned (.bool true) ∧ Keep w w' := by
  by_cases hn : s.size ≤ 1048576
  · have e1 := szN_le (left := 1048576) (n := s.size) (by omega)
    go_enter Tryd.func13, Tryd.ntmps13
    (go_wp2_with fail); (go_at_call 19); (refine (laws_szField _ _ _ _ 1048576 _ (by decide) hw.1).mono ?_); rintro e w1 ⟨rfl, hk1⟩
    rw [e1]
    obtain ⟨hk1c, hk1f⟩ := hk1.cells; have hk1z0 : w.heap.size < w1.heap.size := (by have := hk1.size; (try simp at this); omega)
    (go_wp2_with fail); (go_at_call 21); (refine (laws_toField _ _ _ _ _).mono ?_); rintro e w2 ⟨rfl, hk2⟩
    obtain ⟨hk2c, hk2f⟩ := hk2.cells; have hk2z0 : w.heap.size < w2.heap.size := (by have := hk2.size; (try simp at this); omega)
    (go_wp2_with fail); (go_at_call 45); (refine (spec_QueryFor _ _ _ _ _ _ hw).mono ?_); rintro e w3 ⟨rfl, hk3⟩
    have hA : Bx w3 w.heap.size #[.string s, .int .i8 k, .int .i16 st, .int .i16 sz] 36 := (((Bx.new _ _ _).keep hk1).keep hk2).keep hk3
    have k3 : Keep w w3 := (by ((repeat (first | (with_reducible assumption) | ((with_reducible refine Keep.setCell ?_ ?_ _); rotate_left; focus (first | omega | (simp; done) | (simp; omega))) | (with_reducible refine Keep.alloc ?_ _) | (with_reducible refine Keep.drewN ?_ _) | (with_reducible refine Keep.drew ?_) | (with_reducible exact Keep.refl _) | refine Keep.trans ?_ (by with_reducible assumption) | exact Keep.refl _ | assumption))))
    clear hk1 hk2 hk3 hk1c hk1f hk2c hk2f hk1z0 hk2z0
    have hAs := hA.four
    (go_wp2_with fail); (go_at_call 21); (refine (laws_toField _ _ _ _ _).mono ?_); rintro e w4 ⟨rfl, hk4⟩
    have hA4 := ((hA.alloc _).keep hk4)
    have hB4 : Bx w4 w3.heap.size #[.int .u64 (U (enLo s k st sz v)), .int .u64 (U (enHi s k st sz v)), .int .u64 (U (qnLo s k st sz v)), .int .u64 (U (qnHi s k st sz v))] 62 := (Bx.new _ _ _).keep hk4
    have k4 : Keep w w4 := (by ((repeat (first | (with_reducible assumption) | ((with_reducible refine Keep.setCell ?_ ?_ _); rotate_left; focus (first | omega | (simp; done) | (simp; omega))) | (with_reducible refine Keep.alloc ?_ _) | (with_reducible refine Keep.drewN ?_ _) | (with_reducible refine Keep.drew ?_) | (with_reducible exact Keep.refl _) | refine Keep.trans ?_ (by with_reducible assumption) | exact Keep.refl _ | assumption))))
    clear hAs hA hk4 k3
    (go_wp2_with fail); (go_at_call 46); (refine (impl_QueryFor _ _ _ _ _ _ hw).mono ?_); rintro e w5 ⟨rfl, hk5⟩
    have hB5 := hB4.keep hk5
    have k5 : Keep w w5 := (by ((repeat (first | (with_reducible assumption) | ((with_reducible refine Keep.setCell ?_ ?_ _); rotate_left; focus (first | omega | (simp; done) | (simp; omega))) | (with_reducible refine Keep.alloc ?_ _) | (with_reducible refine Keep.drewN ?_ _) | (with_reducible refine Keep.drew ?_) | (with_reducible exact Keep.refl _) | refine Keep.trans ?_ (by with_reducible assumption) | exact Keep.refl _ | assumption))))
    clear hA4 hB4 hk5 k4
    have hBs := hB5.four
    (go_wp2_with fail); (go_at_call 47); (refine (laws_eqQuery _ _ _ _ _).mono ?_); rintro e w6 ⟨rfl, hk6⟩
    go_wp2
    go_ret; exact ⟨rfl, (by ((repeat (first | (with_reducible assumption) | ((with_reducible refine Keep.setCell ?_ ?_ _); rotate_left; focus (first | omega | (simp; done) | (simp; omega))) | (with_reducible refine Keep.alloc ?_ _) | (with_reducible refine Keep.drewN ?_ _) | (with_reducible refine Keep.drew ?_) | (with_reducible exact Keep.refl _) | refine Keep.trans ?_ (by with_reducible assumption) | exact Keep.refl _ | assumption))))⟩
  · have e1 := szN_gt (left := 1048576) (n := s.size) (by omega)
    go_enter Tryd.func13, Tryd.ntmps13
    (go_wp2_with fail); (go_at_call 19); (refine (laws_szField _ _ _ _ 1048576 _ (by decide) hw.1).mono ?_); rintro e w1 ⟨rfl, hk1⟩
    rw [e1]
    go_wp2
    go_ret; exact ⟨rfl, (by ((repeat (first | (with_reducible assumption) | ((with_reducible refine Keep.setCell ?_ ?_ _); rotate_left; focus (first | omega | (simp; done) | (simp; omega))) | (with_reducible refine Keep.alloc ?_ _) | (with_reducible refine Keep.drewN ?_ _) | (with_reducible refine Keep.drew ?_) | (with_reducible exact Keep.refl _) | refine Keep.trans ?_ (by with_reducible assumption) | exact Keep.refl _ | assumption))))⟩
theorem laws_FnExactDecodeField (s : ByteArray) (k st sz : Int) (a b : Wd) (w : World) (hw : FieldW s k st sz) :
    Calls Tryd.prog 12 #[.agg #[.string s, .int .i8 k, .int .i16 st, .int .i16 sz], .agg #[.int .u64 (U a), .int .u64 (U b)]] w fun e w' => e = .returned (.bool true) ∧ Keep w w' := by
  by_cases hn : s.size ≤ 1048576
  · have e1 := szN_le (left := 1048576) (n := s.size) (by omega)
    go_enter Tryd.func12, Tryd.ntmps12
    (go_wp2_with fail); (go_at_call 19); (refine (laws_szField _ _ _ _ 1048576 _ (by decide) hw.1).mono ?_); rintro e w1 ⟨rfl, hk1⟩
    rw [e1]
    go_wp2_with fail
    refine wp_gen (fun W => Bx W w.heap.size #[.string s, .int .i8 k, .int .i16 st, .int .i16 sz] 36 ∧ Bx W (w.heap.size + 1) #[.int .u64 (U a), .int .u64 (U b)] 23 ∧ Keep w W) ⟨((Bx.new _ _ _).alloc _).keep hk1, (Bx.new1 _ _ _ _).keep hk1, (by ((repeat (first | (with_reducible assumption) | ((with_reducible refine Keep.setCell ?_ ?_ _); rotate_left; focus (first | omega | (simp; done) | (simp; omega))) | (with_reducible refine Keep.alloc ?_ _) | (with_reducible refine Keep.drewN ?_ _) | (with_reducible refine Keep.drew ?_) | (with_reducible exact Keep.refl _) | refine Keep.trans ?_ (by with_reducible assumption) | exact Keep.refl _ | assumption))))⟩ ?_
    clear hk1
    rintro W ⟨hA, hB, hW⟩
    refine wp_region_keep (by kernel_rfl) (by kernel_rfl) ?_
    repeat
      first
        | (apply QuietL.run
           focus go_simp
           focus
             intro w2 hk
             obtain ⟨hA_0, hA_1, hA_2, hA_3, hA_4, hA_5, hA_6, hA_7, hA_8⟩ := (hA.keep hk).four
             obtain ⟨hB_0, hB_1, hB_2, hB_3, hB_4⟩ := (hB.keep hk).two
             apply QAt.mk
             go_simp
             first
               | done
               | exact rfl
               | (go_at_call 21; exact quiet_call hk (laws_toField _ _ _ _ _))
               | (go_at_call 39; exact quiet_call hk (laws_toMask _ _ _))
               | (go_at_call 43; exact quiet_call hk (spec_DecodeField _ _ _ _ _ _ _ hw))
           simp only [Act.put, List.setIfInBounds_toArray, List.set_cons_succ, List.set_cons_zero])
        | (apply QuietL.skip
           focus go_simp
           simp only [Act.put, List.setIfInBounds_toArray, List.set_cons_succ, List.set_cons_zero])
    apply QuietL.nil
    intro w2 hk
    have hA := hA.keep hk
    obtain ⟨hA_0, hA_1, hA_2, hA_3, hA_4, hA_5, hA_6, hA_7, hA_8⟩ := hA.four
    have hB := hB.keep hk
    obtain ⟨hB_0, hB_1, hB_2, hB_3, hB_4⟩ := hB.two
    go_wp2_with fail
    refine wp_region_keep (by kernel_rfl) (by kernel_rfl) ?_
    repeat
      first
        | (apply QuietL.run
           focus go_simp
           focus
             intro w2 hk
             obtain ⟨hA_0, hA_1, hA_2, hA_3, hA_4, hA_5, hA_6, hA_7, hA_8⟩ := (hA.keep hk).four
             obtain ⟨hB_0, hB_1, hB_2, hB_3, hB_4⟩ := (hB.keep hk).two
             apply QAt.mk
             go_simp
             first
               | done
               | exact rfl
               | (go_at_call 21; exact quiet_call hk (laws_toField _ _ _ _ _))
               | (go_at_call 39; exact quiet_call hk (laws_toMask _ _ _))
               | (go_at_call 44; exact quiet_call hk (impl_DecodeField _ _ _ _ _ _ _ hw))
           simp only [Act.put, List.setIfInBounds_toArray, List.set_cons_succ, List.set_cons_zero])
        | (apply QuietL.skip
           focus go_simp
           simp only [Act.put, List.setIfInBounds_toArray, List.set_cons_succ, List.set_cons_zero])
    apply QuietL.nil
    intro w2 hk
    have hA := hA.keep hk
    obtain ⟨hA_0, hA_1, hA_2, hA_3, hA_4, hA_5, hA_6, hA_7, hA_8⟩ := hA.four
    have hB := hB.keep hk
    obtain ⟨hB_0, hB_1, hB_2, hB_3, hB_4⟩ := hB.two
    go_wp2
    go_ret; exact ⟨rfl, (by ((repeat (first | (with_reducible assumption) | ((with_reducible refine Keep.setCell ?_ ?_ _); rotate_left; focus (first | omega | (simp; done) | (simp; omega))) | (with_reducible refine Keep.alloc ?_ _) | (with_reducible refine Keep.drewN ?_ _) | (with_reducible refine Keep.drew ?_) | (with_reducible exact Keep.refl _) | refine Keep.trans ?_ (by with_reducible assumption) | exact Keep.refl _ | assumption))))⟩
  · have e1 := szN_gt (left := 1048576) (n := s.size) (by omega)
    go_enter Tryd.func12, Tryd.ntmps12
    (go_wp2_with fail); (go_at_call 19); (refine (laws_szField _ _ _ _ 1048576 _ (by decide) hw.1).mono ?_); rintro e w1 ⟨rfl, hk1⟩
    rw [e1]
    go_wp2
    go_ret; exact ⟨rfl, (by ((repeat (first | (with_reducible assumption) | ((with_reducible refine Keep.setCell ?_ ?_ _); rotate_left; focus (first | omega | (simp; done) | (simp; omega))) | (with_reducible refine Keep.alloc ?_ _) | (with_reducible refine Keep.drewN ?_ _) | (with_reducible refine Keep.drew ?_) | (with_reducible exact Keep.refl _) | refine Keep.trans ?_ (by with_reducible assumption) | exact Keep.refl _ | assumption))))⟩
end Go.Proofs.YtbgegnbcjklmjaaDoor

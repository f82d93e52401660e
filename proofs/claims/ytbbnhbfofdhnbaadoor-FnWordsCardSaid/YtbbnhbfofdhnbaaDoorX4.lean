/- The holes of a word: the walks. -/
import Derived.Test.YtbbnhbfofdhnbaaDoorX3
set_option linter.unusedVariables false
set_option linter.unusedSimpArgs false
namespace Go.Proofs.YtbbnhbfofdhnbaaDoor
open Go.RowKit
set_option maxHeartbeats 4000000
set_option maxRecDepth 20000
theorem wh_eq {s z : Int} {a i : Nat} (ha : a < 4294967296) (s0 : 0 ≤ s) (z0 : 1 ≤ z) (h : s + z ≤ 96) :
    IntKind.i64.wrap (s + (IntKind.i64.wrap (IntKind.u32.wrap (((it (i + 1) a : Nat) : Int) / 65536))).tmod z) = wh s z a i := by
  have hx := it_lt (n := i + 1) ha
  have hr := wh_range s0 z0 h a i
  have e1 : IntKind.u32.wrap (((it (i + 1) a : Nat) : Int) / 65536) = ((it (i + 1) a : Nat) : Int) / 65536 := by rw [wrapU32]; omega
  have e : (((it (i + 1) a : Nat) : Int) / 65536).tmod z = ((it (i + 1) a / 65536 : Nat) : Int) % z := by
    rw [Int.tmod_eq_emod_of_nonneg (by omega)]
    simp
  have e2 : s + (((it (i + 1) a : Nat) : Int) / 65536).tmod z = wh s z a i := by rw [e]; rfl
  rw [e1, wrapI64 (n := ((it (i + 1) a : Nat) : Int) / 65536) ⟨by omega, by omega⟩, e2]
  exact wrapI64 ⟨by omega, by omega⟩
theorem impl_wordHoles (s z p : Int) (word : ByteArray) (T : Nat) (w : World) (hs : word.size ≤ 9223372036854775807) (s0 : 0 ≤ s) (z0 : 1 ≤ z) (hz : s + z ≤ 96) (hp : 0 ≤ p ∧ p ≤ 96) (hT : Lst s z p (chk word.data.toList) T) :
    Calls Tryd.prog 55 #[.agg #[.int .i16 s, .int .i16 z, .int .i16 p], .string word] w fun e w' => e = .returned (.agg #[.int .u64 (U (whLo s z (chk word.data.toList) T)), .int .u64 (U (whHi s z (chk word.data.toList) T))]) ∧ Keep w w' := by
  have ha := chk_lt word.data.toList
  have hck := fun W => impl_wordCheck word W hs
  generalize chk word.data.toList = a at *
  have es : IntKind.i64.wrap s = s := wrapI64 ⟨by omega, by omega⟩
  have ez : IntKind.i64.wrap z = z := wrapI64 ⟨by omega, by omega⟩
  have ep : IntKind.i64.wrap p = p := wrapI64 ⟨by omega, by omega⟩
  go_enter Tryd.func55, Tryd.ntmps55
  (go_wp2_with fail); (go_at_call 69); (refine (hck _).mono ?_); rintro e w1 ⟨rfl, hk1⟩
  have HX := Aside.mk ((((Bx.new w #[.int .i16 s, .int .i16 z, .int .i16 p] 42).alloc (Obj.cells #[.int .u64 0, .int .u64 0] 50)).alloc (Obj.cells #[.int .u64 0, .int .u64 0] 50)).keep hk1)
  have HR := Aside.mk (((Bx.new1 w (Obj.cells #[.int .i16 s, .int .i16 z, .int .i16 p] 42) #[.int .u64 0, .int .u64 0] 50).alloc (Obj.cells #[.int .u64 0, .int .u64 0] 50)).keep hk1)
  have HM := Aside.mk ((Bx.new2 w (Obj.cells #[.int .i16 s, .int .i16 z, .int .i16 p] 42) (Obj.cells #[.int .u64 0, .int .u64 0] 50) #[.int .u64 0, .int .u64 0] 50).keep hk1)
  have k1 : Keep w w1 := (by ((repeat (first | (with_reducible assumption) | ((with_reducible refine Keep.setCell ?_ ?_ _); rotate_left; focus (first | omega | (simp; done) | (simp; omega))) | (with_reducible refine Keep.alloc ?_ _) | (with_reducible refine Keep.drewN ?_ _) | (with_reducible refine Keep.drew ?_) | (with_reducible exact Keep.refl _) | refine Keep.trans ?_ (by with_reducible assumption) | exact Keep.refl _ | assumption))))
  clear hk1
  go_wp2_with fail
  go_loopg [6] T (fun k s6 wr => ∃ i : Nat, i + k = T ∧ s6 = .int .u32 (it i a : Nat) ∧ Bx wr w.heap.size #[.int .i16 s, .int .i16 z, .int .i16 p] 42 ∧ Bx wr (w.heap.size + 1) #[.int .u64 0, .int .u64 0] 50 ∧ Bx wr (w.heap.size + 1 + 1) #[.int .u64 (U (whLo s z a i)), .int .u64 (U (whHi s z a i))] 50 ∧ Keep w wr)
  case atStart => exact ⟨0, by omega, rfl, HX.out, HR.out, HM.out, (by ((repeat (first | (with_reducible assumption) | ((with_reducible refine Keep.setCell ?_ ?_ _); rotate_left; focus (first | omega | (simp; done) | (simp; omega))) | (with_reducible refine Keep.alloc ?_ _) | (with_reducible refine Keep.drewN ?_ _) | (with_reducible refine Keep.drew ?_) | (with_reducible exact Keep.refl _) | refine Keep.trans ?_ (by with_reducible assumption) | exact Keep.refl _ | assumption))))⟩
  case round =>
    obtain ⟨i, hi, rfl, hX, hR, hM, hk0⟩ := hrel
    have HLo := Aside.mk (whLo_succ s z a i)
    have HHi := Aside.mk (whHi_succ s z a i)
    have qq := wh_eq (i := i) ha s0 z0 hz
    have hr := wh_range s0 z0 hz a i
    have hne := impl_nextChance (it i a)
    rw [← it_succ] at hne
    generalize hx : it (i + 1) a = x at hne qq
    have HI := Aside.mk hx
    clear hx
    generalize wh s z a i = h at *
    by_cases hlt : i < T
    · have hc := hT.2 i hlt
      unfold cnt at hc
      rw [Int.natCast_add] at hc
      generalize whLo s z a i = lo at *
      generalize whHi s z a i = hi' at *
      go_wp2_with fail
      refine wp_region_keep (by kernel_rfl) (by kernel_rfl) ?_
      repeat
        first
          | (apply QuietL.run
             focus go_simp
             focus
               intro w2 hk
               obtain ⟨hX_0, hX_1, hX_2, hX_3, hX_4, hX_5, hX_6⟩ := (hX.keep hk).three
               obtain ⟨hM_0, hM_1, hM_2, hM_3, hM_4⟩ := (hM.keep hk).two
               apply QAt.mk
               go_simp
               first
                 | done
                 | exact rfl
                 | (go_at_call 33; exact quiet_call hk (impl_CountHoles _ _ _))
             simp only [Act.put, List.setIfInBounds_toArray, List.set_cons_succ, List.set_cons_zero])
          | (apply QuietL.skip
             focus go_simp
             simp only [Act.put, List.setIfInBounds_toArray, List.set_cons_succ, List.set_cons_zero])
      apply QuietL.nil
      intro w2 hk
      have hX := hX.keep hk
      obtain ⟨hX_0, hX_1, hX_2, hX_3, hX_4, hX_5, hX_6⟩ := hX.three
      have hM := hM.keep hk
      obtain ⟨hM_0, hM_1, hM_2, hM_3, hM_4⟩ := hM.two
      have hR2 := hR.keep hk
      have k2 : Keep w w2 := (by ((repeat (first | (with_reducible assumption) | ((with_reducible refine Keep.setCell ?_ ?_ _); rotate_left; focus (first | omega | (simp; done) | (simp; omega))) | (with_reducible refine Keep.alloc ?_ _) | (with_reducible refine Keep.drewN ?_ _) | (with_reducible refine Keep.drew ?_) | (with_reducible exact Keep.refl _) | refine Keep.trans ?_ (by with_reducible assumption) | exact Keep.refl _ | assumption))))
      clear hR hk hk0
      (go_wp2_with fail); (go_at_call 87); (refine (hne _).mono ?_); rintro e w3 ⟨rfl, hk3⟩
      have hX3 := hX.keep hk3
      have hR3 := hR2.keep hk3
      have hM3 := hM.keep hk3
      have k3 : Keep w w3 := (by ((repeat (first | (with_reducible assumption) | ((with_reducible refine Keep.setCell ?_ ?_ _); rotate_left; focus (first | omega | (simp; done) | (simp; omega))) | (with_reducible refine Keep.alloc ?_ _) | (with_reducible refine Keep.drewN ?_ _) | (with_reducible refine Keep.drew ?_) | (with_reducible exact Keep.refl _) | refine Keep.trans ?_ (by with_reducible assumption) | exact Keep.refl _ | assumption))))
      clear hX hR2 hM hk3 k2 hX_0 hX_1 hX_2 hX_3 hX_4 hX_5 hX_6 hM_0 hM_1 hM_2 hM_3 hM_4 hne
      go_wp2_with fail
      apply wp_region_mono 14 [Fx _, Fx _, Fx _, Fx _, Fx _, Fx _, Fx _, Fx _, Fx _, Fx _, Fx _, Fx (.int .i64 h), Sl w3.heap.size 1 #[.int .i64 h] 2, Fx _] (by kernel_rfl) (by kernel_rfl) (mono_of ⟨Fx.mono _, Fx.mono _, Fx.mono _, Fx.mono _, Fx.mono _, Fx.mono _, Fx.mono _, Fx.mono _, Fx.mono _, Fx.mono _, Fx.mono _, Fx.mono _, Sl.mono _ _ _ _, Fx.mono _, trivial⟩) ?st3 ?tl3
      case st3 =>
        simp only [List.take_succ_cons, List.take_zero, List.drop_succ_cons, List.drop_zero, putAll, Act.put, List.setIfInBounds_toArray, List.set_cons_succ, List.set_cons_zero, Nat.zero_add, Nat.reduceAdd]
        refine steps_cons ?_ (steps_cons ?_ (steps_cons ?_ (steps_cons ?_ (steps_cons ?_ (steps_cons ?_ (steps_cons ?_ (steps_cons ?_ (steps_cons ?_ (steps_cons ?_ (steps_cons ?_ (steps_cons ?_ (steps_cons ?_ (steps_cons ?_ steps_nil)))))))))))))
        all_goals
          intro v w2 hk hd
          obtain ⟨hX3_0, hX3_1, hX3_2, hX3_3, hX3_4, hX3_5, hX3_6⟩ := (hX3.keep hk).three
          obtain ⟨hR3_0, hR3_1, hR3_2, hR3_3, hR3_4⟩ := (hR3.keep hk).two
          obtain ⟨hM3_0, hM3_1, hM3_2, hM3_3, hM3_4⟩ := (hM3.keep hk).two
          have hkz := hk.size
          simp [DepsOf, factAt, Fx, Region.binds] at hd
          simp only [factAt, List.getD_cons_zero, List.getD_cons_succ]
          refine Gives.mk ?_
          go_simp
          first | exact ⟨Keep.refl _, Fx.self _ _⟩ | exact ⟨(Keep.refl _).alloc _, _, rfl, Bx.new _ _ _, by first | omega | (simp; omega)⟩ | ((rw [if_neg (by omega)]; exact ⟨Keep.refl _, Fx.self _ _⟩)) | ((rw [qq]; exact ⟨Keep.refl _, Fx.self _ _⟩)) | ((obtain ⟨e0, g, e3, hB, _⟩ := hd; rw [e3]; exact gives_fx (impl_with1 _ _ _ _ _ _ (by omega) (by omega) hB.one.1)))
      simp only [List.take_succ_cons, List.take_zero, List.drop_succ_cons, List.drop_zero, putAll, Act.put, List.setIfInBounds_toArray, List.set_cons_succ, List.set_cons_zero, Nat.zero_add, Nat.reduceAdd]
      intro v w2 hk hh
      obtain ⟨hX3_0, hX3_1, hX3_2, hX3_3, hX3_4, hX3_5, hX3_6⟩ := (hX3.keep hk).three
      obtain ⟨hR3_0, hR3_1, hR3_2, hR3_3, hR3_4⟩ := (hR3.keep hk).two
      obtain ⟨hM3_0, hM3_1, hM3_2, hM3_3, hM3_4⟩ := (hM3.keep hk).two
      have hkz := hk.size
      simp only [Held, factAt, List.getD_cons_zero, List.getD_cons_succ, Fx, true_and] at hh
      obtain ⟨⟨⟨⟨⟨⟨⟨⟨⟨⟨⟨⟨⟨v_0, v_1⟩, v_2⟩, v_3⟩, v_4⟩, v_5⟩, v_6⟩, v_7⟩, v_8⟩, v_9⟩, v_10⟩, v_11⟩, g12, v_12, hG12, hg12⟩, v_13⟩ := hh
      simp only [v_0, v_1, v_2, v_3, v_4, v_5, v_6, v_7, v_8, v_9, v_10, v_11, v_12, v_13]
      have v0 := Aside.mk (((hX3.keep hk).set' (a := ⟨w.heap.size + 1 + 1, 0, none⟩) (by simp; try omega) (.int .u64 (U (lo ||| bitLo h)))).set' (a := ⟨w.heap.size + 1 + 1, 1, none⟩) (by simp; try omega) (.int .u64 (U (hi' ||| bitHi h))))
      have v1 := Aside.mk (((hR3.keep hk).set' (a := ⟨w.heap.size + 1 + 1, 0, none⟩) (by simp; try omega) (.int .u64 (U (lo ||| bitLo h)))).set' (a := ⟨w.heap.size + 1 + 1, 1, none⟩) (by simp; try omega) (.int .u64 (U (hi' ||| bitHi h))))
      have v2 : Aside (Bx ((w2.setCell ⟨w.heap.size + 1 + 1, 0, none⟩ (.int .u64 (U (lo ||| bitLo h)))).setCell ⟨w.heap.size + 1 + 1, 1, none⟩ (.int .u64 (U (hi' ||| bitHi h)))) (w.heap.size + 1 + 1) #[.int .u64 (U (lo ||| bitLo h)), .int .u64 (U (hi' ||| bitHi h))] 50) := Aside.mk (((hM3.keep hk).set (i := 0) _).set (i := 1) _)
      clear hX3 hR3 hM3 hG12
      go_wp2
      go_roundg (T - (i + 1))
      case measure => omega
      case rel => exact ⟨i + 1, by omega, by rw [HI.out], v0.out, v1.out, by rw [HLo.out, HHi.out]; exact v2.out, (by ((repeat (first | (with_reducible assumption) | ((with_reducible refine Keep.setCell ?_ ?_ _); rotate_left; focus (first | omega | (simp; done) | (simp; omega))) | (with_reducible refine Keep.alloc ?_ _) | (with_reducible refine Keep.drewN ?_ _) | (with_reducible refine Keep.drew ?_) | (with_reducible exact Keep.refl _) | refine Keep.trans ?_ (by with_reducible assumption) | exact Keep.refl _ | assumption))))⟩
    · obtain rfl : i = T := by omega
      have hc := hT.1
      unfold cnt at hc
      rw [Int.natCast_add] at hc
      clear HLo HHi hne qq
      obtain ⟨lo, hlo⟩ : ∃ x, whLo s z a i = x := ⟨_, rfl⟩
      obtain ⟨hi', hhi⟩ : ∃ x, whHi s z a i = x := ⟨_, rfl⟩
      rw [hlo] at hM hc
      rw [hhi] at hM hc
      have HL := Aside.mk hlo
      have HH := Aside.mk hhi
      clear hlo hhi
      go_wp2_with fail
      refine wp_region_keep (by kernel_rfl) (by kernel_rfl) ?_
      repeat
        first
          | (apply QuietL.run
             focus go_simp
             focus
               intro w2 hk
               obtain ⟨hX_0, hX_1, hX_2, hX_3, hX_4, hX_5, hX_6⟩ := (hX.keep hk).three
               obtain ⟨hR_0, hR_1, hR_2, hR_3, hR_4⟩ := (hR.keep hk).two
               obtain ⟨hM_0, hM_1, hM_2, hM_3, hM_4⟩ := (hM.keep hk).two
               apply QAt.mk
               go_simp
               first
                 | done
                 | exact rfl
                 | (go_at_call 33; exact quiet_call hk (impl_CountHoles _ _ _))
             simp only [Act.put, List.setIfInBounds_toArray, List.set_cons_succ, List.set_cons_zero])
          | (apply QuietL.skip
             focus go_simp
             simp only [Act.put, List.setIfInBounds_toArray, List.set_cons_succ, List.set_cons_zero])
      apply QuietL.nil
      intro w2 hk
      have hX := hX.keep hk
      obtain ⟨hX_0, hX_1, hX_2, hX_3, hX_4, hX_5, hX_6⟩ := hX.three
      have hR := hR.keep hk
      obtain ⟨hR_0, hR_1, hR_2, hR_3, hR_4⟩ := hR.two
      have hM := hM.keep hk
      obtain ⟨hM_0, hM_1, hM_2, hM_3, hM_4⟩ := hM.two
      have hlo2 : ¬ ((pc lo : Int) + (pc hi' : Int) < p) := by omega
      clear HI hT hr hc hi hlt hck
      go_wp2
      (apply bodyPost_ret; rotate_left; rfl; exact ⟨rfl, (by ((repeat (first | (with_reducible assumption) | ((with_reducible refine Keep.setCell ?_ ?_ _); rotate_left; focus (first | omega | (simp; done) | (simp; omega))) | (with_reducible refine Keep.alloc ?_ _) | (with_reducible refine Keep.drewN ?_ _) | (with_reducible refine Keep.drew ?_) | (with_reducible exact Keep.refl _) | refine Keep.trans ?_ (by with_reducible assumption) | exact Keep.refl _ | assumption))))⟩; simp [results, Tryd.results55, go_sem, U_zero, *])
      exact ⟨by rw [HL.out], by rw [HH.out]⟩
theorem wh_eq2 {s z : Int} {a i : Nat} (ha : a < 4294967296) (s0 : 0 ≤ s) (z0 : 1 ≤ z) (h : s + z ≤ 96) :
    IntKind.i64.wrap (s + (IntKind.i64.wrap (((it (i + 1) a : Nat) : Int) / 65536)).tmod z) = wh s z a i := by
  have hx := it_lt (n := i + 1) ha
  have := wh_eq (s := s) (z := z) (a := a) (i := i) ha s0 z0 h
  have e1 : IntKind.u32.wrap (((it (i + 1) a : Nat) : Int) / 65536) = ((it (i + 1) a : Nat) : Int) / 65536 := by rw [wrapU32]; omega
  rw [e1] at this
  exact this
theorem spec_l03Holes (s z p : Int) (word : ByteArray) (T g o : Nat) (w : World) (hs : word.size ≤ 9223372036854775807) (s0 : 0 ≤ s) (z0 : 1 ≤ z) (hz : s + z ≤ 96) (hp : 0 ≤ p ∧ p ≤ 96) (hT : Lst s z p (chk word.data.toList) T)
    (c0 : w.cell? ⟨g, o, none⟩ = some (.int .i16 s)) (c1 : w.cell? ⟨g, o + 1, none⟩ = some (.int .i16 z)) (c2 : w.cell? ⟨g, o + 2, none⟩ = some (.int .i16 p)) :
    Calls Tryd.prog 53 #[.pointer (some ⟨g, o, none⟩), .string word] w fun e w' => e = .returned (.agg #[.int .u64 (U (whLo s z (chk word.data.toList) T)), .int .u64 (U (whHi s z (chk word.data.toList) T))]) ∧ Keep w w' := by
  have ha := chk_lt word.data.toList
  have hck := fun W => spec_l03Check word W hs
  generalize chk word.data.toList = a at *
  have es : IntKind.i64.wrap s = s := wrapI64 ⟨by omega, by omega⟩
  have ez : IntKind.i64.wrap z = z := wrapI64 ⟨by omega, by omega⟩
  have ep : IntKind.i64.wrap p = p := wrapI64 ⟨by omega, by omega⟩
  go_enter Tryd.func53, Tryd.ntmps53
  (go_wp2_with fail); (go_at_call 71); (refine (hck _).mono ?_); rintro e w1 ⟨rfl, hk1⟩
  have z1 : w.heap.size < w1.heap.size := by have := hk1.size; simp at this; omega
  have HR := Aside.mk (((Bx.new w #[.int .u64 0, .int .u64 0] 50).keep hk1).alloc (Obj.cells #[.int .u64 0, .int .u64 0] 50))
  have HM := Aside.mk (Bx.new w1 #[.int .u64 0, .int .u64 0] 50)
  have k1 : Keep w w1 := (by ((repeat (first | (with_reducible assumption) | ((with_reducible refine Keep.setCell ?_ ?_ _); rotate_left; focus (first | omega | (simp; done) | (simp; omega))) | (with_reducible refine Keep.alloc ?_ _) | (with_reducible refine Keep.drewN ?_ _) | (with_reducible refine Keep.drew ?_) | (with_reducible exact Keep.refl _) | refine Keep.trans ?_ (by with_reducible assumption) | exact Keep.refl _ | assumption))))
  clear hk1
  go_wp2_with fail
  go_loopg [5] T (fun k s5 wr => ∃ i : Nat, i + k = T ∧ s5 = .int .u32 (it i a : Nat) ∧ Bx wr w.heap.size #[.int .u64 0, .int .u64 0] 50 ∧ Bx wr w1.heap.size #[.int .u64 (U (whLo s z a i)), .int .u64 (U (whHi s z a i))] 50 ∧ Keep w wr)
  case atStart => exact ⟨0, by omega, rfl, HR.out, HM.out, (by ((repeat (first | (with_reducible assumption) | ((with_reducible refine Keep.setCell ?_ ?_ _); rotate_left; focus (first | omega | (simp; done) | (simp; omega))) | (with_reducible refine Keep.alloc ?_ _) | (with_reducible refine Keep.drewN ?_ _) | (with_reducible refine Keep.drew ?_) | (with_reducible exact Keep.refl _) | refine Keep.trans ?_ (by with_reducible assumption) | exact Keep.refl _ | assumption))))⟩
  case round =>
    obtain ⟨i, hi, rfl, hR, hM, hk0⟩ := hrel
    have HLo := Aside.mk (whLo_succ s z a i)
    have HHi := Aside.mk (whHi_succ s z a i)
    have qq := wh_eq2 (i := i) ha s0 z0 hz
    have hr := wh_range s0 z0 hz a i
    have hne : (1664525 * ((it i a : Nat) : Int) + 1013904223) % 4294967296 = ((it (i + 1) a : Nat) : Int) := by rw [it_succ]; unfold nx; omega
    have hx0 := it_lt (n := i + 1) ha
    generalize hx : it (i + 1) a = x at hne qq hx0
    have HI := Aside.mk hx
    clear hx
    generalize wh s z a i = h at *
    have d0 := hk0.cell c0
    have d1 := hk0.cell c1
    have d2 := hk0.cell c2
    by_cases hlt : i < T
    · have hc := hT.2 i hlt
      unfold cnt at hc
      rw [Int.natCast_add] at hc
      generalize whLo s z a i = lo at *
      generalize whHi s z a i = hi' at *
      go_wp2_with fail
      refine wp_region_keep (by kernel_rfl) (by kernel_rfl) ?_
      repeat
        first
          | (apply QuietL.run
             focus go_simp
             focus
               intro w2 hk
               have d0' := hk.cell d0
               have d1' := hk.cell d1
               have d2' := hk.cell d2
               obtain ⟨hR_0, hR_1, hR_2, hR_3, hR_4⟩ := (hR.keep hk).two
               obtain ⟨hM_0, hM_1, hM_2, hM_3, hM_4⟩ := (hM.keep hk).two
               apply QAt.mk
               go_simp
               first
                 | done
                 | exact rfl
                 | (go_at_call 44; exact quiet_call hk (spec_CountHoles _ _ _))
             simp only [Act.put, List.setIfInBounds_toArray, List.set_cons_succ, List.set_cons_zero])
          | (apply QuietL.skip
             focus go_simp
             simp only [Act.put, List.setIfInBounds_toArray, List.set_cons_succ, List.set_cons_zero])
      apply QuietL.nil
      intro w2 hk
      have d0' := hk.cell d0
      have d1' := hk.cell d1
      have d2' := hk.cell d2
      have hR := hR.keep hk
      obtain ⟨hR_0, hR_1, hR_2, hR_3, hR_4⟩ := hR.two
      have hM := hM.keep hk
      obtain ⟨hM_0, hM_1, hM_2, hM_3, hM_4⟩ := hM.two
      go_wp2_with fail
      have hR2 := hR
      have hM2 := hM
      have k2 : Keep w w2 := (by ((repeat (first | (with_reducible assumption) | ((with_reducible refine Keep.setCell ?_ ?_ _); rotate_left; focus (first | omega | (simp; done) | (simp; omega))) | (with_reducible refine Keep.alloc ?_ _) | (with_reducible refine Keep.drewN ?_ _) | (with_reducible refine Keep.drew ?_) | (with_reducible exact Keep.refl _) | refine Keep.trans ?_ (by with_reducible assumption) | exact Keep.refl _ | assumption))))
      clear hR_0 hR_1 hR_2 hR_3 hR_4 hM_0 hM_1 hM_2 hM_3 hM_4 hk hk0 d0 d1 d2
      apply wp_region_mono 15 [Fx _, Fx _, Fx _, Fx _, Fx _, Fx _, Fx _, Fx _, Fx _, Fx _, Fx _, Fx _, Fx _, Fx _, Fx (.int .i64 h)] (by kernel_rfl) (by kernel_rfl) (mono_of ⟨Fx.mono _, Fx.mono _, Fx.mono _, Fx.mono _, Fx.mono _, Fx.mono _, Fx.mono _, Fx.mono _, Fx.mono _, Fx.mono _, Fx.mono _, Fx.mono _, Fx.mono _, Fx.mono _, Fx.mono _, trivial⟩) ?st4 ?tl4
      case st4 =>
        simp only [List.take_succ_cons, List.take_zero, List.drop_succ_cons, List.drop_zero, putAll, Act.put, List.setIfInBounds_toArray, List.set_cons_succ, List.set_cons_zero, Nat.zero_add, Nat.reduceAdd]
        refine steps_cons ?_ (steps_cons ?_ (steps_cons ?_ (steps_cons ?_ (steps_cons ?_ (steps_cons ?_ (steps_cons ?_ (steps_cons ?_ (steps_cons ?_ (steps_cons ?_ (steps_cons ?_ (steps_cons ?_ (steps_cons ?_ (steps_cons ?_ (steps_cons ?_ steps_nil))))))))))))))
        all_goals
          intro v w2 hk hd
          have d0'' := hk.cell d0'
          have d1'' := hk.cell d1'
          have d2'' := hk.cell d2'
          have hkz := hk.size
          simp [DepsOf, factAt, Fx, Region.binds] at hd
          simp only [factAt, List.getD_cons_zero, List.getD_cons_succ]
          refine Gives.mk ?_
          go_simp
          first | exact ⟨Keep.refl _, Fx.self _ _⟩ | exact ⟨(Keep.refl _).alloc _, _, rfl, Bx.new _ _ _, by first | omega | (simp; omega)⟩ | ((rw [if_neg (by omega)]; exact ⟨Keep.refl _, Fx.self _ _⟩)) | ((rw [qq]; exact ⟨Keep.refl _, Fx.self _ _⟩))
      simp only [List.take_succ_cons, List.take_zero, List.drop_succ_cons, List.drop_zero, putAll, Act.put, List.setIfInBounds_toArray, List.set_cons_succ, List.set_cons_zero, Nat.zero_add, Nat.reduceAdd]
      intro v w2 hk hh
      have d0'' := hk.cell d0'
      have d1'' := hk.cell d1'
      have d2'' := hk.cell d2'
      have hkz := hk.size
      simp only [Held, factAt, List.getD_cons_zero, List.getD_cons_succ, Fx, true_and] at hh
      obtain ⟨⟨⟨⟨⟨⟨⟨⟨⟨⟨⟨⟨⟨⟨v_0, v_1⟩, v_2⟩, v_3⟩, v_4⟩, v_5⟩, v_6⟩, v_7⟩, v_8⟩, v_9⟩, v_10⟩, v_11⟩, v_12⟩, v_13⟩, v_14⟩ := hh
      simp only [v_0, v_1, v_2, v_3, v_4, v_5, v_6, v_7, v_8, v_9, v_10, v_11, v_12, v_13, v_14]
      (go_wp2_with fail); (go_at_call 86)
      refine (spec_l03Put h _ _ _ _ (by omega) (by omega) (hM2.keep hk)).mono ?_
      rintro e w4 ⟨rfl, hg, hM4⟩
      have hR4 := Aside.mk ((hR2.keep hk).grown hg (by omega))
      have k4 : Keep w w4 := (Keep.trans k2 hk).grown hg (by rintro k hkk; cases hkk; omega)
      have hM5 := Aside.mk hM4
      clear hM4 hR2 hM2 k2 hg hk
      go_wp2
      go_roundg (T - (i + 1))
      case measure => omega
      case rel => exact ⟨i + 1, by omega, by rw [HI.out], hR4.out, by rw [HLo.out, HHi.out]; exact hM5.out, (by ((repeat (first | (with_reducible assumption) | ((with_reducible refine Keep.setCell ?_ ?_ _); rotate_left; focus (first | omega | (simp; done) | (simp; omega))) | (with_reducible refine Keep.alloc ?_ _) | (with_reducible refine Keep.drewN ?_ _) | (with_reducible refine Keep.drew ?_) | (with_reducible exact Keep.refl _) | refine Keep.trans ?_ (by with_reducible assumption) | exact Keep.refl _ | assumption))))⟩
    · obtain rfl : i = T := by omega
      have hc := hT.1
      unfold cnt at hc
      rw [Int.natCast_add] at hc
      clear HLo HHi hne qq
      obtain ⟨lo, hlo⟩ : ∃ x, whLo s z a i = x := ⟨_, rfl⟩
      obtain ⟨hi', hhi⟩ : ∃ x, whHi s z a i = x := ⟨_, rfl⟩
      rw [hlo] at hM hc
      rw [hhi] at hM hc
      have HL := Aside.mk hlo
      have HH := Aside.mk hhi
      clear hlo hhi
      go_wp2_with fail
      refine wp_region_keep (by kernel_rfl) (by kernel_rfl) ?_
      repeat
        first
          | (apply QuietL.run
             focus go_simp
             focus
               intro w2 hk
               have d0' := hk.cell d0
               have d1' := hk.cell d1
               have d2' := hk.cell d2
               obtain ⟨hR_0, hR_1, hR_2, hR_3, hR_4⟩ := (hR.keep hk).two
               obtain ⟨hM_0, hM_1, hM_2, hM_3, hM_4⟩ := (hM.keep hk).two
               apply QAt.mk
               go_simp
               first
                 | done
                 | exact rfl
                 | (go_at_call 44; exact quiet_call hk (spec_CountHoles _ _ _))
             simp only [Act.put, List.setIfInBounds_toArray, List.set_cons_succ, List.set_cons_zero])
          | (apply QuietL.skip
             focus go_simp
             simp only [Act.put, List.setIfInBounds_toArray, List.set_cons_succ, List.set_cons_zero])
      apply QuietL.nil
      intro w2 hk
      have d0' := hk.cell d0
      have d1' := hk.cell d1
      have d2' := hk.cell d2
      have hR := hR.keep hk
      obtain ⟨hR_0, hR_1, hR_2, hR_3, hR_4⟩ := hR.two
      have hM := hM.keep hk
      obtain ⟨hM_0, hM_1, hM_2, hM_3, hM_4⟩ := hM.two
      have hlo2 : ¬ ((pc lo : Int) + (pc hi' : Int) < p) := by omega
      clear HI hT hr hc hi hlt hck hx0
      go_wp2
      (apply bodyPost_ret; rotate_left; rfl; exact ⟨rfl, (by ((repeat (first | (with_reducible assumption) | ((with_reducible refine Keep.setCell ?_ ?_ _); rotate_left; focus (first | omega | (simp; done) | (simp; omega))) | (with_reducible refine Keep.alloc ?_ _) | (with_reducible refine Keep.drewN ?_ _) | (with_reducible refine Keep.drew ?_) | (with_reducible exact Keep.refl _) | refine Keep.trans ?_ (by with_reducible assumption) | exact Keep.refl _ | assumption))))⟩; simp [results, Tryd.results53, go_sem, U_zero, *])
      exact ⟨by rw [HL.out], by rw [HH.out]⟩
end Go.Proofs.YtbbnhbfofdhnbaaDoor

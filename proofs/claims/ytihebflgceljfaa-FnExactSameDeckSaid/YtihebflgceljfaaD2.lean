/- Are two decks the same: the walks. -/
import Derived.Test.YtihebflgceljfaaD1
import Derived.Test.YtihebflgceljfaaEQ
import Derived.Test.YtihebflgceljfaaMono
import Derived.Test.YtihebflgceljfaaAu
set_option linter.unusedVariables false
set_option linter.unusedSimpArgs false
namespace Go.Proofs.Ytihebflgceljfaa
open Go.RowKit
set_option maxHeartbeats 1000000
set_option maxRecDepth 20000
theorem take_eq_succ {l m : List Cd} {i : Nat} (h1 : i < l.length) (h2 : i < m.length) (h : l.take i = m.take i) : (l.take (i + 1) = m.take (i + 1) ↔ l[i] = m[i]) := by
  rw [List.take_succ_eq_append_getElem h1, List.take_succ_eq_append_getElem h2, h, List.append_cancel_left_eq]; simp
theorem ne_at {l m : List Cd} {i : Nat} (h1 : i < l.length) (h2 : i < m.length) (h : l[i] ≠ m[i]) : decide (l = m) = false := by
  apply decide_eq_false
  rintro rfl
  exact h rfl
/-- Are two cards the same. -/
def sameC (x y : Cd) : Bool := decide (x = y)
theorem cmp_card (w2 : World) (xs ys : ByteArray) (xa xb ya yb : Wd) : givesUpon Try.prog (fun u w' => Keep w2 w' ∧ Fx (.bool (!sameC (Cd.mk xs xa xb) (Cd.mk ys ya yb))) u w')
    (if xs.toList = ys.toList then
      (((Sem.run Try.prog (Op.equalIn 9999 45 (.agg #[.int .u64 (U xa), .int .u64 (U xb)]) (.agg #[.int .u64 (U ya), .int .u64 (U yb)])) w2).andThen fun a w' => if a = false then Result.ok false w' else Result.ok true w').andThen fun b w' => Result.ok (Value.bool !b) w').andThen fun a w' => Result.ok (Next.value a) w'
    else Result.ok (Next.value (Value.bool true)) w2) := by
  have hs' : xs.toList = ys.toList ↔ xs = ys := by
    constructor
    · intro h
      rw [ByteArray.toList_eq, ByteArray.toList_eq] at h
      cases xs; cases ys; simp at h; rw [h]
    · rintro rfl; rfl
  have key : decide (Cd.mk xs xa xb = Cd.mk ys ya yb) = (decide (xs.toList = ys.toList) && (xa == ya && xb == yb)) := by
    rw [Bool.eq_iff_iff]; simp [hs']
  unfold sameC
  rw [key, equal_mask]
  by_cases hs : xs.toList = ys.toList
  · cases hm : (xa == ya && xb == yb) <;> simp [hs, givesUpon, Result.andThen, Fx, Keep.refl]
  · simp [hs, givesUpon, Fx, Keep.refl]
theorem spec_l02Same (A B : Option Addr) (l m : List Cd) (c d : Nat) (w : World) (hl : l.length ≤ 9223372036854775807) (hm : m.length ≤ 9223372036854775807) (hR : Rd w A (cds l)) (hS : Rd w B (cds m)) :
    Calls Try.prog 46 #[.slice A l.length c, .slice B m.length d] w fun e w' => e = .returned (.bool (decide (l = m))) ∧ Keep w w' := by
  by_cases hne : l.length = m.length
  · have HN := Aside.mk hne
    have hne' : (l.length : Int) = m.length := by omega
    clear hne
    go_enter Try.func46, Try.ntmps46
    go_wp2_with fail
    go_loopg [5] l.length (fun k s5 wr => ∃ i : Nat, i + k = l.length ∧ s5 = .int .i64 i ∧ l.take i = m.take i ∧ Keep w wr)
    case atStart => exact ⟨0, by omega, rfl, rfl, (by ((repeat (first | (with_reducible assumption) | ((with_reducible refine Keep.setCell ?_ ?_ _); rotate_left; focus (first | omega | (simp; done) | (simp; omega))) | (with_reducible refine Keep.alloc ?_ _) | (with_reducible refine Keep.drewN ?_ _) | (with_reducible refine Keep.drew ?_) | (with_reducible exact Keep.refl _) | refine Keep.trans ?_ (by with_reducible assumption) | exact Keep.refl _ | assumption))))⟩
    case round =>
      obtain ⟨i, hi, rfl, htk, hk0⟩ := hrel
      have HT := Aside.mk htk
      clear htk
      by_cases hlt : i < l.length
      · have hlt2 : i < m.length := by have := HN.out; omega
        obtain ⟨bb, o, rfl, hc⟩ := (hR.keep hk0).at (k := i) (by rw [cds_len]; omega)
        obtain ⟨b2, o2, rfl, hc2⟩ := (hS.keep hk0).at (k := i) (by rw [cds_len]; omega)
        obtain ⟨r1, r2, r3⟩ := cds_at l i hlt
        obtain ⟨t1, t2, t3⟩ := cds_at m i hlt2
        have p1 := hc _ _ r1
        have p2 := hc _ _ r2
        have p3 := hc _ _ r3
        have q1 := hc2 _ _ t1
        have q2 := hc2 _ _ t2
        have q3 := hc2 _ _ t3
        rw [← Nat.add_assoc] at p2 p3 q2 q3
        have HQ := Aside.mk (fun h => ne_at hlt hlt2 h)
        have HE := Aside.mk (take_eq_succ hlt hlt2 HT.out)
        clear hc hc2 r1 r2 r3 t1 t2 t3
        generalize l[i] = x at *
        generalize m[i] = y at *
        obtain ⟨xs, xa, xb⟩ := x
        obtain ⟨ys, ya, yb⟩ := y
        simp only at p1 p2 p3 q1 q2 q3
        go_wp2_with fail
        apply wp_region_mono 9 [Fx _, Fx _, Fx _, Fx _, Fx _, Fx _, Fx _, Fx _, Fx (.bool (!sameC (Cd.mk xs xa xb) (Cd.mk ys ya yb)))] (by kernel_rfl) (by kernel_rfl) (mono_of ⟨Fx.mono _, Fx.mono _, Fx.mono _, Fx.mono _, Fx.mono _, Fx.mono _, Fx.mono _, Fx.mono _, Fx.mono _, trivial⟩) ?st1 ?tl1
        case st1 =>
          simp only [List.take_succ_cons, List.take_zero, List.drop_succ_cons, List.drop_zero, putAll, Act.put, List.setIfInBounds_toArray, List.set_cons_succ, List.set_cons_zero, Nat.zero_add, Nat.reduceAdd]
          refine steps_cons ?_ (steps_cons ?_ (steps_cons ?_ (steps_cons ?_ (steps_cons ?_ (steps_cons ?_ (steps_cons ?_ (steps_cons ?_ (steps_cons ?_ steps_nil))))))))
          all_goals
            intro v w2 hk hd
            have p1' := hk.cell p1
            have p2' := hk.cell p2
            have p3' := hk.cell p3
            have q1' := hk.cell q1
            have q2' := hk.cell q2
            have q3' := hk.cell q3
            have hkz := hk.size
            simp [DepsOf, factAt, Fx, Region.binds] at hd
            simp only [factAt, List.getD_cons_zero, List.getD_cons_succ]
            refine Gives.mk ?_
            go_simp
            first | exact ⟨Keep.refl _, Fx.self _ _⟩ | exact ⟨(Keep.refl _).alloc _, _, rfl, Bx.new _ _ _, by first | omega | (simp; omega)⟩ | (exact cmp_card _ _ _ _ _ _ _)
        simp only [List.take_succ_cons, List.take_zero, List.drop_succ_cons, List.drop_zero, putAll, Act.put, List.setIfInBounds_toArray, List.set_cons_succ, List.set_cons_zero, Nat.zero_add, Nat.reduceAdd]
        intro v w2 hk hh
        have p1' := hk.cell p1
        have p2' := hk.cell p2
        have p3' := hk.cell p3
        have q1' := hk.cell q1
        have q2' := hk.cell q2
        have q3' := hk.cell q3
        have hkz := hk.size
        simp only [Held, factAt, List.getD_cons_zero, List.getD_cons_succ, Fx, true_and] at hh
        obtain ⟨⟨⟨⟨⟨⟨⟨⟨v_0, v_1⟩, v_2⟩, v_3⟩, v_4⟩, v_5⟩, v_6⟩, v_7⟩, v_8⟩ := hh
        simp only [v_0, v_1, v_2, v_3, v_4, v_5, v_6, v_7, v_8]
        have k2 : Keep w w2 := Keep.trans hk0 hk
        by_cases hxy : Cd.mk xs xa xb = Cd.mk ys ya yb
        · have HE2 := Aside.mk (HE.out.2 hxy)
          have hd : sameC (Cd.mk xs xa xb) (Cd.mk ys ya yb) = true := decide_eq_true hxy
          rw [hd]
          clear hd hxy p1 p2 p3 q1 q2 q3 p1' p2' p3' q1' q2' q3' hk hk0
          go_wp2
          go_roundg (l.length - (i + 1))
          case measure => omega
          case rel => exact ⟨i + 1, by omega, by go_num, HE2.out, (by ((repeat (first | (with_reducible assumption) | ((with_reducible refine Keep.setCell ?_ ?_ _); rotate_left; focus (first | omega | (simp; done) | (simp; omega))) | (with_reducible refine Keep.alloc ?_ _) | (with_reducible refine Keep.drewN ?_ _) | (with_reducible refine Keep.drew ?_) | (with_reducible exact Keep.refl _) | refine Keep.trans ?_ (by with_reducible assumption) | exact Keep.refl _ | assumption))))⟩
        · have HF := Aside.mk (HQ.out hxy)
          have hd : sameC (Cd.mk xs xa xb) (Cd.mk ys ya yb) = false := decide_eq_false hxy
          rw [hd]
          clear hd hxy p1 p2 p3 q1 q2 q3 p1' p2' p3' q1' q2' q3' hk hk0
          go_wp2
          go_ret; exact ⟨rb HF.out.symm, (by ((repeat (first | (with_reducible assumption) | ((with_reducible refine Keep.setCell ?_ ?_ _); rotate_left; focus (first | omega | (simp; done) | (simp; omega))) | (with_reducible refine Keep.alloc ?_ _) | (with_reducible refine Keep.drewN ?_ _) | (with_reducible refine Keep.drew ?_) | (with_reducible exact Keep.refl _) | refine Keep.trans ?_ (by with_reducible assumption) | exact Keep.refl _ | assumption))))⟩
      · have e2 : i = l.length := by omega
        subst e2
        have hal : l = m := by have := HT.out; rwa [List.take_length, HN.out, List.take_length] at this
        have HA := Aside.mk (decide_eq_true hal)
        clear hal
        go_wp2
        go_ret; exact ⟨rb HA.out.symm, (by ((repeat (first | (with_reducible assumption) | ((with_reducible refine Keep.setCell ?_ ?_ _); rotate_left; focus (first | omega | (simp; done) | (simp; omega))) | (with_reducible refine Keep.alloc ?_ _) | (with_reducible refine Keep.drewN ?_ _) | (with_reducible refine Keep.drew ?_) | (with_reducible exact Keep.refl _) | refine Keep.trans ?_ (by with_reducible assumption) | exact Keep.refl _ | assumption))))⟩
  · have e : decide (l = m) = false := decide_eq_false (fun h => hne (by rw [h]))
    rw [e]
    go_enter Try.func46, Try.ntmps46
    go_wp2
    go_ret; exact ⟨rfl, (by ((repeat (first | (with_reducible assumption) | ((with_reducible refine Keep.setCell ?_ ?_ _); rotate_left; focus (first | omega | (simp; done) | (simp; omega))) | (with_reducible refine Keep.alloc ?_ _) | (with_reducible refine Keep.drewN ?_ _) | (with_reducible refine Keep.drew ?_) | (with_reducible exact Keep.refl _) | refine Keep.trans ?_ (by with_reducible assumption) | exact Keep.refl _ | assumption))))⟩
theorem slices_EqualC (A B : Option Addr) (l m : List Cd) (c d : Nat) (w : World) (hl : l.length ≤ 9223372036854775807) (hm : m.length ≤ 9223372036854775807) (hR : Rd w A (cds l)) (hS : Rd w B (cds m)) :
    Calls Try.prog 48 #[.slice A l.length c, .slice B m.length d] w fun e w' => e = .returned (.bool (decide (l = m))) ∧ Keep w w' := by
  by_cases hne : l.length = m.length
  · have HN := Aside.mk hne
    have hne' : (l.length : Int) = m.length := by omega
    clear hne
    go_enter Try.func48, Try.ntmps48
    go_wp2_with fail
    go_loopg [5, 13] l.length (fun k s5 s13 wr => ∃ i : Nat, i + k = l.length ∧ s13 = .int .i64 i ∧ l.take i = m.take i ∧ Keep w wr)
    case atStart => exact ⟨0, by omega, rfl, rfl, (by ((repeat (first | (with_reducible assumption) | ((with_reducible refine Keep.setCell ?_ ?_ _); rotate_left; focus (first | omega | (simp; done) | (simp; omega))) | (with_reducible refine Keep.alloc ?_ _) | (with_reducible refine Keep.drewN ?_ _) | (with_reducible refine Keep.drew ?_) | (with_reducible exact Keep.refl _) | refine Keep.trans ?_ (by with_reducible assumption) | exact Keep.refl _ | assumption))))⟩
    case round =>
      obtain ⟨i, hi, rfl, htk, hk0⟩ := hrel
      have HT := Aside.mk htk
      clear htk
      by_cases hlt : i < l.length
      · have hlt2 : i < m.length := by have := HN.out; omega
        obtain ⟨bb, o, rfl, hc⟩ := (hR.keep hk0).at (k := i) (by rw [cds_len]; omega)
        obtain ⟨b2, o2, rfl, hc2⟩ := (hS.keep hk0).at (k := i) (by rw [cds_len]; omega)
        obtain ⟨r1, r2, r3⟩ := cds_at l i hlt
        obtain ⟨t1, t2, t3⟩ := cds_at m i hlt2
        have p1 := hc _ _ r1
        have p2 := hc _ _ r2
        have p3 := hc _ _ r3
        have q1 := hc2 _ _ t1
        have q2 := hc2 _ _ t2
        have q3 := hc2 _ _ t3
        rw [← Nat.add_assoc] at p2 p3 q2 q3
        have HQ := Aside.mk (fun h => ne_at hlt hlt2 h)
        have HE := Aside.mk (take_eq_succ hlt hlt2 HT.out)
        clear hc hc2 r1 r2 r3 t1 t2 t3
        generalize l[i] = x at *
        generalize m[i] = y at *
        obtain ⟨xs, xa, xb⟩ := x
        obtain ⟨ys, ya, yb⟩ := y
        simp only at p1 p2 p3 q1 q2 q3
        go_wp2_with fail
        apply wp_region_mono 9 [Fx _, Fx _, Fx _, Fx _, Fx _, Fx _, Fx _, Fx _, Fx (.bool (!sameC (Cd.mk xs xa xb) (Cd.mk ys ya yb)))] (by kernel_rfl) (by kernel_rfl) (mono_of ⟨Fx.mono _, Fx.mono _, Fx.mono _, Fx.mono _, Fx.mono _, Fx.mono _, Fx.mono _, Fx.mono _, Fx.mono _, trivial⟩) ?st2 ?tl2
        case st2 =>
          simp only [List.take_succ_cons, List.take_zero, List.drop_succ_cons, List.drop_zero, putAll, Act.put, List.setIfInBounds_toArray, List.set_cons_succ, List.set_cons_zero, Nat.zero_add, Nat.reduceAdd]
          refine steps_cons ?_ (steps_cons ?_ (steps_cons ?_ (steps_cons ?_ (steps_cons ?_ (steps_cons ?_ (steps_cons ?_ (steps_cons ?_ (steps_cons ?_ steps_nil))))))))
          all_goals
            intro v w2 hk hd
            have p1' := hk.cell p1
            have p2' := hk.cell p2
            have p3' := hk.cell p3
            have q1' := hk.cell q1
            have q2' := hk.cell q2
            have q3' := hk.cell q3
            have hkz := hk.size
            simp [DepsOf, factAt, Fx, Region.binds] at hd
            simp only [factAt, List.getD_cons_zero, List.getD_cons_succ]
            refine Gives.mk ?_
            go_simp
            first | exact ⟨Keep.refl _, Fx.self _ _⟩ | exact ⟨(Keep.refl _).alloc _, _, rfl, Bx.new _ _ _, by first | omega | (simp; omega)⟩ | (exact cmp_card _ _ _ _ _ _ _)
        simp only [List.take_succ_cons, List.take_zero, List.drop_succ_cons, List.drop_zero, putAll, Act.put, List.setIfInBounds_toArray, List.set_cons_succ, List.set_cons_zero, Nat.zero_add, Nat.reduceAdd]
        intro v w2 hk hh
        have p1' := hk.cell p1
        have p2' := hk.cell p2
        have p3' := hk.cell p3
        have q1' := hk.cell q1
        have q2' := hk.cell q2
        have q3' := hk.cell q3
        have hkz := hk.size
        simp only [Held, factAt, List.getD_cons_zero, List.getD_cons_succ, Fx, true_and] at hh
        obtain ⟨⟨⟨⟨⟨⟨⟨⟨v_0, v_1⟩, v_2⟩, v_3⟩, v_4⟩, v_5⟩, v_6⟩, v_7⟩, v_8⟩ := hh
        simp only [v_0, v_1, v_2, v_3, v_4, v_5, v_6, v_7, v_8]
        have k2 : Keep w w2 := Keep.trans hk0 hk
        by_cases hxy : Cd.mk xs xa xb = Cd.mk ys ya yb
        · have HE2 := Aside.mk (HE.out.2 hxy)
          have hd : sameC (Cd.mk xs xa xb) (Cd.mk ys ya yb) = true := decide_eq_true hxy
          rw [hd]
          clear hd hxy p1 p2 p3 q1 q2 q3 p1' p2' p3' q1' q2' q3' hk hk0
          go_wp2
          go_roundg (l.length - (i + 1))
          case measure => omega
          case rel => exact ⟨i + 1, by omega, by go_num, HE2.out, (by ((repeat (first | (with_reducible assumption) | ((with_reducible refine Keep.setCell ?_ ?_ _); rotate_left; focus (first | omega | (simp; done) | (simp; omega))) | (with_reducible refine Keep.alloc ?_ _) | (with_reducible refine Keep.drewN ?_ _) | (with_reducible refine Keep.drew ?_) | (with_reducible exact Keep.refl _) | refine Keep.trans ?_ (by with_reducible assumption) | exact Keep.refl _ | assumption))))⟩
        · have HF := Aside.mk (HQ.out hxy)
          have hd : sameC (Cd.mk xs xa xb) (Cd.mk ys ya yb) = false := decide_eq_false hxy
          rw [hd]
          clear hd hxy p1 p2 p3 q1 q2 q3 p1' p2' p3' q1' q2' q3' hk hk0
          go_wp2
          go_ret; exact ⟨rb HF.out.symm, (by ((repeat (first | (with_reducible assumption) | ((with_reducible refine Keep.setCell ?_ ?_ _); rotate_left; focus (first | omega | (simp; done) | (simp; omega))) | (with_reducible refine Keep.alloc ?_ _) | (with_reducible refine Keep.drewN ?_ _) | (with_reducible refine Keep.drew ?_) | (with_reducible exact Keep.refl _) | refine Keep.trans ?_ (by with_reducible assumption) | exact Keep.refl _ | assumption))))⟩
      · have e2 : i = l.length := by omega
        subst e2
        have hal : l = m := by have := HT.out; rwa [List.take_length, HN.out, List.take_length] at this
        have HA := Aside.mk (decide_eq_true hal)
        clear hal
        go_wp2
        go_ret; exact ⟨rb HA.out.symm, (by ((repeat (first | (with_reducible assumption) | ((with_reducible refine Keep.setCell ?_ ?_ _); rotate_left; focus (first | omega | (simp; done) | (simp; omega))) | (with_reducible refine Keep.alloc ?_ _) | (with_reducible refine Keep.drewN ?_ _) | (with_reducible refine Keep.drew ?_) | (with_reducible exact Keep.refl _) | refine Keep.trans ?_ (by with_reducible assumption) | exact Keep.refl _ | assumption))))⟩
  · have e : decide (l = m) = false := decide_eq_false (fun h => hne (by rw [h]))
    rw [e]
    go_enter Try.func48, Try.ntmps48
    go_wp2
    go_ret; exact ⟨rfl, (by ((repeat (first | (with_reducible assumption) | ((with_reducible refine Keep.setCell ?_ ?_ _); rotate_left; focus (first | omega | (simp; done) | (simp; omega))) | (with_reducible refine Keep.alloc ?_ _) | (with_reducible refine Keep.drewN ?_ _) | (with_reducible refine Keep.drew ?_) | (with_reducible exact Keep.refl _) | refine Keep.trans ?_ (by with_reducible assumption) | exact Keep.refl _ | assumption))))⟩
end Go.Proofs.Ytihebflgceljfaa

/- The fullest of masks: the walks. -/
import Derived.Shelf.Abstract
import Derived.Test.YtihebflgceljfaaMK
import Derived.Test.YtihebflgceljfaaM4
import Derived.Test.YtihebflgceljfaaM5
import Derived.Test.YtihebflgceljfaaM6
import Derived.Test.YtihebflgceljfaaAu
set_option linter.unusedVariables false
set_option linter.unusedSimpArgs false
namespace Go.Proofs.Ytihebflgceljfaa
open Go.RowKit Go.Shelf
set_option maxHeartbeats 4000000
set_option maxRecDepth 20000
theorem any_takeM {α : Type} {l : List α} {q : α → Bool} {i : Nat} (h : i < l.length) : (l.take (i + 1)).any q = ((l.take i).any q || q l[i]) := by
  rw [List.take_succ_eq_append_getElem h, List.any_append]; simp
theorem any_ofM {α : Type} {l : List α} {q : α → Bool} {i : Nat} (h : i < l.length) (hb : q l[i] = true) : l.any q = true := by
  rw [List.any_eq_true]; exact ⟨l[i], List.getElem_mem h, hb⟩
def badM (m : Wd × Wd) : Bool := !okB m.2
theorem index_mask (A : Option Addr) (l : List (Wd × Wd)) (c g : Nat) (q : Wd × Wd → Bool) (w : World) (hm : l.length ≤ 9223372036854775807) (hR : Rd w A (msks l))
    (eg : ∀ args w, (callFunc g args).run Try.prog w = .ok (.enter g args) w) (hq : ∀ a b, ∀ W, Calls Try.prog g #[.agg #[.int .u64 (U a), .int .u64 (U b)]] W fun e w' => e = .returned (.bool (q (a, b))) ∧ Keep W w') :
    Calls Try.prog 67 #[.slice A l.length c, .func (.func g) #[] #[]] w fun e w' => ∃ n : Int, e = .returned (.int .i64 n) ∧ decide (0 ≤ n) = l.any q ∧ Keep w w' := by
  go_enter Try.func67, Try.ntmps67
  go_wp2_with fail
  go_loopg [5, 8] l.length (fun k s5 s8 wr => ∃ i : Nat, i + k = l.length ∧ s8 = .int .i64 i ∧ (l.take i).any q = false ∧ Keep w wr)
  case atStart => exact ⟨0, by omega, rfl, rfl, (by ((repeat (first | (with_reducible assumption) | ((with_reducible refine Keep.setCell ?_ ?_ _); rotate_left; focus (first | omega | (simp; done) | (simp; omega))) | (with_reducible refine Keep.alloc ?_ _) | (with_reducible refine Keep.drewN ?_ _) | (with_reducible refine Keep.drew ?_) | (with_reducible exact Keep.refl _) | refine Keep.trans ?_ (by with_reducible assumption) | exact Keep.refl _ | assumption))))⟩
  case round =>
    obtain ⟨i, hi, rfl, hal, hk⟩ := hrel
    have HL := Aside.mk hal
    clear hal
    by_cases hlt : i < l.length
    · obtain ⟨bb, o, rfl, hc⟩ := (hR.keep hk).at (k := i) (by rw [msks_len]; omega)
      have hcell := hc _ _ (msks_at l i hlt).1
      have hcell2 := hc _ _ (msks_at l i hlt).2
      rw [← Nat.add_assoc] at hcell2
      have hcall := hq l[i].1 l[i].2 wr
      have hT := any_takeM (q := q) hlt
      rw [HL.out, Bool.false_or] at hT
      have HQ := Aside.mk (fun h => any_ofM (q := q) hlt h)
      have HT := Aside.mk hT
      clear hc hT hq
      rw [show q l[i] = q (l[i].1, l[i].2) from rfl] at HQ HT
      generalize l[i].1 = a at *
      generalize l[i].2 = b at *
      cases hb : q (a, b)
      · rw [hb] at hcall HT
        go_wp2_with (go_at_fn g; refine hcall.mono ?_; rintro e w' ⟨rfl, hk1⟩)
        go_roundg (l.length - (i + 1))
        case measure => omega
        case rel => exact ⟨i + 1, by omega, by go_num, HT.out, (by ((repeat (first | (with_reducible assumption) | ((with_reducible refine Keep.setCell ?_ ?_ _); rotate_left; focus (first | omega | (simp; done) | (simp; omega))) | (with_reducible refine Keep.alloc ?_ _) | (with_reducible refine Keep.drewN ?_ _) | (with_reducible refine Keep.drew ?_) | (with_reducible exact Keep.refl _) | refine Keep.trans ?_ (by with_reducible assumption) | exact Keep.refl _ | assumption))))⟩
      · have hA := HQ.out hb
        have HA := Aside.mk hA
        clear hA
        rw [hb] at hcall
        go_wp2_with (go_at_fn g; refine hcall.mono ?_; rintro e w' ⟨rfl, hk1⟩)
        go_ret; exact ⟨_, rfl, by rw [HA.out]; simp, (by ((repeat (first | (with_reducible assumption) | ((with_reducible refine Keep.setCell ?_ ?_ _); rotate_left; focus (first | omega | (simp; done) | (simp; omega))) | (with_reducible refine Keep.alloc ?_ _) | (with_reducible refine Keep.drewN ?_ _) | (with_reducible refine Keep.drew ?_) | (with_reducible exact Keep.refl _) | refine Keep.trans ?_ (by with_reducible assumption) | exact Keep.refl _ | assumption))))⟩
    · have e2 : i = l.length := by omega
      subst e2
      have hal : l.any q = false := by have := HL.out; rwa [List.take_length] at this
      have HA := Aside.mk hal
      clear hal
      go_wp2
      go_ret; exact ⟨_, rfl, by rw [HA.out]; rfl, (by ((repeat (first | (with_reducible assumption) | ((with_reducible refine Keep.setCell ?_ ?_ _); rotate_left; focus (first | omega | (simp; done) | (simp; omega))) | (with_reducible refine Keep.alloc ?_ _) | (with_reducible refine Keep.drewN ?_ _) | (with_reducible refine Keep.drew ?_) | (with_reducible exact Keep.refl _) | refine Keep.trans ?_ (by with_reducible assumption) | exact Keep.refl _ | assumption))))⟩
theorem contains_mask (A : Option Addr) (l : List (Wd × Wd)) (c g : Nat) (q : Wd × Wd → Bool) (w : World) (hm : l.length ≤ 9223372036854775807) (hR : Rd w A (msks l))
    (eg : ∀ args w, (callFunc g args).run Try.prog w = .ok (.enter g args) w) (hq : ∀ a b, ∀ W, Calls Try.prog g #[.agg #[.int .u64 (U a), .int .u64 (U b)]] W fun e w' => e = .returned (.bool (q (a, b))) ∧ Keep W w') :
    Calls Try.prog 40 #[.slice A l.length c, .func (.func g) #[] #[]] w fun e w' => e = .returned (.bool (l.any q)) ∧ Keep w w' := by
  have hi := index_mask A l c g q w hm hR eg hq
  generalize l.any q = r at *
  go_enter Try.func40, Try.ntmps40
  (go_wp2_with fail); (go_at_call 67); refine hi.mono ?_; rintro e w1 ⟨n, rfl, rfl, hk1⟩
  go_wp2
  go_ret; exact ⟨rfl, (by ((repeat (first | (with_reducible assumption) | ((with_reducible refine Keep.setCell ?_ ?_ _); rotate_left; focus (first | omega | (simp; done) | (simp; omega))) | (with_reducible refine Keep.alloc ?_ _) | (with_reducible refine Keep.drewN ?_ _) | (with_reducible refine Keep.drew ?_) | (with_reducible exact Keep.refl _) | refine Keep.trans ?_ (by with_reducible assumption) | exact Keep.refl _ | assumption))))⟩
theorem fullest_clo (a b : Wd) (w : World) :
    Calls Try.prog 41 #[.agg #[.int .u64 (U a), .int .u64 (U b)]] w fun e w' => e = .returned (.bool (badM (a, b))) ∧ Keep w w' := by
  unfold badM
  go_enter Try.func41, Try.ntmps41
  (go_wp2_with fail); (go_at_call 42); (refine (impl_isMask _ _ _).mono ?_); rintro e w1 ⟨rfl, hk1⟩
  go_wp2
  go_ret; exact ⟨rfl, (by ((repeat (first | (with_reducible assumption) | ((with_reducible refine Keep.setCell ?_ ?_ _); rotate_left; focus (first | omega | (simp; done) | (simp; omega))) | (with_reducible refine Keep.alloc ?_ _) | (with_reducible refine Keep.drewN ?_ _) | (with_reducible refine Keep.drew ?_) | (with_reducible exact Keep.refl _) | refine Keep.trans ?_ (by with_reducible assumption) | exact Keep.refl _ | assumption))))⟩
theorem spec_l03Words0 (A : Option Addr) (c : Nat) (w : World) :
    Calls Try.prog 64 #[.slice A 0 c, .int .i64 0] w fun e w' => e = .returned (.int .i64 0) ∧ Keep w w' := by
  go_enter Try.func64, Try.ntmps64
  go_wp2_with fail
  refine wp_loop_rounds 1 ?_
  rw [rounds_succ]
  go_wp2
  go_ret; exact ⟨rfl, (by ((repeat (first | (with_reducible assumption) | ((with_reducible refine Keep.setCell ?_ ?_ _); rotate_left; focus (first | omega | (simp; done) | (simp; omega))) | (with_reducible refine Keep.alloc ?_ _) | (with_reducible refine Keep.drewN ?_ _) | (with_reducible refine Keep.drew ?_) | (with_reducible exact Keep.refl _) | refine Keep.trans ?_ (by with_reducible assumption) | exact Keep.refl _ | assumption))))⟩
/-- The code of masks asked with. -/
def mkE (s z p : Int) (ms : List (Wd × Wd)) : Int := cond (mixB s z p) (cond (ms.any badM) 1 (cond (decide (ms.length ≤ 60)) 0 2)) 1
theorem spec_l03AskedM (s z p : Int) (g o : Nat) (M : Option Addr) (ms : List (Wd × Wd)) (mc : Nat) (A : Option Addr) (c : Nat) (w : World) (hw : I16 s ∧ I16 z ∧ I16 p) (hmm : ms.length ≤ 9223372036854775807) (hM : Rd w M (msks ms))
    (c0 : w.cell? ⟨g, o, none⟩ = some (.int .i16 s)) (c1 : w.cell? ⟨g, o + 1, none⟩ = some (.int .i16 z)) (c2 : w.cell? ⟨g, o + 2, none⟩ = some (.int .i16 p)) :
    Calls Try.prog 34 #[.pointer (some ⟨g, o, none⟩), .slice M ms.length mc, .slice A 0 c, .int .i64 0] w fun e w' => e = .returned (.int .i64 (mkE s z p ms)) ∧ Keep w w' := by
  cases h1 : mixB s z p <;> simp only [mkE, h1, cond_true, cond_false]
  · go_enter Try.func34, Try.ntmps34
    (go_wp2_with fail); (go_at_call 62); (refine (spec_l03Ok s z p _ _ _ hw.2.1 hw.2.2 hw.1 c0 c1 c2).mono ?_); rintro e w1 ⟨rfl, hk1⟩
    rw [h1]
    go_wp2
    go_ret; exact ⟨rfl, (by ((repeat (first | (with_reducible assumption) | ((with_reducible refine Keep.setCell ?_ ?_ _); rotate_left; focus (first | omega | (simp; done) | (simp; omega))) | (with_reducible refine Keep.alloc ?_ _) | (with_reducible refine Keep.drewN ?_ _) | (with_reducible refine Keep.drew ?_) | (with_reducible exact Keep.refl _) | refine Keep.trans ?_ (by with_reducible assumption) | exact Keep.refl _ | assumption))))⟩
  · go_enter Try.func34, Try.ntmps34
    (go_wp2_with fail); (go_at_call 62); (refine (spec_l03Ok s z p _ _ _ hw.2.1 hw.2.2 hw.1 c0 c1 c2).mono ?_); rintro e w1 ⟨rfl, hk1⟩
    rw [h1]
    have k1 : Keep w w1 := (by ((repeat (first | (with_reducible assumption) | ((with_reducible refine Keep.setCell ?_ ?_ _); rotate_left; focus (first | omega | (simp; done) | (simp; omega))) | (with_reducible refine Keep.alloc ?_ _) | (with_reducible refine Keep.drewN ?_ _) | (with_reducible refine Keep.drew ?_) | (with_reducible exact Keep.refl _) | refine Keep.trans ?_ (by with_reducible assumption) | exact Keep.refl _ | assumption))))
    clear hk1
    go_wp2_with fail
    go_loopg [9] ms.length (fun k s9 wr => ∃ i : Nat, i + k = ms.length ∧ s9 = .int .i64 i ∧ (ms.take i).any badM = false ∧ Keep w wr)
    case atStart => exact ⟨0, by omega, rfl, rfl, (by ((repeat (first | (with_reducible assumption) | ((with_reducible refine Keep.setCell ?_ ?_ _); rotate_left; focus (first | omega | (simp; done) | (simp; omega))) | (with_reducible refine Keep.alloc ?_ _) | (with_reducible refine Keep.drewN ?_ _) | (with_reducible refine Keep.drew ?_) | (with_reducible exact Keep.refl _) | refine Keep.trans ?_ (by with_reducible assumption) | exact Keep.refl _ | assumption))))⟩
    case round =>
      obtain ⟨i, hi, rfl, hal, hk⟩ := hrel
      have HL := Aside.mk hal
      clear hal
      by_cases hlt : i < ms.length
      · obtain ⟨bb, o', rfl, hc⟩ := (hM.keep hk).at (k := i) (by rw [msks_len]; omega)
        have hcell := hc _ _ (msks_at ms i hlt).1
        have hcell2 := hc _ _ (msks_at ms i hlt).2
        have hT := any_takeM (q := badM) hlt
        rw [HL.out, Bool.false_or] at hT
        have HQ := Aside.mk (fun h => any_ofM (q := badM) hlt h)
        have HT := Aside.mk hT
        rw [← Nat.add_assoc] at hcell2
        clear hc hT
        rw [show badM ms[i] = !okB ms[i].2 from rfl] at HT HQ
        generalize ms[i].1 = a at *
        generalize ms[i].2 = b at *
        (go_wp2_with fail); (go_at_call 63); (refine (spec_ValidMask _ _ _).mono ?_); rintro e w2 ⟨rfl, hk2⟩
        cases hb : okB b
        · have hA := HQ.out (by rw [hb]; rfl)
          have HA := Aside.mk hA
          clear hA
          go_wp2
          go_ret; exact ⟨by rw [HA.out]; rfl, (by ((repeat (first | (with_reducible assumption) | ((with_reducible refine Keep.setCell ?_ ?_ _); rotate_left; focus (first | omega | (simp; done) | (simp; omega))) | (with_reducible refine Keep.alloc ?_ _) | (with_reducible refine Keep.drewN ?_ _) | (with_reducible refine Keep.drew ?_) | (with_reducible exact Keep.refl _) | refine Keep.trans ?_ (by with_reducible assumption) | exact Keep.refl _ | assumption))))⟩
        · rw [hb] at HT
          go_wp2
          go_roundg (ms.length - (i + 1))
          case measure => omega
          case rel => exact ⟨i + 1, by omega, by go_num, HT.out, (by ((repeat (first | (with_reducible assumption) | ((with_reducible refine Keep.setCell ?_ ?_ _); rotate_left; focus (first | omega | (simp; done) | (simp; omega))) | (with_reducible refine Keep.alloc ?_ _) | (with_reducible refine Keep.drewN ?_ _) | (with_reducible refine Keep.drew ?_) | (with_reducible exact Keep.refl _) | refine Keep.trans ?_ (by with_reducible assumption) | exact Keep.refl _ | assumption))))⟩
      · have e2 : i = ms.length := by omega
        subst e2
        have hal : ms.any badM = false := by have := HL.out; rwa [List.take_length] at this
        have HA := Aside.mk hal
        clear hal
        by_cases h60 : ms.length ≤ 60
        · have HB := Aside.mk (decide_eq_true h60)
          (go_wp2_with fail); (go_at_call 64); (refine (spec_l03Words0 _ _ _).mono ?_); rintro e w2 ⟨rfl, hk2⟩
          go_wp2
          go_ret; exact ⟨by rw [HA.out, HB.out]; rfl, (by ((repeat (first | (with_reducible assumption) | ((with_reducible refine Keep.setCell ?_ ?_ _); rotate_left; focus (first | omega | (simp; done) | (simp; omega))) | (with_reducible refine Keep.alloc ?_ _) | (with_reducible refine Keep.drewN ?_ _) | (with_reducible refine Keep.drew ?_) | (with_reducible exact Keep.refl _) | refine Keep.trans ?_ (by with_reducible assumption) | exact Keep.refl _ | assumption))))⟩
        · have HB := Aside.mk (decide_eq_false h60)
          go_wp2
          go_ret; exact ⟨by rw [HA.out, HB.out]; rfl, (by ((repeat (first | (with_reducible assumption) | ((with_reducible refine Keep.setCell ?_ ?_ _); rotate_left; focus (first | omega | (simp; done) | (simp; omega))) | (with_reducible refine Keep.alloc ?_ _) | (with_reducible refine Keep.drewN ?_ _) | (with_reducible refine Keep.drew ?_) | (with_reducible exact Keep.refl _) | refine Keep.trans ?_ (by with_reducible assumption) | exact Keep.refl _ | assumption))))⟩
/-- How full a mask is, within the part. -/
def cnM (lo hi : Wd) (m : Wd × Wd) : Int := ((pc (m.1 &&& lo) + pc (m.2 &&& hi) : Nat) : Int)
/-- The fullest of the first so many: how full, and which. -/
def fuM (lo hi : Wd) (l : List (Wd × Wd)) : Nat → Int
  | 0 => -1
  | i + 1 => if fuM lo hi l i < cnM lo hi (l.getD i (0, 0)) then cnM lo hi (l.getD i (0, 0)) else fuM lo hi l i
def fuB (lo hi : Wd) (l : List (Wd × Wd)) : Nat → Int
  | 0 => 0
  | i + 1 => if fuM lo hi l i < cnM lo hi (l.getD i (0, 0)) then i else fuB lo hi l i
theorem fuM_yes {lo hi : Wd} {l : List (Wd × Wd)} {i : Nat} (h : i < l.length) (hb : fuM lo hi l i < cnM lo hi l[i]) : fuM lo hi l (i + 1) = cnM lo hi l[i] ∧ fuB lo hi l (i + 1) = i := by
  have e : l.getD i (0, 0) = l[i] := by simp [List.getD, h]
  simp only [fuM, fuB, e, if_pos hb, and_self]
theorem fuM_no {lo hi : Wd} {l : List (Wd × Wd)} {i : Nat} (h : i < l.length) (hb : ¬ fuM lo hi l i < cnM lo hi l[i]) : fuM lo hi l (i + 1) = fuM lo hi l i ∧ fuB lo hi l (i + 1) = fuB lo hi l i := by
  have e : l.getD i (0, 0) = l[i] := by simp [List.getD, h]
  simp only [fuM, fuB, e, if_neg hb, and_self]
end Go.Proofs.Ytihebflgceljfaa

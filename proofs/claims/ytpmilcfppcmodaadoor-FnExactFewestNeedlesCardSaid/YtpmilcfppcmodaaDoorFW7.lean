/- The fewest needles: nothing wanted; the reference's walk. -/
import Derived.Test.YtpmilcfppcmodaaDoorFW6
set_option linter.unusedVariables false
set_option linter.unusedSimpArgs false
namespace Go.Proofs.YtpmilcfppcmodaaDoor
open Go.RowKit Go.Shelf
set_option maxHeartbeats 2000000
set_option maxRecDepth 20000
/-- The first answer with none, one, two or three holes. -/
def fnR (P : Wd → Wd → Bool) (may : Nat → Bool) : Option (Wd × Wd) := match srch P may 0 0 0#64 0#64 with
  | some z => some z
  | none => match srch P may 1 0 0#64 0#64 with
    | some z => some z
    | none => match srch P may 2 0 0#64 0#64 with
      | some z => some z
      | none => srch P may 3 0 0#64 0#64
def fnA (r : Option (Wd × Wd)) : Wd := match r with | some z => z.1 | none => 0#64
def fnB (r : Option (Wd × Wd)) : Wd := match r with | some z => z.2 | none => 0#64
def fnE (r : Option (Wd × Wd)) : Int := match r with | some _ => 0 | none => 6
theorem fnR_congr {P P' : Wd → Wd → Bool} {may may' : Nat → Bool} (hP : ∀ a b, P a b = P' a b) (hm : ∀ h, h < 96 → may h = may' h) : fnR P may = fnR P' may' := by
  unfold fnR; rw [srch_congr hP hm, srch_congr hP hm, srch_congr hP hm, srch_congr hP hm]
def yes (_ : Nat) : Bool := true
theorem sg_zero (P : Wd → Wd → Bool) (a b : Wd) (h : Nat) : srG P yes 0 a b h = if P (a ||| bitLo h) (b ||| bitHi h) then some (a ||| bitLo h, b ||| bitHi h) else none := by
  unfold srG yes srch; rfl
theorem sg_succ (P : Wd → Wd → Bool) (k : Nat) (a b : Wd) (h : Nat) : srG P yes (k + 1) a b h = scan (srG P yes k (a ||| bitLo h) (b ||| bitHi h)) (h + 1) (96 - (h + 1)) := by
  unfold srG yes; rw [if_pos rfl, srch_succ]; rfl
theorem free_zero {l : List Cd} (h : l ≠ []) : freeB l 0#64 0#64 = false := by
  cases l with
  | nil => exact absurd rfl h
  | cons c l => unfold freeB withinB; simp
theorem srch_zero (P : Wd → Wd → Bool) (may : Nat → Bool) (f : Nat) (a b : Wd) : srch P may 0 f a b = if P a b then some (a, b) else none := by unfold srch; rfl
theorem spec_l02Nothing (A : Option Addr) (l : List Cd) (c : Nat) (w : World) (hm : l.length ≤ 1048576) (hR : Rd w A (cds l)) :
    Calls Tryd.prog 77 #[.slice A l.length c] w fun e w' => e = .returned (.tuple #[.agg #[.int .u64 (U (fnA (fnR (freeB l) yes))), .int .u64 (U (fnB (fnR (freeB l) yes)))], .int .i64 (fnE (fnR (freeB l) yes))]) ∧ Keep w w' := by
  by_cases h0 : l.length = 0
  · obtain rfl := List.eq_nil_of_length_eq_zero h0
    have e : fnR (freeB []) yes = some (0#64, 0#64) := by unfold fnR; rw [srch_zero]; rfl
    rw [e]
    go_enter Tryd.func77, Tryd.ntmps77
    go_wp2
    (apply bodyPost_ret; rotate_left; rfl; exact ⟨rfl, (by ((repeat (first | (with_reducible assumption) | ((with_reducible refine Keep.setCell ?_ ?_ _); rotate_left; focus (first | omega | (simp; done) | (simp; omega))) | (with_reducible refine Keep.alloc ?_ _) | (with_reducible refine Keep.drewN ?_ _) | (with_reducible refine Keep.drew ?_) | (with_reducible exact Keep.refl _) | refine Keep.trans ?_ (by with_reducible assumption) | exact Keep.refl _ | assumption))))⟩; simp [results, Tryd.results77, go_sem, U_zero, *])
    exact ⟨⟨rfl, rfl⟩, rfl⟩
  · have hne : l ≠ [] := fun e => h0 (by rw [e]; rfl)
    have z0 : srch (freeB l) yes 0 0 0#64 0#64 = none := by rw [srch_zero, free_zero hne]; rfl
    have hf := Aside.mk (fun a b W h => spec_l02Free A l c a b W hm h)
    obtain ⟨P, hP⟩ : ∃ P, freeB l = P := ⟨_, rfl⟩
    simp only [hP] at hf
    rw [hP] at z0
    rw [hP]
    have Z1 := Aside.mk (fun z (h : scan (srG P yes 0 0#64 0#64) 0 96 = some z) => (show fnR P yes = some z by unfold fnR; rw [z0, srch_succ]; simp only [Nat.sub_zero, h]))
    have Z2 := Aside.mk (fun z (h1 : scan (srG P yes 0 0#64 0#64) 0 96 = none) (h : scan (srG P yes 1 0#64 0#64) 0 96 = some z) => (show fnR P yes = some z by unfold fnR; rw [z0, srch_succ, srch_succ]; simp only [Nat.sub_zero, h1, h]))
    have Z3 := Aside.mk (fun z (h1 : scan (srG P yes 0 0#64 0#64) 0 96 = none) (h2 : scan (srG P yes 1 0#64 0#64) 0 96 = none) (h : scan (srG P yes 2 0#64 0#64) 0 96 = some z) => (show fnR P yes = some z by unfold fnR; rw [z0, srch_succ, srch_succ, srch_succ]; simp only [Nat.sub_zero, h1, h2, h]))
    have ZN := Aside.mk (fun (h1 : scan (srG P yes 0 0#64 0#64) 0 96 = none) (h2 : scan (srG P yes 1 0#64 0#64) 0 96 = none) (h : scan (srG P yes 2 0#64 0#64) 0 96 = none) => (show fnR P yes = none by unfold fnR; rw [z0, srch_succ, srch_succ, srch_succ]; simp only [Nat.sub_zero, h1, h2, h]))
    have hl0 : ¬ ((l.length : Int) = 0) := by omega
    have hlb : ((l.length : Int) == 0) = false := by simpa using hl0
    obtain ⟨R, hRR⟩ : ∃ R, fnR P yes = R := ⟨_, rfl⟩
    rw [hRR]
    simp only [hRR] at Z1 Z2 Z3 ZN
    clear hP
    go_enter Tryd.func77, Tryd.ntmps77
    go_wp2_with fail
    try simp only [hlb]
    go_loopg [4] 96 (fun n s4 wr => ∃ a : Nat, a + n = 96 ∧ s4 = .int .i64 a ∧ scan (srG P yes 0 0#64 0#64) 0 a = none ∧ Bx wr w.heap.size #[.int .u64 0, .int .u64 0] 33 ∧ Keep w wr)
    case atStart => exact ⟨0, by omega, rfl, rfl, Bx.new _ _ _, (by ((repeat (first | (with_reducible assumption) | ((with_reducible refine Keep.setCell ?_ ?_ _); rotate_left; focus (first | omega | (simp; done) | (simp; omega))) | (with_reducible refine Keep.alloc ?_ _) | (with_reducible refine Keep.drewN ?_ _) | (with_reducible refine Keep.drew ?_) | (with_reducible exact Keep.refl _) | refine Keep.trans ?_ (by with_reducible assumption) | exact Keep.refl _ | assumption))))⟩
    case round =>
      obtain ⟨a, ha, rfl, hsc, hZ, hk0⟩ := hrel
      have HSC := Aside.mk hsc
      clear hsc
      by_cases hlt : a < 96
      · have hsg : srG P yes 0 0#64 0#64 a = if P (bitLo a) (bitHi a) then some (bitLo a, bitHi a) else none := by rw [sg_zero, BitVec.zero_or, BitVec.zero_or]
        have HG := Aside.mk hsg
        clear hsg
        (go_wp2_with fail); (go_at_call 123); (refine (spec_l01Bit _ (by omega) (by omega) _).mono ?_); rintro e w1 ⟨rfl, hkb⟩
        have k1 : Keep w w1 := (by ((repeat (first | (with_reducible assumption) | ((with_reducible refine Keep.setCell ?_ ?_ _); rotate_left; focus (first | omega | (simp; done) | (simp; omega))) | (with_reducible refine Keep.alloc ?_ _) | (with_reducible refine Keep.drewN ?_ _) | (with_reducible refine Keep.drew ?_) | (with_reducible exact Keep.refl _) | refine Keep.trans ?_ (by with_reducible assumption) | exact Keep.refl _ | assumption))))
        replace hZ := hZ.keep hkb
        have hkz := k1.size
        clear hkb hk0
        have hfr := hf.out (bitLo a) (bitHi a)
        generalize bitLo (a : Int) = x at *
        generalize bitHi (a : Int) = y at *
        have hZ1 := hZ.alloc (.cells #[.int .u64 (U x), .int .u64 (U y)] 33)
        (go_wp2_with fail); (go_at_call 133); (refine (hfr _ (hR.keep (by ((repeat (first | (with_reducible assumption) | ((with_reducible refine Keep.setCell ?_ ?_ _); rotate_left; focus (first | omega | (simp; done) | (simp; omega))) | (with_reducible refine Keep.alloc ?_ _) | (with_reducible refine Keep.drewN ?_ _) | (with_reducible refine Keep.drew ?_) | (with_reducible exact Keep.refl _) | refine Keep.trans ?_ (by with_reducible assumption) | exact Keep.refl _ | assumption)))))).mono ?_); rintro e w2 ⟨rfl, hkf⟩
        have k2 : Keep w w2 := (by ((repeat (first | (with_reducible assumption) | ((with_reducible refine Keep.setCell ?_ ?_ _); rotate_left; focus (first | omega | (simp; done) | (simp; omega))) | (with_reducible refine Keep.alloc ?_ _) | (with_reducible refine Keep.drewN ?_ _) | (with_reducible refine Keep.drew ?_) | (with_reducible exact Keep.refl _) | refine Keep.trans ?_ (by with_reducible assumption) | exact Keep.refl _ | assumption))))
        have hX : Bx w2 w1.heap.size #[.int .u64 (U x), .int .u64 (U y)] 33 := (Bx.new _ _ _).keep hkf
        replace hZ := hZ1.keep hkf
        clear hZ1 hkf hfr
        cases hq : P x y
        · have HN := Aside.mk (show scan (srG P yes 0 0#64 0#64) 0 (a + 1) = none from scan_none HSC.out (by rw [Nat.zero_add, HG.out, hq]; rfl))
          clear HG HSC hq hX
          go_wp2
          go_roundg (96 - (a + 1))
          case measure => omega
          case rel => exact ⟨a + 1, by omega, by go_num, HN.out, hZ, (by ((repeat (first | (with_reducible assumption) | ((with_reducible refine Keep.setCell ?_ ?_ _); rotate_left; focus (first | omega | (simp; done) | (simp; omega))) | (with_reducible refine Keep.alloc ?_ _) | (with_reducible refine Keep.drewN ?_ _) | (with_reducible refine Keep.drew ?_) | (with_reducible exact Keep.refl _) | refine Keep.trans ?_ (by with_reducible assumption) | exact Keep.refl _ | assumption))))⟩
        · have e2 : R = some (x, y) := Z1.out _ (scan_some (n := a) HSC.out (by rw [Nat.zero_add, HG.out, hq]; rfl) 96 hlt)
          subst e2
          have hXs := hX.two
          have hZs := hZ.two
          clear HG HSC hq Z1 Z2 Z3 ZN
          go_wp2
          (apply bodyPost_ret; rotate_left; rfl; exact ⟨rfl, (by ((repeat (first | (with_reducible assumption) | ((with_reducible refine Keep.setCell ?_ ?_ _); rotate_left; focus (first | omega | (simp; done) | (simp; omega))) | (with_reducible refine Keep.alloc ?_ _) | (with_reducible refine Keep.drewN ?_ _) | (with_reducible refine Keep.drew ?_) | (with_reducible exact Keep.refl _) | refine Keep.trans ?_ (by with_reducible assumption) | exact Keep.refl _ | assumption))))⟩; simp [results, Tryd.results77, go_sem, U_zero, *])
          exact ⟨⟨rfl, rfl⟩, rfl⟩
      · obtain rfl : a = 96 := by omega
        clear Z1
        have HN1 := Aside.mk HSC.out
        clear HSC
        go_wp2_with fail
        go_loopg [6] 96 (fun n s6 wr => ∃ a : Nat, a + n = 96 ∧ s6 = .int .i64 a ∧ scan (srG P yes 1 0#64 0#64) 0 a = none ∧ Bx wr w.heap.size #[.int .u64 0, .int .u64 0] 33 ∧ Keep w wr)
        case atStart => exact ⟨0, by omega, rfl, rfl, hZ, (by ((repeat (first | (with_reducible assumption) | ((with_reducible refine Keep.setCell ?_ ?_ _); rotate_left; focus (first | omega | (simp; done) | (simp; omega))) | (with_reducible refine Keep.alloc ?_ _) | (with_reducible refine Keep.drewN ?_ _) | (with_reducible refine Keep.drew ?_) | (with_reducible exact Keep.refl _) | refine Keep.trans ?_ (by with_reducible assumption) | exact Keep.refl _ | assumption))))⟩
        case round =>
          obtain ⟨a, ha, rfl, hsc, hZ, hk0⟩ := hrel
          have HSC := Aside.mk hsc
          clear hsc
          by_cases hlt : a < 96
          · have HGA := Aside.mk (show srG P yes 1 0#64 0#64 a = scan (srG P yes 0 (bitLo a) (bitHi a)) (a + 1) (96 - (a + 1)) by rw [sg_succ, BitVec.zero_or, BitVec.zero_or])
            have hltd : decide ((a : Int) < 96) = true := decide_eq_true (by omega)
            go_wp2_with fail
            try simp only [hltd]
            go_loopg [7] (96 - (a + 1)) (fun n s7 wq => ∃ b : Nat, b + n = 96 ∧ a + 1 ≤ b ∧ s7 = .int .i64 b ∧ scan (srG P yes 0 (bitLo a) (bitHi a)) (a + 1) (b - (a + 1)) = none ∧ Bx wq w.heap.size #[.int .u64 0, .int .u64 0] 33 ∧ Keep w wq)
            case atStart => exact ⟨a + 1, by omega, by omega, by go_num, by rw [Nat.sub_self]; rfl, hZ, (by ((repeat (first | (with_reducible assumption) | ((with_reducible refine Keep.setCell ?_ ?_ _); rotate_left; focus (first | omega | (simp; done) | (simp; omega))) | (with_reducible refine Keep.alloc ?_ _) | (with_reducible refine Keep.drewN ?_ _) | (with_reducible refine Keep.drew ?_) | (with_reducible exact Keep.refl _) | refine Keep.trans ?_ (by with_reducible assumption) | exact Keep.refl _ | assumption))))⟩
            case round =>
              obtain ⟨b, hb, hab, rfl, hsb, hZ, hk0⟩ := hrel
              have HSB := Aside.mk hsb
              clear hsb
              by_cases hbt : b < 96
              · have HGB := Aside.mk (sg_zero P (bitLo a) (bitHi a) b)
                have hba := Aside.mk (fun W => spec_l01Bit (a : Int) (by omega) (by omega) W)
                have hbb := Aside.mk (fun W => spec_l01Bit (b : Int) (by omega) (by omega) W)
                have hfr := Aside.mk (hf.out (bitLo a ||| bitLo b) (bitHi a ||| bitHi b))
                generalize bitLo (b : Int) = x2 at *
                generalize bitHi (b : Int) = y2 at *
                generalize bitLo (a : Int) = x1 at *
                generalize bitHi (a : Int) = y1 at *
                (go_wp2_with fail); (go_at_call 123); (refine (hba.out _).mono ?_); rintro e w1 ⟨rfl, hkb⟩
                have k1 : Keep w w1 := (by ((repeat (first | (with_reducible assumption) | ((with_reducible refine Keep.setCell ?_ ?_ _); rotate_left; focus (first | omega | (simp; done) | (simp; omega))) | (with_reducible refine Keep.alloc ?_ _) | (with_reducible refine Keep.drewN ?_ _) | (with_reducible refine Keep.drew ?_) | (with_reducible exact Keep.refl _) | refine Keep.trans ?_ (by with_reducible assumption) | exact Keep.refl _ | assumption))))
                replace hZ := hZ.keep hkb
                clear hkb hk0
                (go_wp2_with fail); (go_at_call 123); (refine (hbb.out _).mono ?_); rintro e w2 ⟨rfl, hkb⟩
                have k2 : Keep w w2 := (by ((repeat (first | (with_reducible assumption) | ((with_reducible refine Keep.setCell ?_ ?_ _); rotate_left; focus (first | omega | (simp; done) | (simp; omega))) | (with_reducible refine Keep.alloc ?_ _) | (with_reducible refine Keep.drewN ?_ _) | (with_reducible refine Keep.drew ?_) | (with_reducible exact Keep.refl _) | refine Keep.trans ?_ (by with_reducible assumption) | exact Keep.refl _ | assumption))))
                replace hZ := hZ.keep hkb
                clear hkb k1
                (go_wp2_with fail); (go_at_call 120); (refine (spec_l01Join _ _ _ _ _).mono ?_); rintro e w3 ⟨rfl, hkb⟩
                have k3 : Keep w w3 := (by ((repeat (first | (with_reducible assumption) | ((with_reducible refine Keep.setCell ?_ ?_ _); rotate_left; focus (first | omega | (simp; done) | (simp; omega))) | (with_reducible refine Keep.alloc ?_ _) | (with_reducible refine Keep.drewN ?_ _) | (with_reducible refine Keep.drew ?_) | (with_reducible exact Keep.refl _) | refine Keep.trans ?_ (by with_reducible assumption) | exact Keep.refl _ | assumption))))
                replace hZ := hZ.keep hkb
                clear hkb k2
                have hkz := k3.size
                generalize x1 ||| x2 = x at *
                generalize y1 ||| y2 = y at *
                have hZ1 := hZ.alloc (.cells #[.int .u64 (U x), .int .u64 (U y)] 33)
                (go_wp2_with fail); (go_at_call 133); (refine (hfr.out _ (hR.keep (by ((repeat (first | (with_reducible assumption) | ((with_reducible refine Keep.setCell ?_ ?_ _); rotate_left; focus (first | omega | (simp; done) | (simp; omega))) | (with_reducible refine Keep.alloc ?_ _) | (with_reducible refine Keep.drewN ?_ _) | (with_reducible refine Keep.drew ?_) | (with_reducible exact Keep.refl _) | refine Keep.trans ?_ (by with_reducible assumption) | exact Keep.refl _ | assumption)))))).mono ?_); rintro e w4 ⟨rfl, hkf⟩
                have k4 : Keep w w4 := (by ((repeat (first | (with_reducible assumption) | ((with_reducible refine Keep.setCell ?_ ?_ _); rotate_left; focus (first | omega | (simp; done) | (simp; omega))) | (with_reducible refine Keep.alloc ?_ _) | (with_reducible refine Keep.drewN ?_ _) | (with_reducible refine Keep.drew ?_) | (with_reducible exact Keep.refl _) | refine Keep.trans ?_ (by with_reducible assumption) | exact Keep.refl _ | assumption))))
                have hX : Bx w4 w3.heap.size #[.int .u64 (U x), .int .u64 (U y)] 33 := (Bx.new _ _ _).keep hkf
                replace hZ := hZ1.keep hkf
                clear hZ1 hkf hfr k3
                cases hq : P x y
                · have HN := Aside.mk (show scan (srG P yes 0 x1 y1) (a + 1) (b + 1 - (a + 1)) = none by
                    rw [show b + 1 - (a + 1) = b - (a + 1) + 1 by omega]
                    exact scan_none HSB.out (by rw [show a + 1 + (b - (a + 1)) = b by omega, HGB.out, hq]; rfl))
                  clear HGB HSB hq hX
                  go_wp2
                  go_roundg (96 - (b + 1))
                  case measure => omega
                  case rel => exact ⟨b + 1, by omega, by omega, by go_num, HN.out, hZ, (by ((repeat (first | (with_reducible assumption) | ((with_reducible refine Keep.setCell ?_ ?_ _); rotate_left; focus (first | omega | (simp; done) | (simp; omega))) | (with_reducible refine Keep.alloc ?_ _) | (with_reducible refine Keep.drewN ?_ _) | (with_reducible refine Keep.drew ?_) | (with_reducible exact Keep.refl _) | refine Keep.trans ?_ (by with_reducible assumption) | exact Keep.refl _ | assumption))))⟩
                · have e1 : srG P yes 1 0#64 0#64 a = some (x, y) := by
                    rw [HGA.out]
                    exact scan_some (n := b - (a + 1)) HSB.out (by rw [show a + 1 + (b - (a + 1)) = b by omega, HGB.out, hq]; rfl) _ (by omega)
                  have e2 : R = some (x, y) := Z2.out _ HN1.out (scan_some (n := a) HSC.out (by rw [Nat.zero_add]; exact e1) 96 hlt)
                  subst e2
                  have hXs := hX.two
                  have hZs := hZ.two
                  clear HGA HGB HSB HSC hq Z2 Z3 ZN HN1 e1
                  go_wp2
                  (apply bodyPost_ret; rotate_left; rfl; exact ⟨rfl, (by ((repeat (first | (with_reducible assumption) | ((with_reducible refine Keep.setCell ?_ ?_ _); rotate_left; focus (first | omega | (simp; done) | (simp; omega))) | (with_reducible refine Keep.alloc ?_ _) | (with_reducible refine Keep.drewN ?_ _) | (with_reducible refine Keep.drew ?_) | (with_reducible exact Keep.refl _) | refine Keep.trans ?_ (by with_reducible assumption) | exact Keep.refl _ | assumption))))⟩; simp [results, Tryd.results77, go_sem, U_zero, *])
                  exact ⟨⟨rfl, rfl⟩, rfl⟩
              · obtain rfl : b = 96 := by omega
                have HN := Aside.mk (show scan (srG P yes 1 0#64 0#64) 0 (a + 1) = none from scan_none HSC.out (by rw [Nat.zero_add, HGA.out]; exact HSB.out))
                clear HSC HSB HGA
                go_wp2
                go_roundg (96 - (a + 1))
                case measure => omega
                case rel => exact ⟨a + 1, by omega, by go_num, HN.out, hZ, (by ((repeat (first | (with_reducible assumption) | ((with_reducible refine Keep.setCell ?_ ?_ _); rotate_left; focus (first | omega | (simp; done) | (simp; omega))) | (with_reducible refine Keep.alloc ?_ _) | (with_reducible refine Keep.drewN ?_ _) | (with_reducible refine Keep.drew ?_) | (with_reducible exact Keep.refl _) | refine Keep.trans ?_ (by with_reducible assumption) | exact Keep.refl _ | assumption))))⟩
          · obtain rfl : a = 96 := by omega
            clear Z2
            have HN2 := Aside.mk HSC.out
            clear HSC
            go_wp2_with fail
            go_loopg [9] 96 (fun n s9 wr => ∃ a : Nat, a + n = 96 ∧ s9 = .int .i64 a ∧ scan (srG P yes 2 0#64 0#64) 0 a = none ∧ Bx wr w.heap.size #[.int .u64 0, .int .u64 0] 33 ∧ Keep w wr)
            case atStart => exact ⟨0, by omega, rfl, rfl, hZ, (by ((repeat (first | (with_reducible assumption) | ((with_reducible refine Keep.setCell ?_ ?_ _); rotate_left; focus (first | omega | (simp; done) | (simp; omega))) | (with_reducible refine Keep.alloc ?_ _) | (with_reducible refine Keep.drewN ?_ _) | (with_reducible refine Keep.drew ?_) | (with_reducible exact Keep.refl _) | refine Keep.trans ?_ (by with_reducible assumption) | exact Keep.refl _ | assumption))))⟩
            case round =>
              obtain ⟨a, ha, rfl, hsc, hZ, hk0⟩ := hrel
              have HSC := Aside.mk hsc
              clear hsc
              by_cases hlt : a < 96
              · have HGA := Aside.mk (show srG P yes 2 0#64 0#64 a = scan (srG P yes 1 (bitLo a) (bitHi a)) (a + 1) (96 - (a + 1)) by rw [sg_succ, BitVec.zero_or, BitVec.zero_or])
                have hltd : decide ((a : Int) < 96) = true := decide_eq_true (by omega)
                go_wp2_with fail
                try simp only [hltd]
                go_loopg [10] (96 - (a + 1)) (fun n s10 wq => ∃ b : Nat, b + n = 96 ∧ a + 1 ≤ b ∧ s10 = .int .i64 b ∧ scan (srG P yes 1 (bitLo a) (bitHi a)) (a + 1) (b - (a + 1)) = none ∧ Bx wq w.heap.size #[.int .u64 0, .int .u64 0] 33 ∧ Keep w wq)
                case atStart => exact ⟨a + 1, by omega, by omega, by go_num, by rw [Nat.sub_self]; rfl, hZ, (by ((repeat (first | (with_reducible assumption) | ((with_reducible refine Keep.setCell ?_ ?_ _); rotate_left; focus (first | omega | (simp; done) | (simp; omega))) | (with_reducible refine Keep.alloc ?_ _) | (with_reducible refine Keep.drewN ?_ _) | (with_reducible refine Keep.drew ?_) | (with_reducible exact Keep.refl _) | refine Keep.trans ?_ (by with_reducible assumption) | exact Keep.refl _ | assumption))))⟩
                case round =>
                  obtain ⟨b, hb, hab, rfl, hsb, hZ, hk0⟩ := hrel
                  have HSB := Aside.mk hsb
                  clear hsb
                  by_cases hbt : b < 96
                  · have HGB := Aside.mk (sg_succ P 0 (bitLo a) (bitHi a) b)
                    have hbtd : decide ((b : Int) < 96) = true := decide_eq_true (by omega)
                    go_wp2_with fail
                    try simp only [hbtd]
                    go_loopg [11] (96 - (b + 1)) (fun n s11 wp => ∃ d : Nat, d + n = 96 ∧ b + 1 ≤ d ∧ s11 = .int .i64 d ∧ scan (srG P yes 0 (bitLo a ||| bitLo b) (bitHi a ||| bitHi b)) (b + 1) (d - (b + 1)) = none ∧ Bx wp w.heap.size #[.int .u64 0, .int .u64 0] 33 ∧ Keep w wp)
                    case atStart => exact ⟨b + 1, by omega, by omega, by go_num, by rw [Nat.sub_self]; rfl, hZ, (by ((repeat (first | (with_reducible assumption) | ((with_reducible refine Keep.setCell ?_ ?_ _); rotate_left; focus (first | omega | (simp; done) | (simp; omega))) | (with_reducible refine Keep.alloc ?_ _) | (with_reducible refine Keep.drewN ?_ _) | (with_reducible refine Keep.drew ?_) | (with_reducible exact Keep.refl _) | refine Keep.trans ?_ (by with_reducible assumption) | exact Keep.refl _ | assumption))))⟩
                    case round =>
                      obtain ⟨d, hd, hbd, rfl, hsd, hZ, hk0⟩ := hrel
                      have HSD := Aside.mk hsd
                      clear hsd
                      by_cases hdt : d < 96
                      · have HGD := Aside.mk (sg_zero P (bitLo a ||| bitLo b) (bitHi a ||| bitHi b) d)
                        have hba := Aside.mk (fun W => spec_l01Bit (a : Int) (by omega) (by omega) W)
                        have hbb := Aside.mk (fun W => spec_l01Bit (b : Int) (by omega) (by omega) W)
                        have hbd3 := Aside.mk (fun W => spec_l01Bit (d : Int) (by omega) (by omega) W)
                        have hfr := Aside.mk (hf.out (bitLo a ||| (bitLo b ||| bitLo d)) (bitHi a ||| (bitHi b ||| bitHi d)))
                        have HAS := Aside.mk (And.intro (BitVec.or_assoc (bitLo (a : Int)) (bitLo b) (bitLo d)) (BitVec.or_assoc (bitHi (a : Int)) (bitHi b) (bitHi d)))
                        generalize bitLo (d : Int) = x3 at *
                        generalize bitHi (d : Int) = y3 at *
                        generalize bitLo (b : Int) = x2 at *
                        generalize bitHi (b : Int) = y2 at *
                        generalize bitLo (a : Int) = x1 at *
                        generalize bitHi (a : Int) = y1 at *
                        (go_wp2_with fail); (go_at_call 123); (refine (hba.out _).mono ?_); rintro e w1 ⟨rfl, hkb⟩
                        have k1 : Keep w w1 := (by ((repeat (first | (with_reducible assumption) | ((with_reducible refine Keep.setCell ?_ ?_ _); rotate_left; focus (first | omega | (simp; done) | (simp; omega))) | (with_reducible refine Keep.alloc ?_ _) | (with_reducible refine Keep.drewN ?_ _) | (with_reducible refine Keep.drew ?_) | (with_reducible exact Keep.refl _) | refine Keep.trans ?_ (by with_reducible assumption) | exact Keep.refl _ | assumption))))
                        replace hZ := hZ.keep hkb
                        clear hkb hk0
                        (go_wp2_with fail); (go_at_call 123); (refine (hbb.out _).mono ?_); rintro e w2 ⟨rfl, hkb⟩
                        have k2 : Keep w w2 := (by ((repeat (first | (with_reducible assumption) | ((with_reducible refine Keep.setCell ?_ ?_ _); rotate_left; focus (first | omega | (simp; done) | (simp; omega))) | (with_reducible refine Keep.alloc ?_ _) | (with_reducible refine Keep.drewN ?_ _) | (with_reducible refine Keep.drew ?_) | (with_reducible exact Keep.refl _) | refine Keep.trans ?_ (by with_reducible assumption) | exact Keep.refl _ | assumption))))
                        replace hZ := hZ.keep hkb
                        clear hkb k1
                        (go_wp2_with fail); (go_at_call 123); (refine (hbd3.out _).mono ?_); rintro e w3 ⟨rfl, hkb⟩
                        have k3 : Keep w w3 := (by ((repeat (first | (with_reducible assumption) | ((with_reducible refine Keep.setCell ?_ ?_ _); rotate_left; focus (first | omega | (simp; done) | (simp; omega))) | (with_reducible refine Keep.alloc ?_ _) | (with_reducible refine Keep.drewN ?_ _) | (with_reducible refine Keep.drew ?_) | (with_reducible exact Keep.refl _) | refine Keep.trans ?_ (by with_reducible assumption) | exact Keep.refl _ | assumption))))
                        replace hZ := hZ.keep hkb
                        clear hkb k2
                        (go_wp2_with fail); (go_at_call 120); (refine (spec_l01Join _ _ _ _ _).mono ?_); rintro e w4 ⟨rfl, hkb⟩
                        have k4 : Keep w w4 := (by ((repeat (first | (with_reducible assumption) | ((with_reducible refine Keep.setCell ?_ ?_ _); rotate_left; focus (first | omega | (simp; done) | (simp; omega))) | (with_reducible refine Keep.alloc ?_ _) | (with_reducible refine Keep.drewN ?_ _) | (with_reducible refine Keep.drew ?_) | (with_reducible exact Keep.refl _) | refine Keep.trans ?_ (by with_reducible assumption) | exact Keep.refl _ | assumption))))
                        replace hZ := hZ.keep hkb
                        clear hkb k3
                        (go_wp2_with fail); (go_at_call 120); (refine (spec_l01Join _ _ _ _ _).mono ?_); rintro e w5 ⟨rfl, hkb⟩
                        have k5 : Keep w w5 := (by ((repeat (first | (with_reducible assumption) | ((with_reducible refine Keep.setCell ?_ ?_ _); rotate_left; focus (first | omega | (simp; done) | (simp; omega))) | (with_reducible refine Keep.alloc ?_ _) | (with_reducible refine Keep.drewN ?_ _) | (with_reducible refine Keep.drew ?_) | (with_reducible exact Keep.refl _) | refine Keep.trans ?_ (by with_reducible assumption) | exact Keep.refl _ | assumption))))
                        replace hZ := hZ.keep hkb
                        clear hkb k4
                        have hkz := k5.size
                        generalize x1 ||| (x2 ||| x3) = x at *
                        generalize y1 ||| (y2 ||| y3) = y at *
                        have hZ1 := hZ.alloc (.cells #[.int .u64 (U x), .int .u64 (U y)] 33)
                        (go_wp2_with fail); (go_at_call 133); (refine (hfr.out _ (hR.keep (by ((repeat (first | (with_reducible assumption) | ((with_reducible refine Keep.setCell ?_ ?_ _); rotate_left; focus (first | omega | (simp; done) | (simp; omega))) | (with_reducible refine Keep.alloc ?_ _) | (with_reducible refine Keep.drewN ?_ _) | (with_reducible refine Keep.drew ?_) | (with_reducible exact Keep.refl _) | refine Keep.trans ?_ (by with_reducible assumption) | exact Keep.refl _ | assumption)))))).mono ?_); rintro e w6 ⟨rfl, hkf⟩
                        have k6 : Keep w w6 := (by ((repeat (first | (with_reducible assumption) | ((with_reducible refine Keep.setCell ?_ ?_ _); rotate_left; focus (first | omega | (simp; done) | (simp; omega))) | (with_reducible refine Keep.alloc ?_ _) | (with_reducible refine Keep.drewN ?_ _) | (with_reducible refine Keep.drew ?_) | (with_reducible exact Keep.refl _) | refine Keep.trans ?_ (by with_reducible assumption) | exact Keep.refl _ | assumption))))
                        have hX : Bx w6 w5.heap.size #[.int .u64 (U x), .int .u64 (U y)] 33 := (Bx.new _ _ _).keep hkf
                        replace hZ := hZ1.keep hkf
                        clear hZ1 hkf hfr k5
                        have HGX : Aside (srG P yes 0 (x1 ||| x2) (y1 ||| y2) d = if P x y then some (x, y) else none) := Aside.mk (by rw [HGD.out, HAS.out.1, HAS.out.2])
                        clear HGD HAS
                        cases hq : P x y
                        · have HN := Aside.mk (show scan (srG P yes 0 (x1 ||| x2) (y1 ||| y2)) (b + 1) (d + 1 - (b + 1)) = none by
                            rw [show d + 1 - (b + 1) = d - (b + 1) + 1 by omega]
                            exact scan_none HSD.out (by rw [show b + 1 + (d - (b + 1)) = d by omega, HGX.out, hq]; rfl))
                          clear HGX HSD hq hX
                          go_wp2
                          go_roundg (96 - (d + 1))
                          case measure => omega
                          case rel => exact ⟨d + 1, by omega, by omega, by go_num, HN.out, hZ, (by ((repeat (first | (with_reducible assumption) | ((with_reducible refine Keep.setCell ?_ ?_ _); rotate_left; focus (first | omega | (simp; done) | (simp; omega))) | (with_reducible refine Keep.alloc ?_ _) | (with_reducible refine Keep.drewN ?_ _) | (with_reducible refine Keep.drew ?_) | (with_reducible exact Keep.refl _) | refine Keep.trans ?_ (by with_reducible assumption) | exact Keep.refl _ | assumption))))⟩
                        · have e0 : srG P yes 1 x1 y1 b = some (x, y) := by
                            rw [HGB.out]
                            exact scan_some (n := d - (b + 1)) HSD.out (by rw [show b + 1 + (d - (b + 1)) = d by omega, HGX.out, hq]; rfl) _ (by omega)
                          have e1 : srG P yes 2 0#64 0#64 a = some (x, y) := by
                            rw [HGA.out]
                            exact scan_some (n := b - (a + 1)) HSB.out (by rw [show a + 1 + (b - (a + 1)) = b by omega]; exact e0) _ (by omega)
                          have e2 : R = some (x, y) := Z3.out _ HN1.out HN2.out (scan_some (n := a) HSC.out (by rw [Nat.zero_add]; exact e1) 96 hlt)
                          subst e2
                          have hXs := hX.two
                          have hZs := hZ.two
                          clear HGA HGB HGX HSB HSC HSD hq Z3 ZN HN1 HN2 e0 e1
                          go_wp2
                          (apply bodyPost_ret; rotate_left; rfl; exact ⟨rfl, (by ((repeat (first | (with_reducible assumption) | ((with_reducible refine Keep.setCell ?_ ?_ _); rotate_left; focus (first | omega | (simp; done) | (simp; omega))) | (with_reducible refine Keep.alloc ?_ _) | (with_reducible refine Keep.drewN ?_ _) | (with_reducible refine Keep.drew ?_) | (with_reducible exact Keep.refl _) | refine Keep.trans ?_ (by with_reducible assumption) | exact Keep.refl _ | assumption))))⟩; simp [results, Tryd.results77, go_sem, U_zero, *])
                          exact ⟨⟨rfl, rfl⟩, rfl⟩
                      · obtain rfl : d = 96 := by omega
                        have HN := Aside.mk (show scan (srG P yes 1 (bitLo a) (bitHi a)) (a + 1) (b + 1 - (a + 1)) = none by
                          rw [show b + 1 - (a + 1) = b - (a + 1) + 1 by omega]
                          exact scan_none HSB.out (by rw [show a + 1 + (b - (a + 1)) = b by omega, HGB.out]; exact HSD.out))
                        clear HSC HSB HGA HGB HSD
                        go_wp2
                        go_roundg (96 - (b + 1))
                        case measure => omega
                        case rel => exact ⟨b + 1, by omega, by omega, by go_num, HN.out, hZ, (by ((repeat (first | (with_reducible assumption) | ((with_reducible refine Keep.setCell ?_ ?_ _); rotate_left; focus (first | omega | (simp; done) | (simp; omega))) | (with_reducible refine Keep.alloc ?_ _) | (with_reducible refine Keep.drewN ?_ _) | (with_reducible refine Keep.drew ?_) | (with_reducible exact Keep.refl _) | refine Keep.trans ?_ (by with_reducible assumption) | exact Keep.refl _ | assumption))))⟩
                  · obtain rfl : b = 96 := by omega
                    have HN := Aside.mk (show scan (srG P yes 2 0#64 0#64) 0 (a + 1) = none from scan_none HSC.out (by rw [Nat.zero_add, HGA.out]; exact HSB.out))
                    clear HSC HSB HGA
                    go_wp2
                    go_roundg (96 - (a + 1))
                    case measure => omega
                    case rel => exact ⟨a + 1, by omega, by go_num, HN.out, hZ, (by ((repeat (first | (with_reducible assumption) | ((with_reducible refine Keep.setCell ?_ ?_ _); rotate_left; focus (first | omega | (simp; done) | (simp; omega))) | (with_reducible refine Keep.alloc ?_ _) | (with_reducible refine Keep.drewN ?_ _) | (with_reducible refine Keep.drew ?_) | (with_reducible exact Keep.refl _) | refine Keep.trans ?_ (by with_reducible assumption) | exact Keep.refl _ | assumption))))⟩
              · obtain rfl : a = 96 := by omega
                have e2 : R = none := ZN.out HN1.out HN2.out HSC.out
                subst e2
                have hZs := hZ.two
                clear HSC Z3 ZN HN1 HN2
                go_wp2
                (apply bodyPost_ret; rotate_left; rfl; exact ⟨rfl, (by ((repeat (first | (with_reducible assumption) | ((with_reducible refine Keep.setCell ?_ ?_ _); rotate_left; focus (first | omega | (simp; done) | (simp; omega))) | (with_reducible refine Keep.alloc ?_ _) | (with_reducible refine Keep.drewN ?_ _) | (with_reducible refine Keep.drew ?_) | (with_reducible exact Keep.refl _) | refine Keep.trans ?_ (by with_reducible assumption) | exact Keep.refl _ | assumption))))⟩; simp [results, Tryd.results77, go_sem, U_zero, *])
                exact ⟨⟨rfl, rfl⟩, rfl⟩
end Go.Proofs.YtpmilcfppcmodaaDoor

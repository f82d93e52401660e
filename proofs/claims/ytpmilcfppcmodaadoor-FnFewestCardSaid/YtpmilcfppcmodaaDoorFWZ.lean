/- The fewest needles: the masks that may be, by the meet of the wanted cards; plain. -/
import Derived.Test.YtpmilcfppcmodaaDoorFWY
import Derived.Test.YtpmilcfppcmodaaDoorDS
import Derived.Test.YtpmilcfppcmodaaDoorDT
import Derived.Test.YtpmilcfppcmodaaDoorW3
import Derived.Test.YtpmilcfppcmodaaDoorOW
set_option linter.unusedVariables false
set_option linter.unusedSimpArgs false
namespace Go.Proofs.YtpmilcfppcmodaaDoor
open Go.RowKit Go.Shelf
set_option maxHeartbeats 1000000
set_option maxRecDepth 20000
/-- The search asks its test at masks alone: equal tests, equal searches. -/
theorem scan_congr {α : Type} {g g' : Nat → Option α} {f : Nat} : ∀ n, (∀ h, f ≤ h → h < f + n → g h = g' h) → scan g f n = scan g' f n
  | 0, _ => rfl
  | n + 1, e => by
    have e1 := scan_congr n (fun h h1 h2 => e h h1 (by omega))
    simp only [scan]
    rw [e1, e (f + n) (by omega) (by omega)]
theorem srch_congr {P P' : Wd → Wd → Bool} {may may' : Nat → Bool} (hP : ∀ a b, P a b = P' a b) (hm : ∀ h, h < 96 → may h = may' h) : ∀ k f a b, srch P may k f a b = srch P' may' k f a b
  | 0, f, a, b => by unfold srch; rw [hP]
  | k + 1, f, a, b => by
    rw [srch_succ, srch_succ]
    by_cases hf : f ≤ 96
    · refine scan_congr _ (fun h h1 h2 => ?_)
      unfold srG
      rw [hm h (by omega), srch_congr hP hm k]
    · rw [show 96 - f = 0 by omega]; rfl
theorem anN_nil {l : List Cd} {qs : List Qy} : ∀ {i : Nat}, i ≤ l.length → (anN l qs i = [] ↔ (l.take i).any (fun c => qs.any (qdrB c.a c.b)) = false)
  | 0, _ => by simp [anN]
  | i + 1, hi => by
    have ih := anN_nil (l := l) (qs := qs) (i := i) (by omega)
    have h1 : i < l.length := by omega
    have e := any_takeD (q := fun c : Cd => qs.any (qdrB c.a c.b)) h1
    rw [e, Bool.or_eq_false_iff, ← ih]
    have e2 := drAt_at qs h1
    cases hd : drAt l qs i
    · rw [anN_no hd]
      rw [hd] at e2
      constructor
      · exact fun h => ⟨h, e2.symm⟩
      · exact fun h => h.1
    · rw [anN_yes hd]
      rw [hd] at e2
      constructor
      · intro h; simp at h
      · intro h; rw [← e2] at h; simp at h
theorem qdr_all (a b x y : Wd) : qdrB x y ⟨a, b, 0#64, 0#64⟩ = withinB a b x y := by
  unfold qdrB dropsB; simp
theorem fit_nil (l : List Cd) (a b : Wd) : fitB l [] a b = freeB l a b := by
  unfold fitB freeB ansL
  have h := anN_nil (l := l) (qs := [⟨a, b, 0#64, 0#64⟩]) (i := l.length) (Nat.le_refl _)
  rw [List.take_length] at h
  simp only [List.any_cons, List.any_nil, Bool.or_false, qdr_all] at h
  cases hq : l.any (fun c => withinB a b c.a c.b)
  · rw [hq] at h; simp [h]
  · rw [hq] at h
    have : ¬ anN l [⟨a, b, 0#64, 0#64⟩] l.length = [] := fun e => by simpa using h.1 e
    simp [this]
end Go.Proofs.YtpmilcfppcmodaaDoor
namespace Go.Proofs.YtpmilcfppcmodaaDoor
open Go.RowKit Go.Shelf
set_option maxHeartbeats 1000000
set_option maxRecDepth 20000
theorem hasB_and (a b x y : Wd) (h : Int) : hasB (a &&& x) (b &&& y) h = (hasB a b h && hasB x y h) := by
  by_cases hh : h < 64
  · rw [hasB_lt hh, hasB_lt hh, hasB_lt hh, BitVec.getLsbD_and]
  · rw [hasB_ge hh, hasB_ge hh, hasB_ge hh, BitVec.getLsbD_and]
def allLo : Wd := 18446744073709551615#64
def allHi : Wd := 4294967295#64
theorem hasB_all {h : Nat} (h1 : h < 96) : hasB allLo allHi (h : Int) = true := by
  have : ∀ n : Fin 96, hasB allLo allHi ((n.val : Nat) : Int) = true := by decide +kernel
  exact this ⟨h, h1⟩
/-- The mask of the card with this index. -/
def cdLo (l : List Cd) (k : Int) : Wd := match l[k.toNat]? with | some c => c.a | none => 0#64
def cdHi (l : List Cd) (k : Int) : Wd := match l[k.toNat]? with | some c => c.b | none => 0#64
def mtLo (l : List Cd) (wd : List Int) : Wd := wd.foldl (fun m k => m &&& cdLo l k) allLo
def mtHi (l : List Cd) (wd : List Int) : Wd := wd.foldl (fun m k => m &&& cdHi l k) allHi
theorem mtLo_succ {l : List Cd} {wd : List Int} {i : Nat} (h : i < wd.length) : mtLo l (wd.take (i + 1)) = mtLo l (wd.take i) &&& cdLo l wd[i] := by
  unfold mtLo; rw [List.take_succ_eq_append_getElem h, List.foldl_append]; rfl
theorem mtHi_succ {l : List Cd} {wd : List Int} {i : Nat} (h : i < wd.length) : mtHi l (wd.take (i + 1)) = mtHi l (wd.take i) &&& cdHi l wd[i] := by
  unfold mtHi; rw [List.take_succ_eq_append_getElem h, List.foldl_append]; rfl
theorem has_cd (l : List Cd) (k h : Int) : hasB (cdLo l k) (cdHi l k) h = hasAt l h k := by
  unfold cdLo cdHi hasAt
  cases l[k.toNat]? with
  | some c => rfl
  | none => unfold hasB; split <;> simp
theorem has_fold (l : List Cd) (h : Int) : ∀ (wd : List Int) (a b : Wd), hasB (wd.foldl (fun m k => m &&& cdLo l k) a) (wd.foldl (fun m k => m &&& cdHi l k) b) h = (hasB a b h && wd.all (hasAt l h))
  | [], a, b => by simp
  | k :: wd, a, b => by
    rw [List.foldl_cons, List.foldl_cons, has_fold l h wd, hasB_and, has_cd, List.all_cons, Bool.and_assoc]
theorem has_mt {l : List Cd} {wd : List Int} {h : Nat} (h1 : h < 96) : hasB (mtLo l wd) (mtHi l wd) (h : Int) = mayI l wd h := by
  unfold mtLo mtHi mayI
  rw [has_fold, hasB_all h1, Bool.true_and]
end Go.Proofs.YtpmilcfppcmodaaDoor

set_option linter.unusedVariables false
set_option linter.unusedSimpArgs false
namespace Go.Proofs.YtpmilcfppcmodaaDoor
open Go.RowKit Go.Shelf
set_option maxHeartbeats 2000000
set_option maxRecDepth 20000
/-- The first answer with none, one, two or three holes. -/
def fnR (P : Wd → Wd → Bool) (may : Nat → Bool) : Option (Wd × Wd) := match srch P may 0 0 0#64 0#64 with
  | some z => some z
  | none => match srch P may 1 0 0#64 0#64 with
    | some z => some z
    | none => match srch P may 2 0 0#64 0#64 with
      | some z => some z
      | none => srch P may 3 0 0#64 0#64
def fnA (r : Option (Wd × Wd)) : Wd := match r with | some z => z.1 | none => 0#64
def fnB (r : Option (Wd × Wd)) : Wd := match r with | some z => z.2 | none => 0#64
def fnE (r : Option (Wd × Wd)) : Int := match r with | some _ => 0 | none => 6
theorem fnR_congr {P P' : Wd → Wd → Bool} {may may' : Nat → Bool} (hP : ∀ a b, P a b = P' a b) (hm : ∀ h, h < 96 → may h = may' h) : fnR P may = fnR P' may' := by
  unfold fnR; rw [srch_congr hP hm, srch_congr hP hm, srch_congr hP hm, srch_congr hP hm]
def yes (_ : Nat) : Bool := true
theorem sg_zero (P : Wd → Wd → Bool) (a b : Wd) (h : Nat) : srG P yes 0 a b h = if P (a ||| bitLo h) (b ||| bitHi h) then some (a ||| bitLo h, b ||| bitHi h) else none := by
  unfold srG yes srch; rfl
theorem sg_succ (P : Wd → Wd → Bool) (k : Nat) (a b : Wd) (h : Nat) : srG P yes (k + 1) a b h = scan (srG P yes k (a ||| bitLo h) (b ||| bitHi h)) (h + 1) (96 - (h + 1)) := by
  unfold srG yes; rw [if_pos rfl, srch_succ]; rfl
theorem free_zero {l : List Cd} (h : l ≠ []) : freeB l 0#64 0#64 = false := by
  cases l with
  | nil => exact absurd rfl h
  | cons c l => unfold freeB withinB; simp
theorem srch_zero (P : Wd → Wd → Bool) (may : Nat → Bool) (f : Nat) (a b : Wd) : srch P may 0 f a b = if P a b then some (a, b) else none := by unfold srch; rfl
theorem spec_l02Nothing (A : Option Addr) (l : List Cd) (c : Nat) (w : World) (hm : l.length ≤ 1048576) (hR : Rd w A (cds l)) :
    Calls Tryd.prog 77 #[.slice A l.length c] w fun e w' => e = .returned (.tuple #[.agg #[.int .u64 (U (fnA (fnR (freeB l) yes))), .int .u64 (U (fnB (fnR (freeB l) yes)))], .int .i64 (fnE (fnR (freeB l) yes))]) ∧ Keep w w' := by
  by_cases h0 : l.length = 0
  · obtain rfl := List.eq_nil_of_length_eq_zero h0
    have e : fnR (freeB []) yes = some (0#64, 0#64) := by unfold fnR; rw [srch_zero]; rfl
    rw [e]
    go_enter Tryd.func77, Tryd.ntmps77
    go_wp2
    (apply bodyPost_ret; rotate_left; rfl; exact ⟨rfl, (by ((repeat (first | (with_reducible assumption) | ((with_reducible refine Keep.setCell ?_ ?_ _); rotate_left; focus (first | omega | (simp; done) | (simp; omega))) | (with_reducible refine Keep.alloc ?_ _) | (with_reducible refine Keep.drewN ?_ _) | (with_reducible refine Keep.drew ?_) | (with_reducible exact Keep.refl _) | refine Keep.trans ?_ (by with_reducible assumption) | exact Keep.refl _ | assumption))))⟩; simp [results, Tryd.results77, go_sem, U_zero, *])
    exact ⟨⟨rfl, rfl⟩, rfl⟩
  · have hne : l ≠ [] := fun e => h0 (by rw [e]; rfl)
    have z0 : srch (freeB l) yes 0 0 0#64 0#64 = none := by rw [srch_zero, free_zero hne]; rfl
    have hf := Aside.mk (fun a b W h => spec_l02Free A l c a b W hm h)
    obtain ⟨P, hP⟩ : ∃ P, freeB l = P := ⟨_, rfl⟩
    simp only [hP] at hf
    rw [hP] at z0
    rw [hP]
    have Z1 := Aside.mk (fun z (h : scan (srG P yes 0 0#64 0#64) 0 96 = some z) => (show fnR P yes = some z by unfold fnR; rw [z0, srch_succ]; simp only [Nat.sub_zero, h]))
    have Z2 := Aside.mk (fun z (h1 : scan (srG P yes 0 0#64 0#64) 0 96 = none) (h : scan (srG P yes 1 0#64 0#64) 0 96 = some z) => (show fnR P yes = some z by unfold fnR; rw [z0, srch_succ, srch_succ]; simp only [Nat.sub_zero, h1, h]))
    have Z3 := Aside.mk (fun z (h1 : scan (srG P yes 0 0#64 0#64) 0 96 = none) (h2 : scan (srG P yes 1 0#64 0#64) 0 96 = none) (h : scan (srG P yes 2 0#64 0#64) 0 96 = some z) => (show fnR P yes = some z by unfold fnR; rw [z0, srch_succ, srch_succ, srch_succ]; simp only [Nat.sub_zero, h1, h2, h]))
    have ZN := Aside.mk (fun (h1 : scan (srG P yes 0 0#64 0#64) 0 96 = none) (h2 : scan (srG P yes 1 0#64 0#64) 0 96 = none) (h : scan (srG P yes 2 0#64 0#64) 0 96 = none) => (show fnR P yes = none by unfold fnR; rw [z0, srch_succ, srch_succ, srch_succ]; simp only [Nat.sub_zero, h1, h2, h]))
    have hl0 : ¬ ((l.length : Int) = 0) := by omega
    have hlb : ((l.length : Int) == 0) = false := by simpa using hl0
    obtain ⟨R, hRR⟩ : ∃ R, fnR P yes = R := ⟨_, rfl⟩
    rw [hRR]
    simp only [hRR] at Z1 Z2 Z3 ZN
    clear hP
    go_enter Tryd.func77, Tryd.ntmps77
    go_wp2_with fail
    try simp only [hlb]
    go_loopg [4] 96 (fun n s4 wr => ∃ a : Nat, a + n = 96 ∧ s4 = .int .i64 a ∧ scan (srG P yes 0 0#64 0#64) 0 a = none ∧ Bx wr w.heap.size #[.int .u64 0, .int .u64 0] 33 ∧ Keep w wr)
    case atStart => exact ⟨0, by omega, rfl, rfl, Bx.new _ _ _, (by ((repeat (first | (with_reducible assumption) | ((with_reducible refine Keep.setCell ?_ ?_ _); rotate_left; focus (first | omega | (simp; done) | (simp; omega))) | (with_reducible refine Keep.alloc ?_ _) | (with_reducible refine Keep.drewN ?_ _) | (with_reducible refine Keep.drew ?_) | (with_reducible exact Keep.refl _) | refine Keep.trans ?_ (by with_reducible assumption) | exact Keep.refl _ | assumption))))⟩
    case round =>
      obtain ⟨a, ha, rfl, hsc, hZ, hk0⟩ := hrel
      have HSC := Aside.mk hsc
      clear hsc
      by_cases hlt : a < 96
      · have hsg : srG P yes 0 0#64 0#64 a = if P (bitLo a) (bitHi a) then some (bitLo a, bitHi a) else none := by rw [sg_zero, BitVec.zero_or, BitVec.zero_or]
        have HG := Aside.mk hsg
        clear hsg
        (go_wp2_with fail); (go_at_call 123); (refine (spec_l01Bit _ (by omega) (by omega) _).mono ?_); rintro e w1 ⟨rfl, hkb⟩
        have k1 : Keep w w1 := (by ((repeat (first | (with_reducible assumption) | ((with_reducible refine Keep.setCell ?_ ?_ _); rotate_left; focus (first | omega | (simp; done) | (simp; omega))) | (with_reducible refine Keep.alloc ?_ _) | (with_reducible refine Keep.drewN ?_ _) | (with_reducible refine Keep.drew ?_) | (with_reducible exact Keep.refl _) | refine Keep.trans ?_ (by with_reducible assumption) | exact Keep.refl _ | assumption))))
        replace hZ := hZ.keep hkb
        have hkz := k1.size
        clear hkb hk0
        have hfr := hf.out (bitLo a) (bitHi a)
        generalize bitLo (a : Int) = x at *
        generalize bitHi (a : Int) = y at *
        have hZ1 := hZ.alloc (.cells #[.int .u64 (U x), .int .u64 (U y)] 33)
        (go_wp2_with fail); (go_at_call 133); (refine (hfr _ (hR.keep (by ((repeat (first | (with_reducible assumption) | ((with_reducible refine Keep.setCell ?_ ?_ _); rotate_left; focus (first | omega | (simp; done) | (simp; omega))) | (with_reducible refine Keep.alloc ?_ _) | (with_reducible refine Keep.drewN ?_ _) | (with_reducible refine Keep.drew ?_) | (with_reducible exact Keep.refl _) | refine Keep.trans ?_ (by with_reducible assumption) | exact Keep.refl _ | assumption)))))).mono ?_); rintro e w2 ⟨rfl, hkf⟩
        have k2 : Keep w w2 := (by ((repeat (first | (with_reducible assumption) | ((with_reducible refine Keep.setCell ?_ ?_ _); rotate_left; focus (first | omega | (simp; done) | (simp; omega))) | (with_reducible refine Keep.alloc ?_ _) | (with_reducible refine Keep.drewN ?_ _) | (with_reducible refine Keep.drew ?_) | (with_reducible exact Keep.refl _) | refine Keep.trans ?_ (by with_reducible assumption) | exact Keep.refl _ | assumption))))
        have hX : Bx w2 w1.heap.size #[.int .u64 (U x), .int .u64 (U y)] 33 := (Bx.new _ _ _).keep hkf
        replace hZ := hZ1.keep hkf
        clear hZ1 hkf hfr
        cases hq : P x y
        · have HN := Aside.mk (show scan (srG P yes 0 0#64 0#64) 0 (a + 1) = none from scan_none HSC.out (by rw [Nat.zero_add, HG.out, hq]; rfl))
          clear HG HSC hq hX
          go_wp2
          go_roundg (96 - (a + 1))
          case measure => omega
          case rel => exact ⟨a + 1, by omega, by go_num, HN.out, hZ, (by ((repeat (first | (with_reducible assumption) | ((with_reducible refine Keep.setCell ?_ ?_ _); rotate_left; focus (first | omega | (simp; done) | (simp; omega))) | (with_reducible refine Keep.alloc ?_ _) | (with_reducible refine Keep.drewN ?_ _) | (with_reducible refine Keep.drew ?_) | (with_reducible exact Keep.refl _) | refine Keep.trans ?_ (by with_reducible assumption) | exact Keep.refl _ | assumption))))⟩
        · have e2 : R = some (x, y) := Z1.out _ (scan_some (n := a) HSC.out (by rw [Nat.zero_add, HG.out, hq]; rfl) 96 hlt)
          subst e2
          have hXs := hX.two
          have hZs := hZ.two
          clear HG HSC hq Z1 Z2 Z3 ZN
          go_wp2
          (apply bodyPost_ret; rotate_left; rfl; exact ⟨rfl, (by ((repeat (first | (with_reducible assumption) | ((with_reducible refine Keep.setCell ?_ ?_ _); rotate_left; focus (first | omega | (simp; done) | (simp; omega))) | (with_reducible refine Keep.alloc ?_ _) | (with_reducible refine Keep.drewN ?_ _) | (with_reducible refine Keep.drew ?_) | (with_reducible exact Keep.refl _) | refine Keep.trans ?_ (by with_reducible assumption) | exact Keep.refl _ | assumption))))⟩; simp [results, Tryd.results77, go_sem, U_zero, *])
          exact ⟨⟨rfl, rfl⟩, rfl⟩
      · obtain rfl : a = 96 := by omega
        clear Z1
        have HN1 := Aside.mk HSC.out
        clear HSC
        go_wp2_with fail
        go_loopg [6] 96 (fun n s6 wr => ∃ a : Nat, a + n = 96 ∧ s6 = .int .i64 a ∧ scan (srG P yes 1 0#64 0#64) 0 a = none ∧ Bx wr w.heap.size #[.int .u64 0, .int .u64 0] 33 ∧ Keep w wr)
        case atStart => exact ⟨0, by omega, rfl, rfl, hZ, (by ((repeat (first | (with_reducible assumption) | ((with_reducible refine Keep.setCell ?_ ?_ _); rotate_left; focus (first | omega | (simp; done) | (simp; omega))) | (with_reducible refine Keep.alloc ?_ _) | (with_reducible refine Keep.drewN ?_ _) | (with_reducible refine Keep.drew ?_) | (with_reducible exact Keep.refl _) | refine Keep.trans ?_ (by with_reducible assumption) | exact Keep.refl _ | assumption))))⟩
        case round =>
          obtain ⟨a, ha, rfl, hsc, hZ, hk0⟩ := hrel
          have HSC := Aside.mk hsc
          clear hsc
          by_cases hlt : a < 96
          · have HGA := Aside.mk (show srG P yes 1 0#64 0#64 a = scan (srG P yes 0 (bitLo a) (bitHi a)) (a + 1) (96 - (a + 1)) by rw [sg_succ, BitVec.zero_or, BitVec.zero_or])
            have hltd : decide ((a : Int) < 96) = true := decide_eq_true (by omega)
            go_wp2_with fail
            try simp only [hltd]
            go_loopg [7] (96 - (a + 1)) (fun n s7 wq => ∃ b : Nat, b + n = 96 ∧ a + 1 ≤ b ∧ s7 = .int .i64 b ∧ scan (srG P yes 0 (bitLo a) (bitHi a)) (a + 1) (b - (a + 1)) = none ∧ Bx wq w.heap.size #[.int .u64 0, .int .u64 0] 33 ∧ Keep w wq)
            case atStart => exact ⟨a + 1, by omega, by omega, by go_num, by rw [Nat.sub_self]; rfl, hZ, (by ((repeat (first | (with_reducible assumption) | ((with_reducible refine Keep.setCell ?_ ?_ _); rotate_left; focus (first | omega | (simp; done) | (simp; omega))) | (with_reducible refine Keep.alloc ?_ _) | (with_reducible refine Keep.drewN ?_ _) | (with_reducible refine Keep.drew ?_) | (with_reducible exact Keep.refl _) | refine Keep.trans ?_ (by with_reducible assumption) | exact Keep.refl _ | assumption))))⟩
            case round =>
              obtain ⟨b, hb, hab, rfl, hsb, hZ, hk0⟩ := hrel
              have HSB := Aside.mk hsb
              clear hsb
              by_cases hbt : b < 96
              · have HGB := Aside.mk (sg_zero P (bitLo a) (bitHi a) b)
                have hba := Aside.mk (fun W => spec_l01Bit (a : Int) (by omega) (by omega) W)
                have hbb := Aside.mk (fun W => spec_l01Bit (b : Int) (by omega) (by omega) W)
                have hfr := Aside.mk (hf.out (bitLo a ||| bitLo b) (bitHi a ||| bitHi b))
                generalize bitLo (b : Int) = x2 at *
                generalize bitHi (b : Int) = y2 at *
                generalize bitLo (a : Int) = x1 at *
                generalize bitHi (a : Int) = y1 at *
                (go_wp2_with fail); (go_at_call 123); (refine (hba.out _).mono ?_); rintro e w1 ⟨rfl, hkb⟩
                have k1 : Keep w w1 := (by ((repeat (first | (with_reducible assumption) | ((with_reducible refine Keep.setCell ?_ ?_ _); rotate_left; focus (first | omega | (simp; done) | (simp; omega))) | (with_reducible refine Keep.alloc ?_ _) | (with_reducible refine Keep.drewN ?_ _) | (with_reducible refine Keep.drew ?_) | (with_reducible exact Keep.refl _) | refine Keep.trans ?_ (by with_reducible assumption) | exact Keep.refl _ | assumption))))
                replace hZ := hZ.keep hkb
                clear hkb hk0
                (go_wp2_with fail); (go_at_call 123); (refine (hbb.out _).mono ?_); rintro e w2 ⟨rfl, hkb⟩
                have k2 : Keep w w2 := (by ((repeat (first | (with_reducible assumption) | ((with_reducible refine Keep.setCell ?_ ?_ _); rotate_left; focus (first | omega | (simp; done) | (simp; omega))) | (with_reducible refine Keep.alloc ?_ _) | (with_reducible refine Keep.drewN ?_ _) | (with_reducible refine Keep.drew ?_) | (with_reducible exact Keep.refl _) | refine Keep.trans ?_ (by with_reducible assumption) | exact Keep.refl _ | assumption))))
                replace hZ := hZ.keep hkb
                clear hkb k1
                (go_wp2_with fail); (go_at_call 120); (refine (spec_l01Join _ _ _ _ _).mono ?_); rintro e w3 ⟨rfl, hkb⟩
                have k3 : Keep w w3 := (by ((repeat (first | (with_reducible assumption) | ((with_reducible refine Keep.setCell ?_ ?_ _); rotate_left; focus (first | omega | (simp; done) | (simp; omega))) | (with_reducible refine Keep.alloc ?_ _) | (with_reducible refine Keep.drewN ?_ _) | (with_reducible refine Keep.drew ?_) | (with_reducible exact Keep.refl _) | refine Keep.trans ?_ (by with_reducible assumption) | exact Keep.refl _ | assumption))))
                replace hZ := hZ.keep hkb
                clear hkb k2
                have hkz := k3.size
                generalize x1 ||| x2 = x at *
                generalize y1 ||| y2 = y at *
                have hZ1 := hZ.alloc (.cells #[.int .u64 (U x), .int .u64 (U y)] 33)
                (go_wp2_with fail); (go_at_call 133); (refine (hfr.out _ (hR.keep (by ((repeat (first | (with_reducible assumption) | ((with_reducible refine Keep.setCell ?_ ?_ _); rotate_left; focus (first | omega | (simp; done) | (simp; omega))) | (with_reducible refine Keep.alloc ?_ _) | (with_reducible refine Keep.drewN ?_ _) | (with_reducible refine Keep.drew ?_) | (with_reducible exact Keep.refl _) | refine Keep.trans ?_ (by with_reducible assumption) | exact Keep.refl _ | assumption)))))).mono ?_); rintro e w4 ⟨rfl, hkf⟩
                have k4 : Keep w w4 := (by ((repeat (first | (with_reducible assumption) | ((with_reducible refine Keep.setCell ?_ ?_ _); rotate_left; focus (first | omega | (simp; done) | (simp; omega))) | (with_reducible refine Keep.alloc ?_ _) | (with_reducible refine Keep.drewN ?_ _) | (with_reducible refine Keep.drew ?_) | (with_reducible exact Keep.refl _) | refine Keep.trans ?_ (by with_reducible assumption) | exact Keep.refl _ | assumption))))
                have hX : Bx w4 w3.heap.size #[.int .u64 (U x), .int .u64 (U y)] 33 := (Bx.new _ _ _).keep hkf
                replace hZ := hZ1.keep hkf
                clear hZ1 hkf hfr k3
                cases hq : P x y
                · have HN := Aside.mk (show scan (srG P yes 0 x1 y1) (a + 1) (b + 1 - (a + 1)) = none by
                    rw [show b + 1 - (a + 1) = b - (a + 1) + 1 by omega]
                    exact scan_none HSB.out (by rw [show a + 1 + (b - (a + 1)) = b by omega, HGB.out, hq]; rfl))
                  clear HGB HSB hq hX
                  go_wp2
                  go_roundg (96 - (b + 1))
                  case measure => omega
                  case rel => exact ⟨b + 1, by omega, by omega, by go_num, HN.out, hZ, (by ((repeat (first | (with_reducible assumption) | ((with_reducible refine Keep.setCell ?_ ?_ _); rotate_left; focus (first | omega | (simp; done) | (simp; omega))) | (with_reducible refine Keep.alloc ?_ _) | (with_reducible refine Keep.drewN ?_ _) | (with_reducible refine Keep.drew ?_) | (with_reducible exact Keep.refl _) | refine Keep.trans ?_ (by with_reducible assumption) | exact Keep.refl _ | assumption))))⟩
                · have e1 : srG P yes 1 0#64 0#64 a = some (x, y) := by
                    rw [HGA.out]
                    exact scan_some (n := b - (a + 1)) HSB.out (by rw [show a + 1 + (b - (a + 1)) = b by omega, HGB.out, hq]; rfl) _ (by omega)
                  have e2 : R = some (x, y) := Z2.out _ HN1.out (scan_some (n := a) HSC.out (by rw [Nat.zero_add]; exact e1) 96 hlt)
                  subst e2
                  have hXs := hX.two
                  have hZs := hZ.two
                  clear HGA HGB HSB HSC hq Z2 Z3 ZN HN1 e1
                  go_wp2
                  (apply bodyPost_ret; rotate_left; rfl; exact ⟨rfl, (by ((repeat (first | (with_reducible assumption) | ((with_reducible refine Keep.setCell ?_ ?_ _); rotate_left; focus (first | omega | (simp; done) | (simp; omega))) | (with_reducible refine Keep.alloc ?_ _) | (with_reducible refine Keep.drewN ?_ _) | (with_reducible refine Keep.drew ?_) | (with_reducible exact Keep.refl _) | refine Keep.trans ?_ (by with_reducible assumption) | exact Keep.refl _ | assumption))))⟩; simp [results, Tryd.results77, go_sem, U_zero, *])
                  exact ⟨⟨rfl, rfl⟩, rfl⟩
              · obtain rfl : b = 96 := by omega
                have HN := Aside.mk (show scan (srG P yes 1 0#64 0#64) 0 (a + 1) = none from scan_none HSC.out (by rw [Nat.zero_add, HGA.out]; exact HSB.out))
                clear HSC HSB HGA
                go_wp2
                go_roundg (96 - (a + 1))
                case measure => omega
                case rel => exact ⟨a + 1, by omega, by go_num, HN.out, hZ, (by ((repeat (first | (with_reducible assumption) | ((with_reducible refine Keep.setCell ?_ ?_ _); rotate_left; focus (first | omega | (simp; done) | (simp; omega))) | (with_reducible refine Keep.alloc ?_ _) | (with_reducible refine Keep.drewN ?_ _) | (with_reducible refine Keep.drew ?_) | (with_reducible exact Keep.refl _) | refine Keep.trans ?_ (by with_reducible assumption) | exact Keep.refl _ | assumption))))⟩
          · obtain rfl : a = 96 := by omega
            clear Z2
            have HN2 := Aside.mk HSC.out
            clear HSC
            go_wp2_with fail
            go_loopg [9] 96 (fun n s9 wr => ∃ a : Nat, a + n = 96 ∧ s9 = .int .i64 a ∧ scan (srG P yes 2 0#64 0#64) 0 a = none ∧ Bx wr w.heap.size #[.int .u64 0, .int .u64 0] 33 ∧ Keep w wr)
            case atStart => exact ⟨0, by omega, rfl, rfl, hZ, (by ((repeat (first | (with_reducible assumption) | ((with_reducible refine Keep.setCell ?_ ?_ _); rotate_left; focus (first | omega | (simp; done) | (simp; omega))) | (with_reducible refine Keep.alloc ?_ _) | (with_reducible refine Keep.drewN ?_ _) | (with_reducible refine Keep.drew ?_) | (with_reducible exact Keep.refl _) | refine Keep.trans ?_ (by with_reducible assumption) | exact Keep.refl _ | assumption))))⟩
            case round =>
              obtain ⟨a, ha, rfl, hsc, hZ, hk0⟩ := hrel
              have HSC := Aside.mk hsc
              clear hsc
              by_cases hlt : a < 96
              · have HGA := Aside.mk (show srG P yes 2 0#64 0#64 a = scan (srG P yes 1 (bitLo a) (bitHi a)) (a + 1) (96 - (a + 1)) by rw [sg_succ, BitVec.zero_or, BitVec.zero_or])
                have hltd : decide ((a : Int) < 96) = true := decide_eq_true (by omega)
                go_wp2_with fail
                try simp only [hltd]
                go_loopg [10] (96 - (a + 1)) (fun n s10 wq => ∃ b : Nat, b + n = 96 ∧ a + 1 ≤ b ∧ s10 = .int .i64 b ∧ scan (srG P yes 1 (bitLo a) (bitHi a)) (a + 1) (b - (a + 1)) = none ∧ Bx wq w.heap.size #[.int .u64 0, .int .u64 0] 33 ∧ Keep w wq)
                case atStart => exact ⟨a + 1, by omega, by omega, by go_num, by rw [Nat.sub_self]; rfl, hZ, (by ((repeat (first | (with_reducible assumption) | ((with_reducible refine Keep.setCell ?_ ?_ _); rotate_left; focus (first | omega | (simp; done) | (simp; omega))) | (with_reducible refine Keep.alloc ?_ _) | (with_reducible refine Keep.drewN ?_ _) | (with_reducible refine Keep.drew ?_) | (with_reducible exact Keep.refl _) | refine Keep.trans ?_ (by with_reducible assumption) | exact Keep.refl _ | assumption))))⟩
                case round =>
                  obtain ⟨b, hb, hab, rfl, hsb, hZ, hk0⟩ := hrel
                  have HSB := Aside.mk hsb
                  clear hsb
                  by_cases hbt : b < 96
                  · have HGB := Aside.mk (sg_succ P 0 (bitLo a) (bitHi a) b)
                    have hbtd : decide ((b : Int) < 96) = true := decide_eq_true (by omega)
                    go_wp2_with fail
                    try simp only [hbtd]
                    go_loopg [11] (96 - (b + 1)) (fun n s11 wp => ∃ d : Nat, d + n = 96 ∧ b + 1 ≤ d ∧ s11 = .int .i64 d ∧ scan (srG P yes 0 (bitLo a ||| bitLo b) (bitHi a ||| bitHi b)) (b + 1) (d - (b + 1)) = none ∧ Bx wp w.heap.size #[.int .u64 0, .int .u64 0] 33 ∧ Keep w wp)
                    case atStart => exact ⟨b + 1, by omega, by omega, by go_num, by rw [Nat.sub_self]; rfl, hZ, (by ((repeat (first | (with_reducible assumption) | ((with_reducible refine Keep.setCell ?_ ?_ _); rotate_left; focus (first | omega | (simp; done) | (simp; omega))) | (with_reducible refine Keep.alloc ?_ _) | (with_reducible refine Keep.drewN ?_ _) | (with_reducible refine Keep.drew ?_) | (with_reducible exact Keep.refl _) | refine Keep.trans ?_ (by with_reducible assumption) | exact Keep.refl _ | assumption))))⟩
                    case round =>
                      obtain ⟨d, hd, hbd, rfl, hsd, hZ, hk0⟩ := hrel
                      have HSD := Aside.mk hsd
                      clear hsd
                      by_cases hdt : d < 96
                      · have HGD := Aside.mk (sg_zero P (bitLo a ||| bitLo b) (bitHi a ||| bitHi b) d)
                        have hba := Aside.mk (fun W => spec_l01Bit (a : Int) (by omega) (by omega) W)
                        have hbb := Aside.mk (fun W => spec_l01Bit (b : Int) (by omega) (by omega) W)
                        have hbd3 := Aside.mk (fun W => spec_l01Bit (d : Int) (by omega) (by omega) W)
                        have hfr := Aside.mk (hf.out (bitLo a ||| (bitLo b ||| bitLo d)) (bitHi a ||| (bitHi b ||| bitHi d)))
                        have HAS := Aside.mk (And.intro (BitVec.or_assoc (bitLo (a : Int)) (bitLo b) (bitLo d)) (BitVec.or_assoc (bitHi (a : Int)) (bitHi b) (bitHi d)))
                        generalize bitLo (d : Int) = x3 at *
                        generalize bitHi (d : Int) = y3 at *
                        generalize bitLo (b : Int) = x2 at *
                        generalize bitHi (b : Int) = y2 at *
                        generalize bitLo (a : Int) = x1 at *
                        generalize bitHi (a : Int) = y1 at *
                        (go_wp2_with fail); (go_at_call 123); (refine (hba.out _).mono ?_); rintro e w1 ⟨rfl, hkb⟩
                        have k1 : Keep w w1 := (by ((repeat (first | (with_reducible assumption) | ((with_reducible refine Keep.setCell ?_ ?_ _); rotate_left; focus (first | omega | (simp; done) | (simp; omega))) | (with_reducible refine Keep.alloc ?_ _) | (with_reducible refine Keep.drewN ?_ _) | (with_reducible refine Keep.drew ?_) | (with_reducible exact Keep.refl _) | refine Keep.trans ?_ (by with_reducible assumption) | exact Keep.refl _ | assumption))))
                        replace hZ := hZ.keep hkb
                        clear hkb hk0
                        (go_wp2_with fail); (go_at_call 123); (refine (hbb.out _).mono ?_); rintro e w2 ⟨rfl, hkb⟩
                        have k2 : Keep w w2 := (by ((repeat (first | (with_reducible assumption) | ((with_reducible refine Keep.setCell ?_ ?_ _); rotate_left; focus (first | omega | (simp; done) | (simp; omega))) | (with_reducible refine Keep.alloc ?_ _) | (with_reducible refine Keep.drewN ?_ _) | (with_reducible refine Keep.drew ?_) | (with_reducible exact Keep.refl _) | refine Keep.trans ?_ (by with_reducible assumption) | exact Keep.refl _ | assumption))))
                        replace hZ := hZ.keep hkb
                        clear hkb k1
                        (go_wp2_with fail); (go_at_call 123); (refine (hbd3.out _).mono ?_); rintro e w3 ⟨rfl, hkb⟩
                        have k3 : Keep w w3 := (by ((repeat (first | (with_reducible assumption) | ((with_reducible refine Keep.setCell ?_ ?_ _); rotate_left; focus (first | omega | (simp; done) | (simp; omega))) | (with_reducible refine Keep.alloc ?_ _) | (with_reducible refine Keep.drewN ?_ _) | (with_reducible refine Keep.drew ?_) | (with_reducible exact Keep.refl _) | refine Keep.trans ?_ (by with_reducible assumption) | exact Keep.refl _ | assumption))))
                        replace hZ := hZ.keep hkb
                        clear hkb k2
                        (go_wp2_with fail); (go_at_call 120); (refine (spec_l01Join _ _ _ _ _).mono ?_); rintro e w4 ⟨rfl, hkb⟩
                        have k4 : Keep w w4 := (by ((repeat (first | (with_reducible assumption) | ((with_reducible refine Keep.setCell ?_ ?_ _); rotate_left; focus (first | omega | (simp; done) | (simp; omega))) | (with_reducible refine Keep.alloc ?_ _) | (with_reducible refine Keep.drewN ?_ _) | (with_reducible refine Keep.drew ?_) | (with_reducible exact Keep.refl _) | refine Keep.trans ?_ (by with_reducible assumption) | exact Keep.refl _ | assumption))))
                        replace hZ := hZ.keep hkb
                        clear hkb k3
                        (go_wp2_with fail); (go_at_call 120); (refine (spec_l01Join _ _ _ _ _).mono ?_); rintro e w5 ⟨rfl, hkb⟩
                        have k5 : Keep w w5 := (by ((repeat (first | (with_reducible assumption) | ((with_reducible refine Keep.setCell ?_ ?_ _); rotate_left; focus (first | omega | (simp; done) | (simp; omega))) | (with_reducible refine Keep.alloc ?_ _) | (with_reducible refine Keep.drewN ?_ _) | (with_reducible refine Keep.drew ?_) | (with_reducible exact Keep.refl _) | refine Keep.trans ?_ (by with_reducible assumption) | exact Keep.refl _ | assumption))))
                        replace hZ := hZ.keep hkb
                        clear hkb k4
                        have hkz := k5.size
                        generalize x1 ||| (x2 ||| x3) = x at *
                        generalize y1 ||| (y2 ||| y3) = y at *
                        have hZ1 := hZ.alloc (.cells #[.int .u64 (U x), .int .u64 (U y)] 33)
                        (go_wp2_with fail); (go_at_call 133); (refine (hfr.out _ (hR.keep (by ((repeat (first | (with_reducible assumption) | ((with_reducible refine Keep.setCell ?_ ?_ _); rotate_left; focus (first | omega | (simp; done) | (simp; omega))) | (with_reducible refine Keep.alloc ?_ _) | (with_reducible refine Keep.drewN ?_ _) | (with_reducible refine Keep.drew ?_) | (with_reducible exact Keep.refl _) | refine Keep.trans ?_ (by with_reducible assumption) | exact Keep.refl _ | assumption)))))).mono ?_); rintro e w6 ⟨rfl, hkf⟩
                        have k6 : Keep w w6 := (by ((repeat (first | (with_reducible assumption) | ((with_reducible refine Keep.setCell ?_ ?_ _); rotate_left; focus (first | omega | (simp; done) | (simp; omega))) | (with_reducible refine Keep.alloc ?_ _) | (with_reducible refine Keep.drewN ?_ _) | (with_reducible refine Keep.drew ?_) | (with_reducible exact Keep.refl _) | refine Keep.trans ?_ (by with_reducible assumption) | exact Keep.refl _ | assumption))))
                        have hX : Bx w6 w5.heap.size #[.int .u64 (U x), .int .u64 (U y)] 33 := (Bx.new _ _ _).keep hkf
                        replace hZ := hZ1.keep hkf
                        clear hZ1 hkf hfr k5
                        have HGX : Aside (srG P yes 0 (x1 ||| x2) (y1 ||| y2) d = if P x y then some (x, y) else none) := Aside.mk (by rw [HGD.out, HAS.out.1, HAS.out.2])
                        clear HGD HAS
                        cases hq : P x y
                        · have HN := Aside.mk (show scan (srG P yes 0 (x1 ||| x2) (y1 ||| y2)) (b + 1) (d + 1 - (b + 1)) = none by
                            rw [show d + 1 - (b + 1) = d - (b + 1) + 1 by omega]
                            exact scan_none HSD.out (by rw [show b + 1 + (d - (b + 1)) = d by omega, HGX.out, hq]; rfl))
                          clear HGX HSD hq hX
                          go_wp2
                          go_roundg (96 - (d + 1))
                          case measure => omega
                          case rel => exact ⟨d + 1, by omega, by omega, by go_num, HN.out, hZ, (by ((repeat (first | (with_reducible assumption) | ((with_reducible refine Keep.setCell ?_ ?_ _); rotate_left; focus (first | omega | (simp; done) | (simp; omega))) | (with_reducible refine Keep.alloc ?_ _) | (with_reducible refine Keep.drewN ?_ _) | (with_reducible refine Keep.drew ?_) | (with_reducible exact Keep.refl _) | refine Keep.trans ?_ (by with_reducible assumption) | exact Keep.refl _ | assumption))))⟩
                        · have e0 : srG P yes 1 x1 y1 b = some (x, y) := by
                            rw [HGB.out]
                            exact scan_some (n := d - (b + 1)) HSD.out (by rw [show b + 1 + (d - (b + 1)) = d by omega, HGX.out, hq]; rfl) _ (by omega)
                          have e1 : srG P yes 2 0#64 0#64 a = some (x, y) := by
                            rw [HGA.out]
                            exact scan_some (n := b - (a + 1)) HSB.out (by rw [show a + 1 + (b - (a + 1)) = b by omega]; exact e0) _ (by omega)
                          have e2 : R = some (x, y) := Z3.out _ HN1.out HN2.out (scan_some (n := a) HSC.out (by rw [Nat.zero_add]; exact e1) 96 hlt)
                          subst e2
                          have hXs := hX.two
                          have hZs := hZ.two
                          clear HGA HGB HGX HSB HSC HSD hq Z3 ZN HN1 HN2 e0 e1
                          go_wp2
                          (apply bodyPost_ret; rotate_left; rfl; exact ⟨rfl, (by ((repeat (first | (with_reducible assumption) | ((with_reducible refine Keep.setCell ?_ ?_ _); rotate_left; focus (first | omega | (simp; done) | (simp; omega))) | (with_reducible refine Keep.alloc ?_ _) | (with_reducible refine Keep.drewN ?_ _) | (with_reducible refine Keep.drew ?_) | (with_reducible exact Keep.refl _) | refine Keep.trans ?_ (by with_reducible assumption) | exact Keep.refl _ | assumption))))⟩; simp [results, Tryd.results77, go_sem, U_zero, *])
                          exact ⟨⟨rfl, rfl⟩, rfl⟩
                      · obtain rfl : d = 96 := by omega
                        have HN := Aside.mk (show scan (srG P yes 1 (bitLo a) (bitHi a)) (a + 1) (b + 1 - (a + 1)) = none by
                          rw [show b + 1 - (a + 1) = b - (a + 1) + 1 by omega]
                          exact scan_none HSB.out (by rw [show a + 1 + (b - (a + 1)) = b by omega, HGB.out]; exact HSD.out))
                        clear HSC HSB HGA HGB HSD
                        go_wp2
                        go_roundg (96 - (b + 1))
                        case measure => omega
                        case rel => exact ⟨b + 1, by omega, by omega, by go_num, HN.out, hZ, (by ((repeat (first | (with_reducible assumption) | ((with_reducible refine Keep.setCell ?_ ?_ _); rotate_left; focus (first | omega | (simp; done) | (simp; omega))) | (with_reducible refine Keep.alloc ?_ _) | (with_reducible refine Keep.drewN ?_ _) | (with_reducible refine Keep.drew ?_) | (with_reducible exact Keep.refl _) | refine Keep.trans ?_ (by with_reducible assumption) | exact Keep.refl _ | assumption))))⟩
                  · obtain rfl : b = 96 := by omega
                    have HN := Aside.mk (show scan (srG P yes 2 0#64 0#64) 0 (a + 1) = none from scan_none HSC.out (by rw [Nat.zero_add, HGA.out]; exact HSB.out))
                    clear HSC HSB HGA
                    go_wp2
                    go_roundg (96 - (a + 1))
                    case measure => omega
                    case rel => exact ⟨a + 1, by omega, by go_num, HN.out, hZ, (by ((repeat (first | (with_reducible assumption) | ((with_reducible refine Keep.setCell ?_ ?_ _); rotate_left; focus (first | omega | (simp; done) | (simp; omega))) | (with_reducible refine Keep.alloc ?_ _) | (with_reducible refine Keep.drewN ?_ _) | (with_reducible refine Keep.drew ?_) | (with_reducible exact Keep.refl _) | refine Keep.trans ?_ (by with_reducible assumption) | exact Keep.refl _ | assumption))))⟩
              · obtain rfl : a = 96 := by omega
                have e2 : R = none := ZN.out HN1.out HN2.out HSC.out
                subst e2
                have hZs := hZ.two
                clear HSC Z3 ZN HN1 HN2
                go_wp2
                (apply bodyPost_ret; rotate_left; rfl; exact ⟨rfl, (by ((repeat (first | (with_reducible assumption) | ((with_reducible refine Keep.setCell ?_ ?_ _); rotate_left; focus (first | omega | (simp; done) | (simp; omega))) | (with_reducible refine Keep.alloc ?_ _) | (with_reducible refine Keep.drewN ?_ _) | (with_reducible refine Keep.drew ?_) | (with_reducible exact Keep.refl _) | refine Keep.trans ?_ (by with_reducible assumption) | exact Keep.refl _ | assumption))))⟩; simp [results, Tryd.results77, go_sem, U_zero, *])
                exact ⟨⟨rfl, rfl⟩, rfl⟩
end Go.Proofs.YtpmilcfppcmodaaDoor

set_option linter.unusedVariables false
set_option linter.unusedSimpArgs false
namespace Go.Proofs.YtpmilcfppcmodaaDoor
open Go.RowKit Go.Shelf
set_option maxHeartbeats 2000000
set_option maxRecDepth 20000
/-- The needles that are found for these wanted cards. -/
def fwR (l : List Cd) (wd : List Int) : Option (Wd × Wd) := fnR (fitB l wd) (mayI l wd)
def fwA (l : List Cd) (wd : List Int) : Wd := cond (dkB l) (cond (wnB wd l.length) (fnA (fwR l wd)) 0#64) 0#64
def fwB (l : List Cd) (wd : List Int) : Wd := cond (dkB l) (cond (wnB wd l.length) (fnB (fwR l wd)) 0#64) 0#64
def fwE (l : List Cd) (wd : List Int) : Int := cond (dkB l) (cond (wnB wd l.length) (fnE (fwR l wd)) 2) 1
theorem wn_in {wd : List Int} {n : Nat} (h : wnB wd n = true) : ∀ x ∈ wd, 0 ≤ x ∧ x < (n : Int) := by
  intro x hx
  obtain ⟨i, hi, rfl⟩ := List.getElem_of_mem hx
  unfold wnB at h
  rw [List.all_eq_true] at h
  have h1 := h i (List.mem_range.2 hi)
  cases i with
  | zero =>
    rw [wnAt_zero hi] at h1
    unfold inB at h1; simp at h1; omega
  | succ m =>
    rw [wnAt_succ hi] at h1
    unfold inB at h1; simp at h1; omega
/-- With nothing wanted the reference's search of free masks gives the same. -/
theorem fwR_nil (l : List Cd) : fwR l [] = fnR (freeB l) yes := by
  unfold fwR; exact fnR_congr (fit_nil l) (fun h _ => by unfold mayI yes; rfl)
theorem fwR_mt (l : List Cd) (wd : List Int) : fwR l wd = fnR (fitB l wd) (fun h => hasB (mtLo l wd) (mtHi l wd) (h : Int)) := by
  unfold fwR; exact fnR_congr (fun _ _ => rfl) (fun h hh => (has_mt hh).symm)
theorem fnR_some {P : Wd → Wd → Bool} {may : Nat → Bool} {k : Nat} {z : Wd × Wd} (hk : k < 4) (hno : ∀ j, j < k → srch P may j 0 0#64 0#64 = none) (h : srch P may k 0 0#64 0#64 = some z) : fnR P may = some z := by
  unfold fnR
  match k, hk, hno, h with
  | 0, _, _, h => rw [h]
  | 1, _, hno, h => rw [hno 0 (by omega), h]
  | 2, _, hno, h => rw [hno 0 (by omega), hno 1 (by omega), h]
  | 3, _, hno, h => rw [hno 0 (by omega), hno 1 (by omega), hno 2 (by omega), h]
theorem fnR_none {P : Wd → Wd → Bool} {may : Nat → Bool} (hno : ∀ j, j < 4 → srch P may j 0 0#64 0#64 = none) : fnR P may = none := by
  unfold fnR
  rw [hno 0 (by omega), hno 1 (by omega), hno 2 (by omega), hno 3 (by omega)]
end Go.Proofs.YtpmilcfppcmodaaDoor

set_option linter.unusedVariables false
set_option linter.unusedSimpArgs false
namespace Go.Proofs.YtpmilcfppcmodaaDoor
open Go.RowKit Go.Shelf
set_option maxHeartbeats 2000000
set_option maxRecDepth 20000
theorem impl_FewestNeedles (A B : Option Addr) (l : List Cd) (wd : List Int) (c d : Nat) (w : World) (hm : l.length ≤ 1048576) (hcp : l.length ≤ c) (hw : wd.length ≤ 1048576) (hz : CSz l) (hR : Rd w A (cds l)) (hS : Rd w B (ints wd)) :
    Calls Tryd.prog 20 #[.slice A l.length c, .slice B wd.length d] w fun e w' => e = .returned (.tuple #[.agg #[.int .u64 (U (fwA l wd)), .int .u64 (U (fwB l wd))], .int .i64 (fwE l wd)]) ∧ Keep w w' := by
  have hd := Aside.mk (fun W h => impl_isDeck A l c W (by omega) hcp hz h)
  cases h1 : dkB l
  · have e1 : fwA l wd = 0#64 := by simp only [fwA, h1, cond_false]
    have e2 : fwB l wd = 0#64 := by simp only [fwB, h1, cond_false]
    have e3 : fwE l wd = 1 := by simp only [fwE, h1, cond_false]
    rw [e1, e2, e3]
    rw [h1] at hd
    go_enter Tryd.func20, Tryd.ntmps20
    (go_wp2_with fail); (go_at_call 72); (refine (hd.out _ (hR.keep ((Keep.refl _).alloc _))).mono ?_); rintro e w1 ⟨rfl, hk1⟩
    have hZ : Bx w1 w.heap.size #[.int .u64 0, .int .u64 0] 33 := (Bx.new _ _ _).keep hk1
    have hZs := hZ.two
    go_wp2
    (apply bodyPost_ret; rotate_left; rfl; exact ⟨rfl, (by ((repeat (first | (with_reducible assumption) | ((with_reducible refine Keep.setCell ?_ ?_ _); rotate_left; focus (first | omega | (simp; done) | (simp; omega))) | (with_reducible refine Keep.alloc ?_ _) | (with_reducible refine Keep.drewN ?_ _) | (with_reducible refine Keep.drew ?_) | (with_reducible exact Keep.refl _) | refine Keep.trans ?_ (by with_reducible assumption) | exact Keep.refl _ | assumption))))⟩; simp [results, Tryd.results20, go_sem, U_zero, *])
  · rw [h1] at hd
    go_enter Tryd.func20, Tryd.ntmps20
    (go_wp2_with fail); (go_at_call 72); (refine (hd.out _ (hR.keep ((Keep.refl _).alloc _))).mono ?_); rintro e w1 ⟨rfl, hk1⟩
    have hZ : Bx w1 w.heap.size #[.int .u64 0, .int .u64 0] 33 := (Bx.new _ _ _).keep hk1
    have hW : Keep w w1 := (by ((repeat (first | (with_reducible assumption) | ((with_reducible refine Keep.setCell ?_ ?_ _); rotate_left; focus (first | omega | (simp; done) | (simp; omega))) | (with_reducible refine Keep.alloc ?_ _) | (with_reducible refine Keep.drewN ?_ _) | (with_reducible refine Keep.drew ?_) | (with_reducible exact Keep.refl _) | refine Keep.trans ?_ (by with_reducible assumption) | exact Keep.refl _ | assumption))))
    clear hk1 hd
    go_wp2_with fail
    go_loopg [17] wd.length (fun n s17 wr => ∃ i : Nat, i + n = wd.length ∧ s17 = .int .i64 i ∧ (List.range i).all (wnAt wd l.length) = true ∧ Bx wr w.heap.size #[.int .u64 0, .int .u64 0] 33 ∧ Keep w wr)
    case atStart => exact ⟨0, by omega, rfl, rfl, hZ, (by ((repeat (first | (with_reducible assumption) | ((with_reducible refine Keep.setCell ?_ ?_ _); rotate_left; focus (first | omega | (simp; done) | (simp; omega))) | (with_reducible refine Keep.alloc ?_ _) | (with_reducible refine Keep.drewN ?_ _) | (with_reducible refine Keep.drew ?_) | (with_reducible exact Keep.refl _) | refine Keep.trans ?_ (by with_reducible assumption) | exact Keep.refl _ | assumption))))⟩
    case round =>
      obtain ⟨i, hi, rfl, hal, hZ, hk0⟩ := hrel
      have HL := Aside.mk hal
      have hZs := hZ.two
      clear hal
      by_cases hlt : i < wd.length
      · obtain ⟨bb, o, rfl, hc⟩ := (hS.keep hk0).at (k := i) (by rw [ints_len]; omega)
        have p1 := hc _ _ (ints_at wd i hlt)
        have HSS := Aside.mk (rall_succ (wnAt wd l.length) i)
        have HNO := Aside.mk (fun h => (rall_no (p := wnAt wd l.length) hlt h : (List.range wd.length).all (wnAt wd l.length) = false))
        have HBAD := Aside.mk (fun (h : wnB wd l.length = false) => (show fwA l wd = 0#64 ∧ fwB l wd = 0#64 ∧ fwE l wd = 2 by simp only [fwA, fwB, fwE, h1, h, cond_false, cond_true]; exact ⟨trivial, trivial, trivial⟩))
        generalize hx : wd[i] = x at *
        by_cases hx0 : x < 0
        · have HB := Aside.mk (HBAD.out (HNO.out (by
            have e : inB x 0 ((l.length : Int) - 1) = false := by unfold inB; simp; omega
            cases i with
            | zero => rw [wnAt_zero hlt, hx, e]
            | succ m => rw [wnAt_succ hlt, hx, e]; rfl)))
          clear HBAD HNO HSS HL hc hx
          go_wp2
          (apply bodyPost_ret; rotate_left; rfl; exact ⟨rfl, (by ((repeat (first | (with_reducible assumption) | ((with_reducible refine Keep.setCell ?_ ?_ _); rotate_left; focus (first | omega | (simp; done) | (simp; omega))) | (with_reducible refine Keep.alloc ?_ _) | (with_reducible refine Keep.drewN ?_ _) | (with_reducible refine Keep.drew ?_) | (with_reducible exact Keep.refl _) | refine Keep.trans ?_ (by with_reducible assumption) | exact Keep.refl _ | assumption))))⟩; simp [results, Tryd.results20, go_sem, U_zero, *])
          exact ⟨⟨by rw [HB.out.1]; rfl, by rw [HB.out.2.1]; rfl⟩, by rw [HB.out.2.2]⟩
        · by_cases hxl : (l.length : Int) ≤ x
          · have HB := Aside.mk (HBAD.out (HNO.out (by
              have e : inB x 0 ((l.length : Int) - 1) = false := by unfold inB; simp; omega
              cases i with
              | zero => rw [wnAt_zero hlt, hx, e]
              | succ m => rw [wnAt_succ hlt, hx, e]; rfl)))
            clear HBAD HNO HSS HL hc hx
            go_wp2
            (apply bodyPost_ret; rotate_left; rfl; exact ⟨rfl, (by ((repeat (first | (with_reducible assumption) | ((with_reducible refine Keep.setCell ?_ ?_ _); rotate_left; focus (first | omega | (simp; done) | (simp; omega))) | (with_reducible refine Keep.alloc ?_ _) | (with_reducible refine Keep.drewN ?_ _) | (with_reducible refine Keep.drew ?_) | (with_reducible exact Keep.refl _) | refine Keep.trans ?_ (by with_reducible assumption) | exact Keep.refl _ | assumption))))⟩; simp [results, Tryd.results20, go_sem, U_zero, *])
            exact ⟨⟨by rw [HB.out.1]; rfl, by rw [HB.out.2.1]; rfl⟩, by rw [HB.out.2.2]⟩
          · have e : inB x 0 ((l.length : Int) - 1) = true := by unfold inB; simp; omega
            by_cases hi0 : 0 < i
            · obtain ⟨m, hm1⟩ : ∃ m, i = m + 1 := ⟨i - 1, by omega⟩
              have hml : m < wd.length := by omega
              have q1 := hc _ _ (ints_at wd m hml)
              have HW : Aside (wnAt wd l.length i = decide (wd[m] < x)) := Aside.mk (by subst hm1; rw [wnAt_succ hlt, hx, e, Bool.true_and])
              have hsub : ((i : Int) - 1) = (m : Int) := by omega
              have hwm : IntKind.i64.wrap (m : Int) = m := wrapI64 ⟨by omega, by omega⟩
              clear hc hm1 hx e
              generalize wd[m] = y at *
              by_cases hyx : y < x
              · have HA := Aside.mk (show (List.range (i + 1)).all (wnAt wd l.length) = true by rw [HSS.out, HL.out, HW.out]; simpa using hyx)
                clear HBAD HNO HSS HL HW
                go_wp2
                go_roundg (wd.length - (i + 1))
                case measure => omega
                case rel => exact ⟨i + 1, by omega, by go_num, HA.out, hZ, (by ((repeat (first | (with_reducible assumption) | ((with_reducible refine Keep.setCell ?_ ?_ _); rotate_left; focus (first | omega | (simp; done) | (simp; omega))) | (with_reducible refine Keep.alloc ?_ _) | (with_reducible refine Keep.drewN ?_ _) | (with_reducible refine Keep.drew ?_) | (with_reducible exact Keep.refl _) | refine Keep.trans ?_ (by with_reducible assumption) | exact Keep.refl _ | assumption))))⟩
              · have HB := Aside.mk (HBAD.out (HNO.out (by rw [HW.out]; simpa using hyx)))
                clear HBAD HNO HSS HL HW
                go_wp2
                (apply bodyPost_ret; rotate_left; rfl; exact ⟨rfl, (by ((repeat (first | (with_reducible assumption) | ((with_reducible refine Keep.setCell ?_ ?_ _); rotate_left; focus (first | omega | (simp; done) | (simp; omega))) | (with_reducible refine Keep.alloc ?_ _) | (with_reducible refine Keep.drewN ?_ _) | (with_reducible refine Keep.drew ?_) | (with_reducible exact Keep.refl _) | refine Keep.trans ?_ (by with_reducible assumption) | exact Keep.refl _ | assumption))))⟩; simp [results, Tryd.results20, go_sem, U_zero, *])
                exact ⟨⟨by rw [HB.out.1]; rfl, by rw [HB.out.2.1]; rfl⟩, by rw [HB.out.2.2]⟩
            · obtain rfl : i = 0 := by omega
              have HA := Aside.mk (show (List.range (0 + 1)).all (wnAt wd l.length) = true by rw [HSS.out, HL.out, wnAt_zero hlt, hx, e]; rfl)
              rw [Nat.add_zero] at p1
              clear HBAD HNO HSS HL hc hx e
              go_wp2
              go_roundg (wd.length - (0 + 1))
              case measure => omega
              case rel => exact ⟨0 + 1, by omega, by go_num, HA.out, hZ, (by ((repeat (first | (with_reducible assumption) | ((with_reducible refine Keep.setCell ?_ ?_ _); rotate_left; focus (first | omega | (simp; done) | (simp; omega))) | (with_reducible refine Keep.alloc ?_ _) | (with_reducible refine Keep.drewN ?_ _) | (with_reducible refine Keep.drew ?_) | (with_reducible exact Keep.refl _) | refine Keep.trans ?_ (by with_reducible assumption) | exact Keep.refl _ | assumption))))⟩
      · obtain rfl : i = wd.length := by omega
        have hwn : wnB wd l.length = true := HL.out
        have HF := Aside.mk (show fwA l wd = fnA (fwR l wd) ∧ fwB l wd = fnB (fwR l wd) ∧ fwE l wd = fnE (fwR l wd) by simp only [fwA, fwB, fwE, h1, hwn, cond_true]; exact ⟨trivial, trivial, trivial⟩)
        have hnd := Aside.mk (fun (k : Nat) (W : World) (hk : k ≤ 3) h3 h4 => impl_needles A B l wd c d hm hw (wn_in hwn) k 0 [] none 0 W (by simpa using hk) (by omega) (by simp) h3 h4 (.inl rfl) (fun _ => ⟨rfl, rfl⟩))
        clear HL hwn hZs
        go_wp2_with fail
        go_loopg [45] 4 (fun n s45 wr => ∃ k : Nat, k + n = 4 ∧ s45 = .int .i64 k ∧ (∀ j, j < k → srch (fitB l wd) (mayI l wd) j 0 0#64 0#64 = none) ∧ Bx wr w.heap.size #[.int .u64 0, .int .u64 0] 33 ∧ Keep w wr)
        case atStart => exact ⟨0, by omega, rfl, (fun j hj => by omega), hZ, (by ((repeat (first | (with_reducible assumption) | ((with_reducible refine Keep.setCell ?_ ?_ _); rotate_left; focus (first | omega | (simp; done) | (simp; omega))) | (with_reducible refine Keep.alloc ?_ _) | (with_reducible refine Keep.drewN ?_ _) | (with_reducible refine Keep.drew ?_) | (with_reducible exact Keep.refl _) | refine Keep.trans ?_ (by with_reducible assumption) | exact Keep.refl _ | assumption))))⟩
        case round =>
          obtain ⟨k, hk, rfl, hno, hZ, hk0⟩ := hrel
          have HNO := Aside.mk hno
          clear hno
          by_cases hk4 : k < 4
          · have hr := fun W h3 h4 => hnd.out k W (by omega) h3 h4
            obtain ⟨r, hr2⟩ : ∃ r, srch (fitB l wd) (mayI l wd) k 0 0#64 0#64 = r := ⟨_, rfl⟩
            rw [show orLo 0#64 [] = 0#64 from rfl, show orHi 0#64 [] = 0#64 from rfl, hr2] at hr
            have HR2 := Aside.mk hr2
            clear hr2
            (go_wp2_with fail); (go_at_call 73); (refine (hr _ (hR.keep (by ((repeat (first | (with_reducible assumption) | ((with_reducible refine Keep.setCell ?_ ?_ _); rotate_left; focus (first | omega | (simp; done) | (simp; omega))) | (with_reducible refine Keep.alloc ?_ _) | (with_reducible refine Keep.drewN ?_ _) | (with_reducible refine Keep.drew ?_) | (with_reducible exact Keep.refl _) | refine Keep.trans ?_ (by with_reducible assumption) | exact Keep.refl _ | assumption))))) (hS.keep (by ((repeat (first | (with_reducible assumption) | ((with_reducible refine Keep.setCell ?_ ?_ _); rotate_left; focus (first | omega | (simp; done) | (simp; omega))) | (with_reducible refine Keep.alloc ?_ _) | (with_reducible refine Keep.drewN ?_ _) | (with_reducible refine Keep.drew ?_) | (with_reducible exact Keep.refl _) | refine Keep.trans ?_ (by with_reducible assumption) | exact Keep.refl _ | assumption)))))).mono ?_); rintro e w3 ⟨v, rfl, hfd, hkn⟩
            have k3 := hk0.trans hkn
            replace hZ := hZ.keep hkn
            have HFD := Aside.mk hfd
            clear hfd hkn hr
            cases r with
            | none =>
              have HN2 : Aside (∀ j, j < k + 1 → srch (fitB l wd) (mayI l wd) j 0 0#64 0#64 = none) := Aside.mk (fun j hj => by
                by_cases e : j = k
                · rw [e]; exact HR2.out
                · exact HNO.out j (by omega))
              clear HNO HR2 HFD
              go_wp2
              go_roundg (4 - (k + 1))
              case measure => omega
              case rel => exact ⟨k + 1, by omega, by go_num, HN2.out, hZ, (by ((repeat (first | (with_reducible assumption) | ((with_reducible refine Keep.setCell ?_ ?_ _); rotate_left; focus (first | omega | (simp; done) | (simp; omega))) | (with_reducible refine Keep.alloc ?_ _) | (with_reducible refine Keep.drewN ?_ _) | (with_reducible refine Keep.drew ?_) | (with_reducible exact Keep.refl _) | refine Keep.trans ?_ (by with_reducible assumption) | exact Keep.refl _ | assumption))))⟩
            | some z =>
              obtain ⟨H, ch, hs, rfl, hH, hl4, hb, hzz⟩ := HFD.out z rfl
              have HZ := Aside.mk (show fwA l wd = orLo 0#64 hs ∧ fwB l wd = orHi 0#64 hs ∧ fwE l wd = 0 by
                have e : fwR l wd = some z := fnR_some hk4 HNO.out HR2.out
                rw [HF.out.1, HF.out.2.1, HF.out.2.2, e, hzz]; exact ⟨rfl, rfl, rfl⟩)
              have hwi := Aside.mk (fun W h => impl_withz H hs ch W hb (by omega) h)
              have hZs := hZ.two
              clear HNO HR2 HFD hzz HF
              (go_wp2_with fail); (go_at_call 74); (refine (hwi.out _ (hH.keep (by ((repeat (first | (with_reducible assumption) | ((with_reducible refine Keep.setCell ?_ ?_ _); rotate_left; focus (first | omega | (simp; done) | (simp; omega))) | (with_reducible refine Keep.alloc ?_ _) | (with_reducible refine Keep.drewN ?_ _) | (with_reducible refine Keep.drew ?_) | (with_reducible exact Keep.refl _) | refine Keep.trans ?_ (by with_reducible assumption) | exact Keep.refl _ | assumption)))))).mono ?_); rintro e w4 ⟨rfl, hk4⟩
              replace hZ := hZ.keep hk4
              have hZs := hZ.two
              go_wp2
              (apply bodyPost_ret; rotate_left; rfl; exact ⟨rfl, (by ((repeat (first | (with_reducible assumption) | ((with_reducible refine Keep.setCell ?_ ?_ _); rotate_left; focus (first | omega | (simp; done) | (simp; omega))) | (with_reducible refine Keep.alloc ?_ _) | (with_reducible refine Keep.drewN ?_ _) | (with_reducible refine Keep.drew ?_) | (with_reducible exact Keep.refl _) | refine Keep.trans ?_ (by with_reducible assumption) | exact Keep.refl _ | assumption))))⟩; simp [results, Tryd.results20, go_sem, U_zero, *])
              exact ⟨⟨by rw [HZ.out.1], by rw [HZ.out.2.1]⟩, by rw [HZ.out.2.2]⟩
          · have HZ := Aside.mk (show fwA l wd = 0#64 ∧ fwB l wd = 0#64 ∧ fwE l wd = 6 by
              have e : fwR l wd = none := fnR_none (fun j hj => HNO.out j (by omega))
              rw [HF.out.1, HF.out.2.1, HF.out.2.2, e]; exact ⟨rfl, rfl, rfl⟩)
            have hZs := hZ.two
            clear HNO HF hnd
            go_wp2
            (apply bodyPost_ret; rotate_left; rfl; exact ⟨rfl, (by ((repeat (first | (with_reducible assumption) | ((with_reducible refine Keep.setCell ?_ ?_ _); rotate_left; focus (first | omega | (simp; done) | (simp; omega))) | (with_reducible refine Keep.alloc ?_ _) | (with_reducible refine Keep.drewN ?_ _) | (with_reducible refine Keep.drew ?_) | (with_reducible exact Keep.refl _) | refine Keep.trans ?_ (by with_reducible assumption) | exact Keep.refl _ | assumption))))⟩; simp [results, Tryd.results20, go_sem, U_zero, *])
            exact ⟨⟨by rw [HZ.out.1]; rfl, by rw [HZ.out.2.1]; rfl⟩, by rw [HZ.out.2.2]⟩
end Go.Proofs.YtpmilcfppcmodaaDoor

set_option linter.unusedVariables false
set_option linter.unusedSimpArgs false
namespace Go.Proofs.YtpmilcfppcmodaaDoor
open Go.RowKit Go.Shelf
set_option maxHeartbeats 2000000
set_option maxRecDepth 20000
theorem cd_at {l : List Cd} {n : Nat} (h : n < l.length) : cdLo l (n : Int) = l[n].a ∧ cdHi l (n : Int) = l[n].b := by
  unfold cdLo cdHi; rw [Int.toNat_natCast, List.getElem?_eq_getElem h]; exact ⟨rfl, rfl⟩
theorem spec_FewestNeedles (A B : Option Addr) (l : List Cd) (wd : List Int) (c d : Nat) (w : World) (hm : l.length ≤ 1048576) (hw : wd.length ≤ 1048576) (hz : CSz l) (hR : Rd w A (cds l)) (hS : Rd w B (ints wd)) :
    Calls Tryd.prog 21 #[.slice A l.length c, .slice B wd.length d] w fun e w' => e = .returned (.tuple #[.agg #[.int .u64 (U (fwA l wd)), .int .u64 (U (fwB l wd))], .int .i64 (fwE l wd)]) ∧ Keep w w' := by
  have hd := Aside.mk (fun W h => spec_l02Ok A l c W (by omega) hz h)
  cases h1 : dkB l
  · have e1 : fwA l wd = 0#64 := by simp only [fwA, h1, cond_false]
    have e2 : fwB l wd = 0#64 := by simp only [fwB, h1, cond_false]
    have e3 : fwE l wd = 1 := by simp only [fwE, h1, cond_false]
    rw [e1, e2, e3]
    rw [h1] at hd
    go_enter Tryd.func21, Tryd.ntmps21
    (go_wp2_with fail); (go_at_call 67); (refine (hd.out _ (hR.keep ((Keep.refl _).alloc _))).mono ?_); rintro e w1 ⟨rfl, hk1⟩
    have hZ : Bx w1 w.heap.size #[.int .u64 0, .int .u64 0] 33 := (Bx.new _ _ _).keep hk1
    have hZs := hZ.two
    go_wp2
    (apply bodyPost_ret; rotate_left; rfl; exact ⟨rfl, (by ((repeat (first | (with_reducible assumption) | ((with_reducible refine Keep.setCell ?_ ?_ _); rotate_left; focus (first | omega | (simp; done) | (simp; omega))) | (with_reducible refine Keep.alloc ?_ _) | (with_reducible refine Keep.drewN ?_ _) | (with_reducible refine Keep.drew ?_) | (with_reducible exact Keep.refl _) | refine Keep.trans ?_ (by with_reducible assumption) | exact Keep.refl _ | assumption))))⟩; simp [results, Tryd.results21, go_sem, U_zero, *])
  · rw [h1] at hd
    have hwn := Aside.mk (fun W h => spec_l02Wanted B wd d l.length W (by omega) hm h)
    cases h2 : wnB wd l.length
    · have e1 : fwA l wd = 0#64 := by simp only [fwA, h1, h2, cond_false, cond_true]
      have e2 : fwB l wd = 0#64 := by simp only [fwB, h1, h2, cond_false, cond_true]
      have e3 : fwE l wd = 2 := by simp only [fwE, h1, h2, cond_false, cond_true]
      rw [e1, e2, e3]
      rw [h2] at hwn
      go_enter Tryd.func21, Tryd.ntmps21
      (go_wp2_with fail); (go_at_call 67); (refine (hd.out _ (hR.keep ((Keep.refl _).alloc _))).mono ?_); rintro e w1 ⟨rfl, hk1⟩
      have hZ : Bx w1 w.heap.size #[.int .u64 0, .int .u64 0] 33 := (Bx.new _ _ _).keep hk1
      have hW : Keep w w1 := (by ((repeat (first | (with_reducible assumption) | ((with_reducible refine Keep.setCell ?_ ?_ _); rotate_left; focus (first | omega | (simp; done) | (simp; omega))) | (with_reducible refine Keep.alloc ?_ _) | (with_reducible refine Keep.drewN ?_ _) | (with_reducible refine Keep.drew ?_) | (with_reducible exact Keep.refl _) | refine Keep.trans ?_ (by with_reducible assumption) | exact Keep.refl _ | assumption))))
      clear hk1 hd
      (go_wp2_with fail); (go_at_call 75); (refine (hwn.out _ (hS.keep hW)).mono ?_); rintro e wY ⟨rfl, hk2⟩
      replace hZ := hZ.keep hk2
      have hZs := hZ.two
      replace hW := hW.trans hk2
      clear hk2
      go_wp2
      (apply bodyPost_ret; rotate_left; rfl; exact ⟨rfl, (by ((repeat (first | (with_reducible assumption) | ((with_reducible refine Keep.setCell ?_ ?_ _); rotate_left; focus (first | omega | (simp; done) | (simp; omega))) | (with_reducible refine Keep.alloc ?_ _) | (with_reducible refine Keep.drewN ?_ _) | (with_reducible refine Keep.drew ?_) | (with_reducible exact Keep.refl _) | refine Keep.trans ?_ (by with_reducible assumption) | exact Keep.refl _ | assumption))))⟩; simp [results, Tryd.results21, go_sem, U_zero, *])
    · rw [h2] at hwn
      have hin := Aside.mk (wn_in h2)
      have HF := Aside.mk (show fwA l wd = fnA (fwR l wd) ∧ fwB l wd = fnB (fwR l wd) ∧ fwE l wd = fnE (fwR l wd) by simp only [fwA, fwB, fwE, h1, h2, cond_true]; exact ⟨trivial, trivial, trivial⟩)
      have hml := Aside.mk (fun (k : Nat) (W : World) h1 h2 h3 => spec_l02More A B l wd c d (mtLo l wd) (mtHi l wd) hm (by omega) k 0 0#64 0#64 W h1 (by omega) h2 h3)
      have hno := Aside.mk (fun W h => spec_l02Nothing A l c W hm h)
      have HMT := Aside.mk (fwR_mt l wd)
      have HNL : Aside (wd = [] → fwR l wd = fnR (freeB l) yes) := Aside.mk (fun e => by rw [e]; exact fwR_nil l)
      have HL0 := Aside.mk (show mtLo l (wd.take 0) = allLo ∧ mtHi l (wd.take 0) = allHi from ⟨rfl, rfl⟩)
      have U0 : U allLo = 18446744073709551615 := by decide
      have U1 : U allHi = 4294967295 := by decide
      go_enter Tryd.func21, Tryd.ntmps21
      (go_wp2_with fail); (go_at_call 67); (refine (hd.out _ (hR.keep ((Keep.refl _).alloc _))).mono ?_); rintro e w1 ⟨rfl, hk1⟩
      have hZ : Bx w1 w.heap.size #[.int .u64 0, .int .u64 0] 33 := (Bx.new _ _ _).keep hk1
      have hW : Keep w w1 := (by ((repeat (first | (with_reducible assumption) | ((with_reducible refine Keep.setCell ?_ ?_ _); rotate_left; focus (first | omega | (simp; done) | (simp; omega))) | (with_reducible refine Keep.alloc ?_ _) | (with_reducible refine Keep.drewN ?_ _) | (with_reducible refine Keep.drew ?_) | (with_reducible exact Keep.refl _) | refine Keep.trans ?_ (by with_reducible assumption) | exact Keep.refl _ | assumption))))
      clear hk1 hd
      (go_wp2_with fail); (go_at_call 75); (refine (hwn.out _ (hS.keep hW)).mono ?_); rintro e wY ⟨rfl, hk2⟩
      replace hZ := hZ.keep hk2
      replace hW := hW.trans hk2
      have zW := hW.size
      have zZ := hZ.lt
      clear hk2 hwn
      go_wp2_with fail
      go_loopg [7] wd.length (fun n s7 wr => ∃ i : Nat, i + n = wd.length ∧ s7 = .int .i64 i ∧ Bx wr w.heap.size #[.int .u64 0, .int .u64 0] 33 ∧ Bx wr wY.heap.size #[.int .u64 (U (mtLo l (wd.take i))), .int .u64 (U (mtHi l (wd.take i)))] 33 ∧ Keep w wr)
      case atStart =>
        have hY : Bx _ wY.heap.size #[.int .u64 18446744073709551615, .int .u64 4294967295] 33 := Bx.new wY #[.int .u64 18446744073709551615, .int .u64 4294967295] 33
        refine ⟨0, by omega, rfl, ?_, ?_, ?_⟩
        · first | exact hZ.alloc _ | exact hZ.keep (by ((repeat (first | (with_reducible assumption) | ((with_reducible refine Keep.setCell ?_ ?_ _); rotate_left; focus (first | omega | (simp; done) | (simp; omega))) | (with_reducible refine Keep.alloc ?_ _) | (with_reducible refine Keep.drewN ?_ _) | (with_reducible refine Keep.drew ?_) | (with_reducible exact Keep.refl _) | refine Keep.trans ?_ (by with_reducible assumption) | exact Keep.refl _ | assumption))))
        · rw [HL0.out.1, HL0.out.2, U0, U1]; first | exact hY | exact Bx.new _ _ _
        · exact (by ((repeat (first | (with_reducible assumption) | ((with_reducible refine Keep.setCell ?_ ?_ _); rotate_left; focus (first | omega | (simp; done) | (simp; omega))) | (with_reducible refine Keep.alloc ?_ _) | (with_reducible refine Keep.drewN ?_ _) | (with_reducible refine Keep.drew ?_) | (with_reducible exact Keep.refl _) | refine Keep.trans ?_ (by with_reducible assumption) | exact Keep.refl _ | assumption))))
      case round =>
        obtain ⟨i, hi, rfl, hZ, hY, hk0⟩ := hrel
        by_cases hlt : i < wd.length
        · obtain ⟨bb, o, rfl, hc⟩ := (hS.keep hk0).at (k := i) (by rw [ints_len]; omega)
          have p1 := hc _ _ (ints_at wd i hlt)
          obtain ⟨x0, x1⟩ := hin.out wd[i] (List.getElem_mem hlt)
          have HM := Aside.mk (show mtLo l (wd.take (i + 1)) = mtLo l (wd.take i) &&& cdLo l wd[i] ∧ mtHi l (wd.take (i + 1)) = mtHi l (wd.take i) &&& cdHi l wd[i] from ⟨mtLo_succ hlt, mtHi_succ hlt⟩)
          clear hc
          generalize wd[i] = x at *
          obtain ⟨n, rfl⟩ : ∃ n : Nat, x = n := ⟨x.toNat, by omega⟩
          have hnl : n < l.length := by omega
          obtain ⟨b2, o2, rfl, hc2⟩ := (hR.keep hk0).at (k := n) (by rw [cds_len]; omega)
          obtain ⟨r1, r2, r3⟩ := cds_at l n hnl
          have q2 := hc2 _ _ r2
          have q3 := hc2 _ _ r3
          rw [← Nat.add_assoc] at q2 q3
          obtain ⟨ca, cb⟩ := cd_at hnl
          rw [ca, cb] at HM
          clear hc2 r1 r2 r3 ca cb HL0 U0 U1 HNL HMT hno hml HF hin
          generalize mtLo l (wd.take i) = ya at *
          generalize mtHi l (wd.take i) = yb at *
          generalize l[n] = z at *
          obtain ⟨zs, za, zb⟩ := z
          simp only at q2 q3 HM
          have hYs := hY.two
          have zY := hY.lt
          go_wp2_with fail
          apply wp_region_mono 10 [Fx _, Fx _, Fx _, Fx _, Fx _, Fx _, Fx _, Fx _, Fx _, Fx _] (by kernel_rfl) (by kernel_rfl) (mono_of ⟨Fx.mono _, Fx.mono _, Fx.mono _, Fx.mono _, Fx.mono _, Fx.mono _, Fx.mono _, Fx.mono _, Fx.mono _, Fx.mono _, trivial⟩) ?st15 ?tl15
          case st15 =>
            simp only [List.take_succ_cons, List.take_zero, List.drop_succ_cons, List.drop_zero, putAll, Act.put, List.setIfInBounds_toArray, List.set_cons_succ, List.set_cons_zero, Nat.zero_add, Nat.reduceAdd]
            refine steps_cons ?_ (steps_cons ?_ (steps_cons ?_ (steps_cons ?_ (steps_cons ?_ (steps_cons ?_ (steps_cons ?_ (steps_cons ?_ (steps_cons ?_ (steps_cons ?_ steps_nil)))))))))
            all_goals
              intro v w2 hk hd
              obtain ⟨hY_0, hY_1, hY_2, hY_3, hY_4⟩ := (hY.keep hk).two
              have p1' := hk.cell p1
              have q2' := hk.cell q2
              have q3' := hk.cell q3
              have hkz := hk.size
              simp [DepsOf, factAt, Fx, Region.binds] at hd
              simp only [factAt, List.getD_cons_zero, List.getD_cons_succ]
              refine Gives.mk ?_
              go_simp
              first | exact ⟨Keep.refl _, Fx.self _ _⟩ | exact ⟨(Keep.refl _).alloc _, _, rfl, Bx.new _ _ _, by first | omega | (simp; omega)⟩ | (go_at_call 76; exact gives_fx (spec_l01Meet _ _ _ _ _))
          simp only [List.take_succ_cons, List.take_zero, List.drop_succ_cons, List.drop_zero, putAll, Act.put, List.setIfInBounds_toArray, List.set_cons_succ, List.set_cons_zero, Nat.zero_add, Nat.reduceAdd]
          intro v w2 hk hh
          obtain ⟨hY_0, hY_1, hY_2, hY_3, hY_4⟩ := (hY.keep hk).two
          have p1' := hk.cell p1
          have q2' := hk.cell q2
          have q3' := hk.cell q3
          have hkz := hk.size
          simp only [Held, factAt, List.getD_cons_zero, List.getD_cons_succ, Fx, true_and] at hh
          obtain ⟨⟨⟨⟨⟨⟨⟨⟨⟨v_0, v_1⟩, v_2⟩, v_3⟩, v_4⟩, v_5⟩, v_6⟩, v_7⟩, v_8⟩, v_9⟩ := hh
          simp only [v_0, v_1, v_2, v_3, v_4, v_5, v_6, v_7, v_8, v_9]
          replace hZ := hZ.keep hk
          replace hY := hY.keep hk
          replace hk0 := hk0.trans hk
          have hZ2 := hZ.lt
          go_wp2
          go_roundg (wd.length - (i + 1))
          case measure => omega
          case rel =>
            refine ⟨i + 1, by omega, by go_num, ?_, ?_, ?_⟩
            · exact ((hZ.set' (by simp; omega) _).set' (by simp; omega) _)
            · rw [HM.out.1, HM.out.2]; simpa using (hY.set (i := 0) (.int .u64 (U (ya &&& za)))).set (i := 1) (.int .u64 (U (yb &&& zb)))
            · exact (by ((repeat (first | (with_reducible assumption) | ((with_reducible refine Keep.setCell ?_ ?_ _); rotate_left; focus (first | omega | (simp; done) | (simp; omega))) | (with_reducible refine Keep.alloc ?_ _) | (with_reducible refine Keep.drewN ?_ _) | (with_reducible refine Keep.drew ?_) | (with_reducible exact Keep.refl _) | refine Keep.trans ?_ (by with_reducible assumption) | exact Keep.refl _ | assumption))))
        · obtain rfl : i = wd.length := by omega
          rw [List.take_length] at hY
          have hYs := hY.two
          have hZs := hZ.two
          by_cases h0 : wd.length = 0
          · have HE := Aside.mk (show fwR l wd = fnR (freeB l) yes from HNL.out (List.eq_nil_of_length_eq_zero h0))
            have HG := Aside.mk (show fwA l wd = fnA (fnR (freeB l) yes) ∧ fwB l wd = fnB (fnR (freeB l) yes) ∧ fwE l wd = fnE (fnR (freeB l) yes) by
              rw [← HE.out]; exact HF.out)
            clear HE HF HNL HMT hml HL0 hin
            have hb : ((wd.length : Int) == 0) = true := by simpa using h0
            generalize fnR (freeB l) yes = R at *
            clear h0
            (go_wp2_with fail)
            try simp only [hb]
            (go_wp2_with fail); (go_at_call 77); (refine (hno.out _ (hR.keep hk0)).mono ?_); rintro e w3 ⟨rfl, hk3⟩
            replace hZ := hZ.keep hk3
            have hZs := hZ.two
            go_wp2
            (apply bodyPost_ret; rotate_left; rfl; exact ⟨rfl, (by ((repeat (first | (with_reducible assumption) | ((with_reducible refine Keep.setCell ?_ ?_ _); rotate_left; focus (first | omega | (simp; done) | (simp; omega))) | (with_reducible refine Keep.alloc ?_ _) | (with_reducible refine Keep.drewN ?_ _) | (with_reducible refine Keep.drew ?_) | (with_reducible exact Keep.refl _) | refine Keep.trans ?_ (by with_reducible assumption) | exact Keep.refl _ | assumption))))⟩; simp [results, Tryd.results21, go_sem, U_zero, *])
            exact ⟨⟨by rw [HG.out.1], by rw [HG.out.2.1]⟩, by rw [HG.out.2.2]⟩
          · have hb : ((wd.length : Int) == 0) = false := by simpa using h0
            clear HNL hno HL0 hin
            obtain ⟨may, hmay⟩ : ∃ may : Nat → Bool, (fun h : Nat => hasB (mtLo l wd) (mtHi l wd) (h : Int)) = may := ⟨_, rfl⟩
            simp only [hmay] at hml
            rw [hmay] at HMT
            simp only [U_zero] at hml
            clear hmay
            (go_wp2_with fail)
            try simp only [hb]
            go_loopg [8] 4 (fun n s8 wr => ∃ k : Nat, k + n = 4 ∧ s8 = .int .i64 k ∧ (∀ j, j < k → srch (fitB l wd) may j 0 0#64 0#64 = none) ∧ Bx wr w.heap.size #[.int .u64 0, .int .u64 0] 33 ∧ Bx wr wY.heap.size #[.int .u64 (U (mtLo l wd)), .int .u64 (U (mtHi l wd))] 33 ∧ Keep w wr)
            case atStart => exact ⟨0, by omega, rfl, (fun j hj => by omega), hZ, hY, (by ((repeat (first | (with_reducible assumption) | ((with_reducible refine Keep.setCell ?_ ?_ _); rotate_left; focus (first | omega | (simp; done) | (simp; omega))) | (with_reducible refine Keep.alloc ?_ _) | (with_reducible refine Keep.drewN ?_ _) | (with_reducible refine Keep.drew ?_) | (with_reducible exact Keep.refl _) | refine Keep.trans ?_ (by with_reducible assumption) | exact Keep.refl _ | assumption))))⟩
            case round =>
              obtain ⟨k, hk, rfl, hno, hZ, hY, hk0⟩ := hrel
              have HNO := Aside.mk hno
              have hYs := hY.two
              have hZs := hZ.two
              clear hno
              by_cases hk4 : k ≤ 3
              · have hr := fun W h3 h4 => hml.out k W hk4 h3 h4
                obtain ⟨r, hr2⟩ : ∃ r, srch (fitB l wd) may k 0 0#64 0#64 = r := ⟨_, rfl⟩
                have hs2 := fun z (e : r = some z) => srV_some (hr2.trans e)
                have HS2 := Aside.mk hs2
                clear hs2
                rw [hr2] at hr
                generalize srV (fitB l wd) may k 0 0#64 0#64 = V at *
                have HR2 := Aside.mk hr2
                clear hr2
                (go_wp2_with fail); (go_at_call 78); (refine (hr _ (hR.keep (by ((repeat (first | (with_reducible assumption) | ((with_reducible refine Keep.setCell ?_ ?_ _); rotate_left; focus (first | omega | (simp; done) | (simp; omega))) | (with_reducible refine Keep.alloc ?_ _) | (with_reducible refine Keep.drewN ?_ _) | (with_reducible refine Keep.drew ?_) | (with_reducible exact Keep.refl _) | refine Keep.trans ?_ (by with_reducible assumption) | exact Keep.refl _ | assumption))))) (hS.keep (by ((repeat (first | (with_reducible assumption) | ((with_reducible refine Keep.setCell ?_ ?_ _); rotate_left; focus (first | omega | (simp; done) | (simp; omega))) | (with_reducible refine Keep.alloc ?_ _) | (with_reducible refine Keep.drewN ?_ _) | (with_reducible refine Keep.drew ?_) | (with_reducible exact Keep.refl _) | refine Keep.trans ?_ (by with_reducible assumption) | exact Keep.refl _ | assumption)))))).mono ?_); rintro e w3 ⟨rfl, hkn⟩
                have k3 := hk0.trans hkn
                replace hZ := hZ.keep hkn
                replace hY := hY.keep hkn
                have hYs := hY.two
                have hZs := hZ.two
                have zz := hZ.lt
                have zy := hY.lt
                clear hkn hr hk0
                cases r with
                | none =>
                  have HN2 : Aside (∀ j, j < k + 1 → srch (fitB l wd) may j 0 0#64 0#64 = none) := Aside.mk (fun j hj => by
                    by_cases e : j = k
                    · rw [e]; exact HR2.out
                    · exact HNO.out j (by omega))
                  clear HNO HR2 HS2
                  go_wp2
                  go_roundg (4 - (k + 1))
                  case measure => omega
                  case rel =>
                    refine ⟨k + 1, by omega, by go_num, HN2.out, ?_, ?_, ?_⟩
                    · first | exact hZ.alloc _ | exact (hZ.alloc _).alloc _
                    · first | exact hY.alloc _ | exact (hY.alloc _).alloc _
                    · exact (by ((repeat (first | (with_reducible assumption) | ((with_reducible refine Keep.setCell ?_ ?_ _); rotate_left; focus (first | omega | (simp; done) | (simp; omega))) | (with_reducible refine Keep.alloc ?_ _) | (with_reducible refine Keep.drewN ?_ _) | (with_reducible refine Keep.drew ?_) | (with_reducible exact Keep.refl _) | refine Keep.trans ?_ (by with_reducible assumption) | exact Keep.refl _ | assumption))))
                | some z =>
                  have HZ := Aside.mk (show fwA l wd = V.1 ∧ fwB l wd = V.2 ∧ fwE l wd = 0 by
                    have e : fwR l wd = some z := by rw [HMT.out]; exact fnR_some (by omega) HNO.out HR2.out
                    have e2 := HS2.out z rfl
                    rw [HF.out.1, HF.out.2.1, HF.out.2.2, e, e2]; exact ⟨rfl, rfl, rfl⟩)
                  clear HNO HR2 HS2 HF HMT
                  go_wp2
                  (apply bodyPost_ret; rotate_left; rfl; exact ⟨rfl, (by ((repeat (first | (with_reducible assumption) | ((with_reducible refine Keep.setCell ?_ ?_ _); rotate_left; focus (first | omega | (simp; done) | (simp; omega))) | (with_reducible refine Keep.alloc ?_ _) | (with_reducible refine Keep.drewN ?_ _) | (with_reducible refine Keep.drew ?_) | (with_reducible exact Keep.refl _) | refine Keep.trans ?_ (by with_reducible assumption) | exact Keep.refl _ | assumption))))⟩; simp [results, Tryd.results21, go_sem, U_zero, *])
                  exact ⟨⟨by rw [HZ.out.1], by rw [HZ.out.2.1]⟩, by rw [HZ.out.2.2]⟩
              · have HZ := Aside.mk (show fwA l wd = 0#64 ∧ fwB l wd = 0#64 ∧ fwE l wd = 6 by
                  have e : fwR l wd = none := by rw [HMT.out]; exact fnR_none (fun j hj => HNO.out j (by omega))
                  rw [HF.out.1, HF.out.2.1, HF.out.2.2, e]; exact ⟨rfl, rfl, rfl⟩)
                clear HNO HF HMT hml
                go_wp2
                (apply bodyPost_ret; rotate_left; rfl; exact ⟨rfl, (by ((repeat (first | (with_reducible assumption) | ((with_reducible refine Keep.setCell ?_ ?_ _); rotate_left; focus (first | omega | (simp; done) | (simp; omega))) | (with_reducible refine Keep.alloc ?_ _) | (with_reducible refine Keep.drewN ?_ _) | (with_reducible refine Keep.drew ?_) | (with_reducible exact Keep.refl _) | refine Keep.trans ?_ (by with_reducible assumption) | exact Keep.refl _ | assumption))))⟩; simp [results, Tryd.results21, go_sem, U_zero, *])
                exact ⟨⟨by rw [HZ.out.1]; rfl, by rw [HZ.out.2.1]; rfl⟩, by rw [HZ.out.2.2]⟩
end Go.Proofs.YtpmilcfppcmodaaDoor
namespace Go.Proofs.YtpmilcfppcmodaaDoor
open Go.RowKit
set_option maxHeartbeats 2000000
set_option maxRecDepth 20000
theorem laws_FnExactFewestNeedles (A : Option Addr) (l : List Cd) (c : Nat) (B : Option Addr) (hs : List Int) (d : Nat) (w : World) (hl : l.length ≤ 9223372036854775807 ∧ CSz l ∧ Rd w A (cds l)) (hh : hs.length ≤ 9223372036854775807 ∧ Rd w B (ints hs)) :
    Calls Tryd.prog 14 #[.slice A l.length c, .slice B hs.length d] w fun e w' => e = .returned (.bool true) ∧ Keep w w' := by
  obtain ⟨hl1, hlz, hR⟩ := hl
  obtain ⟨hm2, hS⟩ := hh
  by_cases hsn : hs.length ≤ 1048576
  · by_cases hn : (1048576 : Int) < (l.length + cSum l : Nat)
    · have e1 := szD_gt hn
      go_enter Tryd.func14, Tryd.ntmps14
      (go_wp2_with fail); (go_at_call 26); (refine (laws_szCardS _ _ _ 1048576 _ (by decide) hl1 hlz hR).mono ?_); rintro e w1 ⟨rfl, hk1⟩
      rw [e1]
      go_wp2
      go_ret; exact ⟨rfl, (by ((repeat (first | (with_reducible assumption) | ((with_reducible refine Keep.setCell ?_ ?_ _); rotate_left; focus (first | omega | (simp; done) | (simp; omega))) | (with_reducible refine Keep.alloc ?_ _) | (with_reducible refine Keep.drewN ?_ _) | (with_reducible refine Keep.drew ?_) | (with_reducible exact Keep.refl _) | refine Keep.trans ?_ (by with_reducible assumption) | exact Keep.refl _ | assumption))))⟩
    · obtain ⟨left, hleft⟩ : ∃ x, szD 1048576 l = x := ⟨_, rfl⟩
      have e1 : left = 1048576 - (l.length + cSum l : Nat) := by rw [← hleft]; exact szD_le hn
      have hl0 : ¬ left < 0 := by omega
      have hln : l.length ≤ 1048576 := by omega
      have hI := Aside.mk (fun A B c d W hc hr hq => impl_FewestNeedles A B l hs c d W hln hc hsn hlz hr hq)
      have hJ := Aside.mk (fun A B c d W hr hq => spec_FewestNeedles A B l hs c d W hln hsn hlz hr hq)
      generalize fwA l hs = fa at *
      generalize fwB l hs = fb at *
      generalize fwE l hs = E at *
      clear hn e1
      go_enter Tryd.func14, Tryd.ntmps14
      (go_wp2_with fail); (go_at_call 26); (refine (laws_szCardS _ _ _ 1048576 _ (by decide) hl1 hlz hR).mono ?_); rintro e w1 ⟨rfl, hW⟩
      rw [hleft]
      clear hleft
      (go_wp2_with fail); (go_at_call 28); (refine (laws_toCardS _ _ _ _ hln (hR.keep hW)).mono ?_); rintro e w2 ⟨g2, rfl, ho2, hk⟩
      have kk : Keep w1 w2 := (by ((repeat (first | (with_reducible assumption) | ((with_reducible refine Keep.setCell ?_ ?_ _); rotate_left; focus (first | omega | (simp; done) | (simp; omega))) | (with_reducible refine Keep.alloc ?_ _) | (with_reducible refine Keep.drewN ?_ _) | (with_reducible refine Keep.drew ?_) | (with_reducible exact Keep.refl _) | refine Keep.trans ?_ (by with_reducible assumption) | exact Keep.refl _ | assumption))))
      replace hW := hW.trans kk
      clear hk kk
      have hx0 := Own.new ho2
      clear ho2
      (go_wp2_with fail); (go_at_call 51); (refine (laws_toInt64S _ _ _ _ hsn (hS.keep hW)).mono ?_); rintro e x2 ⟨j2, rfl, ho2, hk⟩
      have kk : Keep w2 x2 := (by ((repeat (first | (with_reducible assumption) | ((with_reducible refine Keep.setCell ?_ ?_ _); rotate_left; focus (first | omega | (simp; done) | (simp; omega))) | (with_reducible refine Keep.alloc ?_ _) | (with_reducible refine Keep.drewN ?_ _) | (with_reducible refine Keep.drew ?_) | (with_reducible exact Keep.refl _) | refine Keep.trans ?_ (by with_reducible assumption) | exact Keep.refl _ | assumption))))
      replace hx0 := hx0.keep kk
      replace hW := hW.trans kk
      clear hk kk
      have hy0 := Own.new ho2
      clear ho2
      (go_wp2_with fail); (go_at_call 21); (refine (hJ.out _ _ _ _ _ hx0.rd hy0.rd).mono ?_); rintro e w3 ⟨rfl, hk⟩
      have kk : Keep x2 w3 := (by ((repeat (first | (with_reducible assumption) | ((with_reducible refine Keep.setCell ?_ ?_ _); rotate_left; focus (first | omega | (simp; done) | (simp; omega))) | (with_reducible refine Keep.alloc ?_ _) | (with_reducible refine Keep.drewN ?_ _) | (with_reducible refine Keep.drew ?_) | (with_reducible exact Keep.refl _) | refine Keep.trans ?_ (by with_reducible assumption) | exact Keep.refl _ | assumption))))
      replace hW := hW.trans kk
      clear hk kk
      clear hx0 hy0
      have z3 := hW.size
      (go_wp2_with fail); (go_at_call 28); (refine (laws_toCardS _ _ _ _ hln (hR.keep (by ((repeat (first | (with_reducible assumption) | ((with_reducible refine Keep.setCell ?_ ?_ _); rotate_left; focus (first | omega | (simp; done) | (simp; omega))) | (with_reducible refine Keep.alloc ?_ _) | (with_reducible refine Keep.drewN ?_ _) | (with_reducible refine Keep.drew ?_) | (with_reducible exact Keep.refl _) | refine Keep.trans ?_ (by with_reducible assumption) | exact Keep.refl _ | assumption)))))).mono ?_); rintro e w4 ⟨g4, rfl, ho4, hk⟩
      have h6 : Bx w4 w3.heap.size #[.int .u64 (U fa), .int .u64 (U fb)] 33 := (Bx.new _ _ _).keep hk
      have kk : Keep w3 w4 := (by ((repeat (first | (with_reducible assumption) | ((with_reducible refine Keep.setCell ?_ ?_ _); rotate_left; focus (first | omega | (simp; done) | (simp; omega))) | (with_reducible refine Keep.alloc ?_ _) | (with_reducible refine Keep.drewN ?_ _) | (with_reducible refine Keep.drew ?_) | (with_reducible exact Keep.refl _) | refine Keep.trans ?_ (by with_reducible assumption) | exact Keep.refl _ | assumption))))
      replace hW := hW.trans kk
      have hx := Own.new ho4
      clear ho4 hk kk
      (go_wp2_with fail); (go_at_call 51); (refine (laws_toInt64S _ _ _ _ hsn (hS.keep hW)).mono ?_); rintro e x4 ⟨j4, rfl, ho4, hk⟩
      have kk : Keep w4 x4 := (by ((repeat (first | (with_reducible assumption) | ((with_reducible refine Keep.setCell ?_ ?_ _); rotate_left; focus (first | omega | (simp; done) | (simp; omega))) | (with_reducible refine Keep.alloc ?_ _) | (with_reducible refine Keep.drewN ?_ _) | (with_reducible refine Keep.drew ?_) | (with_reducible exact Keep.refl _) | refine Keep.trans ?_ (by with_reducible assumption) | exact Keep.refl _ | assumption))))
      replace h6 := h6.keep kk
      replace hx := hx.keep kk
      replace hW := hW.trans kk
      clear hk kk
      have hy := Own.new ho4
      clear ho4
      (go_wp2_with fail); (go_at_call 20); (refine (hI.out _ _ _ _ _ (Nat.le_refl _) hx.rd hy.rd).mono ?_); rintro e w5 ⟨rfl, hk⟩
      have kk : Keep x4 w5 := (by ((repeat (first | (with_reducible assumption) | ((with_reducible refine Keep.setCell ?_ ?_ _); rotate_left; focus (first | omega | (simp; done) | (simp; omega))) | (with_reducible refine Keep.alloc ?_ _) | (with_reducible refine Keep.drewN ?_ _) | (with_reducible refine Keep.drew ?_) | (with_reducible exact Keep.refl _) | refine Keep.trans ?_ (by with_reducible assumption) | exact Keep.refl _ | assumption))))
      replace h6 := h6.keep kk
      replace hx := hx.keep kk
      replace hy := hy.keep kk
      replace hW := hW.trans kk
      clear hk kk
      have h6s := h6.two
      have z5 := hW.size
      (go_wp2_with fail); (go_at_call 63); (refine (laws_eqMask_self _ _ _).mono ?_); rintro e w6 ⟨rfl, hk⟩
      have kk : Keep w5 w6 := (by ((repeat (first | (with_reducible assumption) | ((with_reducible refine Keep.setCell ?_ ?_ _); rotate_left; focus (first | omega | (simp; done) | (simp; omega))) | (with_reducible refine Keep.alloc ?_ _) | (with_reducible refine Keep.drewN ?_ _) | (with_reducible refine Keep.drew ?_) | (with_reducible exact Keep.refl _) | refine Keep.trans ?_ (by with_reducible assumption) | exact Keep.refl _ | assumption))))
      replace hW := hW.trans kk
      replace hx := hx.keep kk
      replace hy := hy.keep kk
      clear hk kk h6 h6s
      (go_wp2_with fail); (go_at_call 28); (refine (laws_toCardS _ _ _ _ hln (hR.keep hW)).mono ?_); rintro e w7 ⟨g7, rfl, ho7, hk⟩
      have kk : Keep w6 w7 := (by ((repeat (first | (with_reducible assumption) | ((with_reducible refine Keep.setCell ?_ ?_ _); rotate_left; focus (first | omega | (simp; done) | (simp; omega))) | (with_reducible refine Keep.alloc ?_ _) | (with_reducible refine Keep.drewN ?_ _) | (with_reducible refine Keep.drew ?_) | (with_reducible exact Keep.refl _) | refine Keep.trans ?_ (by with_reducible assumption) | exact Keep.refl _ | assumption))))
      replace hx := hx.keep kk
      replace hy := hy.keep kk
      replace hW := hW.trans kk
      clear hk kk
      (go_wp2_with fail); (go_at_call 30); (refine (laws_eqCardS _ _ _ _ _ _ hln hx.rd (own_rdc ho7)).mono ?_); rintro e w8 ⟨rfl, hk⟩
      have kk : Keep w7 w8 := (by ((repeat (first | (with_reducible assumption) | ((with_reducible refine Keep.setCell ?_ ?_ _); rotate_left; focus (first | omega | (simp; done) | (simp; omega))) | (with_reducible refine Keep.alloc ?_ _) | (with_reducible refine Keep.drewN ?_ _) | (with_reducible refine Keep.drew ?_) | (with_reducible exact Keep.refl _) | refine Keep.trans ?_ (by with_reducible assumption) | exact Keep.refl _ | assumption))))
      replace hx := hx.keep kk
      replace hy := hy.keep kk
      replace hW := hW.trans kk
      clear hk kk
      clear ho7
      (go_wp2_with fail); (go_at_call 51); (refine (laws_toInt64S _ _ _ _ hsn (hS.keep hW)).mono ?_); rintro e x7 ⟨g7, rfl, ho7, hk⟩
      have kk : Keep w8 x7 := (by ((repeat (first | (with_reducible assumption) | ((with_reducible refine Keep.setCell ?_ ?_ _); rotate_left; focus (first | omega | (simp; done) | (simp; omega))) | (with_reducible refine Keep.alloc ?_ _) | (with_reducible refine Keep.drewN ?_ _) | (with_reducible refine Keep.drew ?_) | (with_reducible exact Keep.refl _) | refine Keep.trans ?_ (by with_reducible assumption) | exact Keep.refl _ | assumption))))
      replace hx := hx.keep kk
      replace hy := hy.keep kk
      replace hW := hW.trans kk
      clear hk kk
      (go_wp2_with fail); (go_at_call 47); (refine (laws_eqInt64S _ _ _ _ _ _ hsn hy.rd (Own.new ho7).rd).mono ?_); rintro e x8 ⟨rfl, hk⟩
      have kk : Keep x7 x8 := (by ((repeat (first | (with_reducible assumption) | ((with_reducible refine Keep.setCell ?_ ?_ _); rotate_left; focus (first | omega | (simp; done) | (simp; omega))) | (with_reducible refine Keep.alloc ?_ _) | (with_reducible refine Keep.drewN ?_ _) | (with_reducible refine Keep.drew ?_) | (with_reducible exact Keep.refl _) | refine Keep.trans ?_ (by with_reducible assumption) | exact Keep.refl _ | assumption))))
      replace hx := hx.keep kk
      replace hy := hy.keep kk
      replace hW := hW.trans kk
      clear hk kk
      go_wp2
      go_ret; exact ⟨rfl, hW⟩
  · have hsn2 : (1048576 : Int) < hs.length := by omega
    go_enter Tryd.func14, Tryd.ntmps14
    go_wp2
    go_ret; exact ⟨rfl, (by ((repeat (first | (with_reducible assumption) | ((with_reducible refine Keep.setCell ?_ ?_ _); rotate_left; focus (first | omega | (simp; done) | (simp; omega))) | (with_reducible refine Keep.alloc ?_ _) | (with_reducible refine Keep.drewN ?_ _) | (with_reducible refine Keep.drew ?_) | (with_reducible exact Keep.refl _) | refine Keep.trans ?_ (by with_reducible assumption) | exact Keep.refl _ | assumption))))⟩
end Go.Proofs.YtpmilcfppcmodaaDoor

/- The fewest needles: the masks that may be, by the meet of the wanted cards; plain. -/
import Derived.Test.YtpmilcfppcmodaaDoorFW4
set_option linter.unusedVariables false
set_option linter.unusedSimpArgs false
namespace Go.Proofs.YtpmilcfppcmodaaDoor
open Go.RowKit Go.Shelf
set_option maxHeartbeats 1000000
set_option maxRecDepth 20000
/-- The search asks its test at masks alone: equal tests, equal searches. -/
theorem scan_congr {α : Type} {g g' : Nat → Option α} {f : Nat} : ∀ n, (∀ h, f ≤ h → h < f + n → g h = g' h) → scan g f n = scan g' f n
  | 0, _ => rfl
  | n + 1, e => by
    have e1 := scan_congr n (fun h h1 h2 => e h h1 (by omega))
    simp only [scan]
    rw [e1, e (f + n) (by omega) (by omega)]
theorem srch_congr {P P' : Wd → Wd → Bool} {may may' : Nat → Bool} (hP : ∀ a b, P a b = P' a b) (hm : ∀ h, h < 96 → may h = may' h) : ∀ k f a b, srch P may k f a b = srch P' may' k f a b
  | 0, f, a, b => by unfold srch; rw [hP]
  | k + 1, f, a, b => by
    rw [srch_succ, srch_succ]
    by_cases hf : f ≤ 96
    · refine scan_congr _ (fun h h1 h2 => ?_)
      unfold srG
      rw [hm h (by omega), srch_congr hP hm k]
    · rw [show 96 - f = 0 by omega]; rfl
theorem anN_nil {l : List Cd} {qs : List Qy} : ∀ {i : Nat}, i ≤ l.length → (anN l qs i = [] ↔ (l.take i).any (fun c => qs.any (qdrB c.a c.b)) = false)
  | 0, _ => by simp [anN]
  | i + 1, hi => by
    have ih := anN_nil (l := l) (qs := qs) (i := i) (by omega)
    have h1 : i < l.length := by omega
    have e := any_takeD (q := fun c : Cd => qs.any (qdrB c.a c.b)) h1
    rw [e, Bool.or_eq_false_iff, ← ih]
    have e2 := drAt_at qs h1
    cases hd : drAt l qs i
    · rw [anN_no hd]
      rw [hd] at e2
      constructor
      · exact fun h => ⟨h, e2.symm⟩
      · exact fun h => h.1
    · rw [anN_yes hd]
      rw [hd] at e2
      constructor
      · intro h; simp at h
      · intro h; rw [← e2] at h; simp at h
theorem qdr_all (a b x y : Wd) : qdrB x y ⟨a, b, 0#64, 0#64⟩ = withinB a b x y := by
  unfold qdrB dropsB; simp
theorem fit_nil (l : List Cd) (a b : Wd) : fitB l [] a b = freeB l a b := by
  unfold fitB freeB ansL
  have h := anN_nil (l := l) (qs := [⟨a, b, 0#64, 0#64⟩]) (i := l.length) (Nat.le_refl _)
  rw [List.take_length] at h
  simp only [List.any_cons, List.any_nil, Bool.or_false, qdr_all] at h
  cases hq : l.any (fun c => withinB a b c.a c.b)
  · rw [hq] at h; simp [h]
  · rw [hq] at h
    have : ¬ anN l [⟨a, b, 0#64, 0#64⟩] l.length = [] := fun e => by simpa using h.1 e
    simp [this]
end Go.Proofs.YtpmilcfppcmodaaDoor
namespace Go.Proofs.YtpmilcfppcmodaaDoor
open Go.RowKit Go.Shelf
set_option maxHeartbeats 1000000
set_option maxRecDepth 20000
theorem hasB_and (a b x y : Wd) (h : Int) : hasB (a &&& x) (b &&& y) h = (hasB a b h && hasB x y h) := by
  by_cases hh : h < 64
  · rw [hasB_lt hh, hasB_lt hh, hasB_lt hh, BitVec.getLsbD_and]
  · rw [hasB_ge hh, hasB_ge hh, hasB_ge hh, BitVec.getLsbD_and]
def allLo : Wd := 18446744073709551615#64
def allHi : Wd := 4294967295#64
theorem hasB_all {h : Nat} (h1 : h < 96) : hasB allLo allHi (h : Int) = true := by
  have : ∀ n : Fin 96, hasB allLo allHi ((n.val : Nat) : Int) = true := by decide +kernel
  exact this ⟨h, h1⟩
/-- The mask of the card with this index. -/
def cdLo (l : List Cd) (k : Int) : Wd := match l[k.toNat]? with | some c => c.a | none => 0#64
def cdHi (l : List Cd) (k : Int) : Wd := match l[k.toNat]? with | some c => c.b | none => 0#64
def mtLo (l : List Cd) (wd : List Int) : Wd := wd.foldl (fun m k => m &&& cdLo l k) allLo
def mtHi (l : List Cd) (wd : List Int) : Wd := wd.foldl (fun m k => m &&& cdHi l k) allHi
theorem mtLo_succ {l : List Cd} {wd : List Int} {i : Nat} (h : i < wd.length) : mtLo l (wd.take (i + 1)) = mtLo l (wd.take i) &&& cdLo l wd[i] := by
  unfold mtLo; rw [List.take_succ_eq_append_getElem h, List.foldl_append]; rfl
theorem mtHi_succ {l : List Cd} {wd : List Int} {i : Nat} (h : i < wd.length) : mtHi l (wd.take (i + 1)) = mtHi l (wd.take i) &&& cdHi l wd[i] := by
  unfold mtHi; rw [List.take_succ_eq_append_getElem h, List.foldl_append]; rfl
theorem has_cd (l : List Cd) (k h : Int) : hasB (cdLo l k) (cdHi l k) h = hasAt l h k := by
  unfold cdLo cdHi hasAt
  cases l[k.toNat]? with
  | some c => rfl
  | none => unfold hasB; split <;> simp
theorem has_fold (l : List Cd) (h : Int) : ∀ (wd : List Int) (a b : Wd), hasB (wd.foldl (fun m k => m &&& cdLo l k) a) (wd.foldl (fun m k => m &&& cdHi l k) b) h = (hasB a b h && wd.all (hasAt l h))
  | [], a, b => by simp
  | k :: wd, a, b => by
    rw [List.foldl_cons, List.foldl_cons, has_fold l h wd, hasB_and, has_cd, List.all_cons, Bool.and_assoc]
theorem has_mt {l : List Cd} {wd : List Int} {h : Nat} (h1 : h < 96) : hasB (mtLo l wd) (mtHi l wd) (h : Int) = mayI l wd h := by
  unfold mtLo mtHi mayI
  rw [has_fold, hasB_all h1, Bool.true_and]
end Go.Proofs.YtpmilcfppcmodaaDoor

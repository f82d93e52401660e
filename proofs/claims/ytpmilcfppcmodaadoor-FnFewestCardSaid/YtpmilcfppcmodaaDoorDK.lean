/- Is a deck valid: the walks. -/
import Derived.Shelf.Abstract
import Derived.Test.YtpmilcfppcmodaaDoorD1
import Derived.Test.YtpmilcfppcmodaaDoorDT
import Derived.Test.YtpmilcfppcmodaaDoorN4
set_option linter.unusedVariables false
set_option linter.unusedSimpArgs false
namespace Go.Proofs.YtpmilcfppcmodaaDoor
open Go.RowKit Go.Shelf
set_option maxHeartbeats 2000000
set_option maxRecDepth 20000
theorem any_takeD {α : Type} {l : List α} {q : α → Bool} {i : Nat} (h : i < l.length) : (l.take (i + 1)).any q = ((l.take i).any q || q l[i]) := by
  rw [List.take_succ_eq_append_getElem h, List.any_append]; simp
theorem any_ofD {α : Type} {l : List α} {q : α → Bool} {i : Nat} (h : i < l.length) (hb : q l[i] = true) : l.any q = true := by
  rw [List.any_eq_true]; exact ⟨l[i], List.getElem_mem h, hb⟩
theorem rall_succ (p : Nat → Bool) (i : Nat) : (List.range (i + 1)).all p = ((List.range i).all p && p i) := by rw [List.range_succ, List.all_append]; simp
theorem rall_no {p : Nat → Bool} {n i : Nat} (h : i < n) (hb : p i = false) : (List.range n).all p = false := by
  rw [List.all_eq_false]; exact ⟨i, List.mem_range.2 h, by simp [hb]⟩
/-- Has one of these cards this name? -/
def clashB (l : List Cd) (s : ByteArray) : Bool := l.any fun x => decide (x.s = s)
/-- Is the card at this place valid, and of another name than those ahead of it? -/
def fineAt (l : List Cd) (i : Nat) : Bool := match l[i]? with
  | some c => cardB c.s c.b && !clashB (l.take i) c.s
  | none => true
def dkB (l : List Cd) : Bool := decide (l.length ≤ 80) && (List.range l.length).all (fineAt l)
theorem fineAt_at {l : List Cd} {i : Nat} (h : i < l.length) : fineAt l i = (cardB l[i].s l[i].b && !clashB (l.take i) l[i].s) := by
  unfold fineAt; rw [List.getElem?_eq_getElem h]
theorem rd_take {w : World} {A : Option Addr} {l : List Cd} (i : Nat) (h : Rd w A (cds l)) : Rd w A (cds (l.take i)) := by
  refine h.sub fun j v hj => ?_
  have e := cds_app (l.take i) (l.drop i)
  rw [List.take_append_drop] at e
  rw [e, List.getElem?_append_left (List.getElem?_eq_some_iff.1 hj).1]
  exact hj
/-- A function value that enters f with what it holds behind its arguments. -/
theorem index_card (A : Option Addr) (l : List Cd) (c g : Nat) (caps : Array Value) (q : Cd → Bool) (w : World) (hm : l.length ≤ 9223372036854775807) (hR : Rd w A (cds l))
    (eg : ∀ args w, (callFunc g args).run Tryd.prog w = .ok (.enter g args) w) (hq : ∀ x, x ∈ l → ∀ W, Keep w W → Calls Tryd.prog g (#[.agg #[.string x.s, .int .u64 (U (x.a)), .int .u64 (U (x.b))]] ++ caps) W fun e w' => e = .returned (.bool (q x)) ∧ Keep W w') :
    Calls Tryd.prog 159 #[.slice A l.length c, .func (.func g) #[] caps] w fun e w' => ∃ n : Int, e = .returned (.int .i64 n) ∧ decide (0 ≤ n) = l.any q ∧ Keep w w' := by
  go_enter Tryd.func159, Tryd.ntmps159
  go_wp2_with fail
  go_loopg [5, 8] l.length (fun k s5 s8 wr => ∃ i : Nat, i + k = l.length ∧ s8 = .int .i64 i ∧ (l.take i).any q = false ∧ Keep w wr)
  case atStart => exact ⟨0, by omega, rfl, rfl, (by ((repeat (first | (with_reducible assumption) | ((with_reducible refine Keep.setCell ?_ ?_ _); rotate_left; focus (first | omega | (simp; done) | (simp; omega))) | (with_reducible refine Keep.alloc ?_ _) | (with_reducible refine Keep.drewN ?_ _) | (with_reducible refine Keep.drew ?_) | (with_reducible exact Keep.refl _) | refine Keep.trans ?_ (by with_reducible assumption) | exact Keep.refl _ | assumption))))⟩
  case round =>
    obtain ⟨i, hi, rfl, hal, hk⟩ := hrel
    have HL := Aside.mk hal
    clear hal
    by_cases hlt : i < l.length
    · obtain ⟨bb, o, rfl, hc⟩ := (hR.keep hk).at (k := i) (by rw [cds_len]; omega)
      obtain ⟨r1, r2, r3⟩ := cds_at l i hlt
      have p1 := hc _ _ r1
      have p2 := hc _ _ r2
      have p3 := hc _ _ r3
      rw [← Nat.add_assoc] at p2 p3
      have hcall := fun W h => hq l[i] (List.getElem_mem hlt) W h
      have hT := any_takeD (q := q) hlt
      rw [HL.out, Bool.false_or] at hT
      have HQ := Aside.mk (fun h => any_ofD (q := q) hlt h)
      have HT := Aside.mk hT
      clear hc hT hq r1 r2 r3
      generalize l[i] = x at *
      obtain ⟨s, a, b⟩ := x
      simp only at p1 p2 p3 hcall
      cases hb : q ⟨s, a, b⟩
      · rw [hb] at hcall HT
        go_wp2_with (go_at_fn g; refine (hcall _ (by ((repeat (first | (with_reducible assumption) | ((with_reducible refine Keep.setCell ?_ ?_ _); rotate_left; focus (first | omega | (simp; done) | (simp; omega))) | (with_reducible refine Keep.alloc ?_ _) | (with_reducible refine Keep.drewN ?_ _) | (with_reducible refine Keep.drew ?_) | (with_reducible exact Keep.refl _) | refine Keep.trans ?_ (by with_reducible assumption) | exact Keep.refl _ | assumption))))).mono ?_; rintro e w' ⟨rfl, hk1⟩)
        go_roundg (l.length - (i + 1))
        case measure => omega
        case rel => exact ⟨i + 1, by omega, by go_num, HT.out, (by ((repeat (first | (with_reducible assumption) | ((with_reducible refine Keep.setCell ?_ ?_ _); rotate_left; focus (first | omega | (simp; done) | (simp; omega))) | (with_reducible refine Keep.alloc ?_ _) | (with_reducible refine Keep.drewN ?_ _) | (with_reducible refine Keep.drew ?_) | (with_reducible exact Keep.refl _) | refine Keep.trans ?_ (by with_reducible assumption) | exact Keep.refl _ | assumption))))⟩
      · have hA := HQ.out hb
        have HA := Aside.mk hA
        clear hA
        rw [hb] at hcall
        go_wp2_with (go_at_fn g; refine (hcall _ (by ((repeat (first | (with_reducible assumption) | ((with_reducible refine Keep.setCell ?_ ?_ _); rotate_left; focus (first | omega | (simp; done) | (simp; omega))) | (with_reducible refine Keep.alloc ?_ _) | (with_reducible refine Keep.drewN ?_ _) | (with_reducible refine Keep.drew ?_) | (with_reducible exact Keep.refl _) | refine Keep.trans ?_ (by with_reducible assumption) | exact Keep.refl _ | assumption))))).mono ?_; rintro e w' ⟨rfl, hk1⟩)
        go_ret; exact ⟨_, rfl, by rw [HA.out]; simp, (by ((repeat (first | (with_reducible assumption) | ((with_reducible refine Keep.setCell ?_ ?_ _); rotate_left; focus (first | omega | (simp; done) | (simp; omega))) | (with_reducible refine Keep.alloc ?_ _) | (with_reducible refine Keep.drewN ?_ _) | (with_reducible refine Keep.drew ?_) | (with_reducible exact Keep.refl _) | refine Keep.trans ?_ (by with_reducible assumption) | exact Keep.refl _ | assumption))))⟩
    · have e2 : i = l.length := by omega
      subst e2
      have hal : l.any q = false := by have := HL.out; rwa [List.take_length] at this
      have HA := Aside.mk hal
      clear hal
      go_wp2
      go_ret; exact ⟨_, rfl, by rw [HA.out]; rfl, (by ((repeat (first | (with_reducible assumption) | ((with_reducible refine Keep.setCell ?_ ?_ _); rotate_left; focus (first | omega | (simp; done) | (simp; omega))) | (with_reducible refine Keep.alloc ?_ _) | (with_reducible refine Keep.drewN ?_ _) | (with_reducible refine Keep.drew ?_) | (with_reducible exact Keep.refl _) | refine Keep.trans ?_ (by with_reducible assumption) | exact Keep.refl _ | assumption))))⟩
theorem contains_card (A : Option Addr) (l : List Cd) (c g : Nat) (caps : Array Value) (q : Cd → Bool) (w : World) (hm : l.length ≤ 9223372036854775807) (hR : Rd w A (cds l))
    (eg : ∀ args w, (callFunc g args).run Tryd.prog w = .ok (.enter g args) w) (hq : ∀ x, x ∈ l → ∀ W, Keep w W → Calls Tryd.prog g (#[.agg #[.string x.s, .int .u64 (U (x.a)), .int .u64 (U (x.b))]] ++ caps) W fun e w' => e = .returned (.bool (q x)) ∧ Keep W w') :
    Calls Tryd.prog 129 #[.slice A l.length c, .func (.func g) #[] caps] w fun e w' => e = .returned (.bool (l.any q)) ∧ Keep w w' := by
  have hi := index_card A l c g caps q w hm hR eg hq
  generalize l.any q = r at *
  go_enter Tryd.func129, Tryd.ntmps129
  (go_wp2_with fail); (go_at_call 159); refine hi.mono ?_; rintro e w1 ⟨n, rfl, rfl, hk1⟩
  go_wp2
  go_ret; exact ⟨rfl, (by ((repeat (first | (with_reducible assumption) | ((with_reducible refine Keep.setCell ?_ ?_ _); rotate_left; focus (first | omega | (simp; done) | (simp; omega))) | (with_reducible refine Keep.alloc ?_ _) | (with_reducible refine Keep.drewN ?_ _) | (with_reducible refine Keep.drew ?_) | (with_reducible exact Keep.refl _) | refine Keep.trans ?_ (by with_reducible assumption) | exact Keep.refl _ | assumption))))⟩
theorem toList_eq {s t : ByteArray} : s.toList = t.toList ↔ s = t := by
  constructor
  · intro h
    rw [ByteArray.toList_eq, ByteArray.toList_eq] at h
    cases s; cases t; simp at h; rw [h]
  · rintro rfl; rfl
theorem isDeck_clo (s t : ByteArray) (a b : Wd) (g : Nat) (w : World) (c0 : w.cell? ⟨g, 0, none⟩ = some (.string t)) :
    Calls Tryd.prog 130 #[.agg #[.string s, .int .u64 (U a), .int .u64 (U b)], .pointer (some ⟨g, 0, none⟩)] w fun e w' => e = .returned (.bool (decide (s = t))) ∧ Keep w w' := by
  have hg := World.block_lt_of_cell? w _ c0
  simp only at hg
  by_cases h : s = t
  · subst h
    go_enter Tryd.func130, Tryd.ntmps130
    go_wp2
    go_ret; exact ⟨rb (by simp), (by ((repeat (first | (with_reducible assumption) | ((with_reducible refine Keep.setCell ?_ ?_ _); rotate_left; focus (first | omega | (simp; done) | (simp; omega))) | (with_reducible refine Keep.alloc ?_ _) | (with_reducible refine Keep.drewN ?_ _) | (with_reducible refine Keep.drew ?_) | (with_reducible exact Keep.refl _) | refine Keep.trans ?_ (by with_reducible assumption) | exact Keep.refl _ | assumption))))⟩
  · have h' : ¬ s.toList = t.toList := fun k => h (toList_eq.1 k)
    go_enter Tryd.func130, Tryd.ntmps130
    go_wp2
    go_ret; exact ⟨rb (by simp [h, h']), (by ((repeat (first | (with_reducible assumption) | ((with_reducible refine Keep.setCell ?_ ?_ _); rotate_left; focus (first | omega | (simp; done) | (simp; omega))) | (with_reducible refine Keep.alloc ?_ _) | (with_reducible refine Keep.drewN ?_ _) | (with_reducible refine Keep.drew ?_) | (with_reducible exact Keep.refl _) | refine Keep.trans ?_ (by with_reducible assumption) | exact Keep.refl _ | assumption))))⟩
end Go.Proofs.YtpmilcfppcmodaaDoor

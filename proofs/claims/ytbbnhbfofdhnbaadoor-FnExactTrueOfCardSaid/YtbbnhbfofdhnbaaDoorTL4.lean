/- The lists that have all words: the two functions. -/
import Derived.Test.YtbbnhbfofdhnbaaDoorTL1
import Derived.Test.YtbbnhbfofdhnbaaDoorS1
set_option linter.unusedVariables false
set_option linter.unusedSimpArgs false
namespace Go.Proofs.YtbbnhbfofdhnbaaDoor
open Go.RowKit Go.Shelf
set_option maxHeartbeats 2000000
set_option maxRecDepth 20000
theorem bytes_same {s t : ByteArray} (h : s.toList = t.toList) : s = t := by
  rw [ByteArray.toList_eq, ByteArray.toList_eq] at h
  cases s; cases t; simp at h; rw [h]
/-- Is the word in the list? -/
def hasW (l : List ByteArray) (t : ByteArray) : Bool := l.any fun x => decide (x = t)
def hasAllB (l ws : List ByteArray) : Bool := ws.all (hasW l)
theorem hasW_yes {l : List ByteArray} {t : ByteArray} {i : Nat} (h : i < l.length) (e : l[i] = t) : hasW l t = true := any_of (q := fun x => decide (x = t)) h (by simp [e])
theorem hasW_take {l : List ByteArray} {t : ByteArray} {i : Nat} (h : i < l.length) : (l.take (i + 1)).any (fun x => decide (x = t)) = ((l.take i).any (fun x => decide (x = t)) || decide (l[i] = t)) := any_take h
theorem index_word (A : Option Addr) (l : List ByteArray) (c : Nat) (t : ByteArray) (w : World) (hm : l.length ≤ 9223372036854775807) (hR : Rd w A (strs l)) :
    Calls Tryd.prog 97 #[.slice A l.length c, .string t] w fun e w' => ∃ n : Int, e = .returned (.int .i64 n) ∧ decide (0 ≤ n) = hasW l t ∧ Keep w w' := by
  go_enter Tryd.func97, Tryd.ntmps97
  go_wp2_with fail
  go_loopg [5, 8] l.length (fun k s5 s8 wr => ∃ i : Nat, i + k = l.length ∧ s8 = .int .i64 i ∧ (l.take i).any (fun x => decide (x = t)) = false ∧ Keep w wr)
  case atStart => exact ⟨0, by omega, rfl, rfl, (by ((repeat (first | (with_reducible assumption) | ((with_reducible refine Keep.setCell ?_ ?_ _); rotate_left; focus (first | omega | (simp; done) | (simp; omega))) | (with_reducible refine Keep.alloc ?_ _) | (with_reducible refine Keep.drewN ?_ _) | (with_reducible refine Keep.drew ?_) | (with_reducible exact Keep.refl _) | refine Keep.trans ?_ (by with_reducible assumption) | exact Keep.refl _ | assumption))))⟩
  case round =>
    obtain ⟨i, hi, rfl, hal, hk⟩ := hrel
    have HL := Aside.mk hal
    clear hal
    by_cases hlt : i < l.length
    · obtain ⟨bb, o, rfl, hc⟩ := (hR.keep hk).at (k := i) (by rw [strs_len]; exact hlt)
      have hcell := hc i _ (strs_at l i hlt)
      have hT := hasW_take (t := t) hlt
      rw [HL.out, Bool.false_or] at hT
      have HT := Aside.mk hT
      have HY := Aside.mk (fun e => hasW_yes (t := t) hlt e)
      clear hc hT
      generalize l[i] = x at *
      by_cases hx : x = t
      · have HA := Aside.mk (HY.out hx)
        have hxx : (t.toList == x.toList) = true := by rw [hx]; simp
        clear HT HY hx
        go_wp2
        go_ret; exact ⟨_, rfl, by rw [HA.out]; simp, (by ((repeat (first | (with_reducible assumption) | ((with_reducible refine Keep.setCell ?_ ?_ _); rotate_left; focus (first | omega | (simp; done) | (simp; omega))) | (with_reducible refine Keep.alloc ?_ _) | (with_reducible refine Keep.drewN ?_ _) | (with_reducible refine Keep.drew ?_) | (with_reducible exact Keep.refl _) | refine Keep.trans ?_ (by with_reducible assumption) | exact Keep.refl _ | assumption))))⟩
      · have HT2 := Aside.mk (HT.out.trans (decide_eq_false hx))
        have hx' : ¬ t.toList = x.toList := fun e => hx (bytes_same e).symm
        have hxx : (t.toList == x.toList) = false := by simpa using hx'
        clear HT HY hx
        go_wp2
        go_roundg (l.length - (i + 1))
        case measure => omega
        case rel => exact ⟨i + 1, by omega, by go_num, HT2.out, (by ((repeat (first | (with_reducible assumption) | ((with_reducible refine Keep.setCell ?_ ?_ _); rotate_left; focus (first | omega | (simp; done) | (simp; omega))) | (with_reducible refine Keep.alloc ?_ _) | (with_reducible refine Keep.drewN ?_ _) | (with_reducible refine Keep.drew ?_) | (with_reducible exact Keep.refl _) | refine Keep.trans ?_ (by with_reducible assumption) | exact Keep.refl _ | assumption))))⟩
    · have e2 : i = l.length := by omega
      subst e2
      have hal : hasW l t = false := by have := HL.out; rwa [List.take_length] at this
      have HA := Aside.mk hal
      clear hal
      go_wp2
      go_ret; exact ⟨_, rfl, by rw [HA.out]; rfl, (by ((repeat (first | (with_reducible assumption) | ((with_reducible refine Keep.setCell ?_ ?_ _); rotate_left; focus (first | omega | (simp; done) | (simp; omega))) | (with_reducible refine Keep.alloc ?_ _) | (with_reducible refine Keep.drewN ?_ _) | (with_reducible refine Keep.drew ?_) | (with_reducible exact Keep.refl _) | refine Keep.trans ?_ (by with_reducible assumption) | exact Keep.refl _ | assumption))))⟩
theorem contains_word (A : Option Addr) (l : List ByteArray) (c : Nat) (t : ByteArray) (w : World) (hm : l.length ≤ 9223372036854775807) (hR : Rd w A (strs l)) :
    Calls Tryd.prog 83 #[.slice A l.length c, .string t] w fun e w' => e = .returned (.bool (hasW l t)) ∧ Keep w w' := by
  have hi := index_word A l c t w hm hR
  generalize hasW l t = r at *
  go_enter Tryd.func83, Tryd.ntmps83
  (go_wp2_with fail); (go_at_call 97); refine hi.mono ?_; rintro e w1 ⟨n, rfl, rfl, hk1⟩
  go_wp2
  go_ret; exact ⟨rfl, (by ((repeat (first | (with_reducible assumption) | ((with_reducible refine Keep.setCell ?_ ?_ _); rotate_left; focus (first | omega | (simp; done) | (simp; omega))) | (with_reducible refine Keep.alloc ?_ _) | (with_reducible refine Keep.drewN ?_ _) | (with_reducible refine Keep.drew ?_) | (with_reducible exact Keep.refl _) | refine Keep.trans ?_ (by with_reducible assumption) | exact Keep.refl _ | assumption))))⟩
theorem spec_l03Has (A : Option Addr) (l : List ByteArray) (c : Nat) (t : ByteArray) (w : World) (hm : l.length ≤ 9223372036854775807) (hR : Rd w A (strs l)) :
    Calls Tryd.prog 77 #[.slice A l.length c, .string t] w fun e w' => e = .returned (.bool (hasW l t)) ∧ Keep w w' := by
  go_enter Tryd.func77, Tryd.ntmps77
  go_wp2_with fail
  go_loopg [5] l.length (fun k s5 wr => ∃ i : Nat, i + k = l.length ∧ s5 = .int .i64 i ∧ (l.take i).any (fun x => decide (x = t)) = false ∧ Keep w wr)
  case atStart => exact ⟨0, by omega, rfl, rfl, (by ((repeat (first | (with_reducible assumption) | ((with_reducible refine Keep.setCell ?_ ?_ _); rotate_left; focus (first | omega | (simp; done) | (simp; omega))) | (with_reducible refine Keep.alloc ?_ _) | (with_reducible refine Keep.drewN ?_ _) | (with_reducible refine Keep.drew ?_) | (with_reducible exact Keep.refl _) | refine Keep.trans ?_ (by with_reducible assumption) | exact Keep.refl _ | assumption))))⟩
  case round =>
    obtain ⟨i, hi, rfl, hal, hk⟩ := hrel
    have HL := Aside.mk hal
    clear hal
    by_cases hlt : i < l.length
    · obtain ⟨bb, o, rfl, hc⟩ := (hR.keep hk).at (k := i) (by rw [strs_len]; exact hlt)
      have hcell := hc i _ (strs_at l i hlt)
      have hT := hasW_take (t := t) hlt
      rw [HL.out, Bool.false_or] at hT
      have HT := Aside.mk hT
      have HY := Aside.mk (fun e => hasW_yes (t := t) hlt e)
      clear hc hT
      generalize l[i] = x at *
      by_cases hx : x = t
      · have HA := Aside.mk (HY.out hx)
        have hxx : (x.toList == t.toList) = true := by rw [hx]; simp
        clear HT HY hx
        go_wp2
        go_ret; exact ⟨rb (by rw [HA.out]), (by ((repeat (first | (with_reducible assumption) | ((with_reducible refine Keep.setCell ?_ ?_ _); rotate_left; focus (first | omega | (simp; done) | (simp; omega))) | (with_reducible refine Keep.alloc ?_ _) | (with_reducible refine Keep.drewN ?_ _) | (with_reducible refine Keep.drew ?_) | (with_reducible exact Keep.refl _) | refine Keep.trans ?_ (by with_reducible assumption) | exact Keep.refl _ | assumption))))⟩
      · have HT2 := Aside.mk (HT.out.trans (decide_eq_false hx))
        have hx' : ¬ x.toList = t.toList := fun e => hx (bytes_same e)
        have hxx : (x.toList == t.toList) = false := by simpa using hx'
        clear HT HY hx
        go_wp2
        go_roundg (l.length - (i + 1))
        case measure => omega
        case rel => exact ⟨i + 1, by omega, by go_num, HT2.out, (by ((repeat (first | (with_reducible assumption) | ((with_reducible refine Keep.setCell ?_ ?_ _); rotate_left; focus (first | omega | (simp; done) | (simp; omega))) | (with_reducible refine Keep.alloc ?_ _) | (with_reducible refine Keep.drewN ?_ _) | (with_reducible refine Keep.drew ?_) | (with_reducible exact Keep.refl _) | refine Keep.trans ?_ (by with_reducible assumption) | exact Keep.refl _ | assumption))))⟩
    · have e2 : i = l.length := by omega
      subst e2
      have hal : hasW l t = false := by have := HL.out; rwa [List.take_length] at this
      have HA := Aside.mk hal
      clear hal
      go_wp2
      go_ret; exact ⟨rb (by rw [HA.out]), (by ((repeat (first | (with_reducible assumption) | ((with_reducible refine Keep.setCell ?_ ?_ _); rotate_left; focus (first | omega | (simp; done) | (simp; omega))) | (with_reducible refine Keep.alloc ?_ _) | (with_reducible refine Keep.drewN ?_ _) | (with_reducible refine Keep.drew ?_) | (with_reducible exact Keep.refl _) | refine Keep.trans ?_ (by with_reducible assumption) | exact Keep.refl _ | assumption))))⟩
/-- A function value with what it holds behind its arguments. -/
theorem index_strC (A : Option Addr) (l : List ByteArray) (c g : Nat) (caps : Array Value) (q : ByteArray → Bool) (w : World) (hm : l.length ≤ 9223372036854775807) (hR : Rd w A (strs l))
    (eg : ∀ args w, (callFunc g args).run Tryd.prog w = .ok (.enter g args) w) (hq : ∀ s, s ∈ l → ∀ W, Keep w W → Calls Tryd.prog g (#[.string s] ++ caps) W fun e w' => e = .returned (.bool (q s)) ∧ Keep W w') :
    Calls Tryd.prog 95 #[.slice A l.length c, .func (.func g) #[] caps] w fun e w' => ∃ n : Int, e = .returned (.int .i64 n) ∧ decide (0 ≤ n) = l.any q ∧ Keep w w' := by
  go_enter Tryd.func95, Tryd.ntmps95
  go_wp2_with fail
  go_loopg [5, 8] l.length (fun k s5 s8 wr => ∃ i : Nat, i + k = l.length ∧ s8 = .int .i64 i ∧ (l.take i).any q = false ∧ Keep w wr)
  case atStart => exact ⟨0, by omega, rfl, rfl, (by ((repeat (first | (with_reducible assumption) | ((with_reducible refine Keep.setCell ?_ ?_ _); rotate_left; focus (first | omega | (simp; done) | (simp; omega))) | (with_reducible refine Keep.alloc ?_ _) | (with_reducible refine Keep.drewN ?_ _) | (with_reducible refine Keep.drew ?_) | (with_reducible exact Keep.refl _) | refine Keep.trans ?_ (by with_reducible assumption) | exact Keep.refl _ | assumption))))⟩
  case round =>
    obtain ⟨i, hi, rfl, hal, hk⟩ := hrel
    have HL := Aside.mk hal
    clear hal
    by_cases hlt : i < l.length
    · obtain ⟨bb, o, rfl, hc⟩ := (hR.keep hk).at (k := i) (by rw [strs_len]; exact hlt)
      have hcell := hc i _ (strs_at l i hlt)
      have hcall := hq l[i] (List.getElem_mem hlt) wr hk
      have hT := any_take (q := q) hlt
      rw [HL.out, Bool.false_or] at hT
      have HQ := Aside.mk (fun h => any_of (q := q) hlt h)
      have HT := Aside.mk hT
      clear hc hT hq
      generalize l[i] = s at *
      cases hb : q s
      · rw [hb] at hcall HT
        go_wp2_with (go_at_fn g; refine hcall.mono ?_; rintro e w' ⟨rfl, hk1⟩)
        go_roundg (l.length - (i + 1))
        case measure => omega
        case rel => exact ⟨i + 1, by omega, by go_num, HT.out, (by ((repeat (first | (with_reducible assumption) | ((with_reducible refine Keep.setCell ?_ ?_ _); rotate_left; focus (first | omega | (simp; done) | (simp; omega))) | (with_reducible refine Keep.alloc ?_ _) | (with_reducible refine Keep.drewN ?_ _) | (with_reducible refine Keep.drew ?_) | (with_reducible exact Keep.refl _) | refine Keep.trans ?_ (by with_reducible assumption) | exact Keep.refl _ | assumption))))⟩
      · have hA := HQ.out hb
        have HA := Aside.mk hA
        clear hA
        rw [hb] at hcall
        go_wp2_with (go_at_fn g; refine hcall.mono ?_; rintro e w' ⟨rfl, hk1⟩)
        go_ret; exact ⟨_, rfl, by rw [HA.out]; simp, (by ((repeat (first | (with_reducible assumption) | ((with_reducible refine Keep.setCell ?_ ?_ _); rotate_left; focus (first | omega | (simp; done) | (simp; omega))) | (with_reducible refine Keep.alloc ?_ _) | (with_reducible refine Keep.drewN ?_ _) | (with_reducible refine Keep.drew ?_) | (with_reducible exact Keep.refl _) | refine Keep.trans ?_ (by with_reducible assumption) | exact Keep.refl _ | assumption))))⟩
    · have e2 : i = l.length := by omega
      subst e2
      have hal : l.any q = false := by have := HL.out; rwa [List.take_length] at this
      have HA := Aside.mk hal
      clear hal
      go_wp2
      go_ret; exact ⟨_, rfl, by rw [HA.out]; rfl, (by ((repeat (first | (with_reducible assumption) | ((with_reducible refine Keep.setCell ?_ ?_ _); rotate_left; focus (first | omega | (simp; done) | (simp; omega))) | (with_reducible refine Keep.alloc ?_ _) | (with_reducible refine Keep.drewN ?_ _) | (with_reducible refine Keep.drew ?_) | (with_reducible exact Keep.refl _) | refine Keep.trans ?_ (by with_reducible assumption) | exact Keep.refl _ | assumption))))⟩
theorem contains_strC (A : Option Addr) (l : List ByteArray) (c g : Nat) (caps : Array Value) (q : ByteArray → Bool) (w : World) (hm : l.length ≤ 9223372036854775807) (hR : Rd w A (strs l))
    (eg : ∀ args w, (callFunc g args).run Tryd.prog w = .ok (.enter g args) w) (hq : ∀ s, s ∈ l → ∀ W, Keep w W → Calls Tryd.prog g (#[.string s] ++ caps) W fun e w' => e = .returned (.bool (q s)) ∧ Keep W w') :
    Calls Tryd.prog 78 #[.slice A l.length c, .func (.func g) #[] caps] w fun e w' => e = .returned (.bool (l.any q)) ∧ Keep w w' := by
  have hi := index_strC A l c g caps q w hm hR eg hq
  generalize l.any q = r at *
  go_enter Tryd.func78, Tryd.ntmps78
  (go_wp2_with fail); (go_at_call 95); refine hi.mono ?_; rintro e w1 ⟨n, rfl, rfl, hk1⟩
  go_wp2
  go_ret; exact ⟨rfl, (by ((repeat (first | (with_reducible assumption) | ((with_reducible refine Keep.setCell ?_ ?_ _); rotate_left; focus (first | omega | (simp; done) | (simp; omega))) | (with_reducible refine Keep.alloc ?_ _) | (with_reducible refine Keep.drewN ?_ _) | (with_reducible refine Keep.drew ?_) | (with_reducible exact Keep.refl _) | refine Keep.trans ?_ (by with_reducible assumption) | exact Keep.refl _ | assumption))))⟩
theorem hasAll_clo (A : Option Addr) (l : List ByteArray) (c g : Nat) (t : ByteArray) (w : World) (hm : l.length ≤ 9223372036854775807) (hR : Rd w A (strs l)) (hg : w.cell? ⟨g, 0, none⟩ = some (.slice A l.length c)) :
    Calls Tryd.prog 82 #[.string t, .pointer (some ⟨g, 0, none⟩)] w fun e w' => e = .returned (.bool (!hasW l t)) ∧ Keep w w' := by
  have h := contains_word A l c t w hm hR
  generalize hasW l t = r at *
  go_enter Tryd.func82, Tryd.ntmps82
  (go_wp2_with fail); (go_at_call 83); (refine (h).mono ?_); rintro e w1 ⟨rfl, hk1⟩
  go_wp2
  go_ret; exact ⟨rfl, (by ((repeat (first | (with_reducible assumption) | ((with_reducible refine Keep.setCell ?_ ?_ _); rotate_left; focus (first | omega | (simp; done) | (simp; omega))) | (with_reducible refine Keep.alloc ?_ _) | (with_reducible refine Keep.drewN ?_ _) | (with_reducible refine Keep.drew ?_) | (with_reducible exact Keep.refl _) | refine Keep.trans ?_ (by with_reducible assumption) | exact Keep.refl _ | assumption))))⟩
theorem any_has (l ws : List ByteArray) : ws.any (fun t => !hasW l t) = !hasAllB l ws := by unfold hasAllB; rw [List.any_eq_not_all_not]; simp
theorem impl_hasAll (A B : Option Addr) (l ws : List ByteArray) (c d : Nat) (w : World) (hm : l.length ≤ 9223372036854775807) (hm2 : ws.length ≤ 9223372036854775807) (hR : Rd w A (strs l)) (hS : Rd w B (strs ws)) :
    Calls Tryd.prog 50 #[.slice A l.length c, .slice B ws.length d] w fun e w' => e = .returned (.bool (hasAllB l ws)) ∧ Keep w w' := by
  have hI := Aside.mk (fun (W : World) (g : Nat) (hr : Rd W A (strs l)) (hs : Rd W B (strs ws)) (hg : W.cell? ⟨g, 0, none⟩ = some (.slice A l.length c)) => contains_strC B ws d 82 #[.pointer (some ⟨g, 0, none⟩)] (fun t => !hasW l t) W hm2 hs (enters_of Tryd.func82 (by kernel_rfl) rfl) (fun t _ W' hk => hasAll_clo A l c g t W' hm (hr.keep hk) (hk.cell hg)))
  rw [any_has] at hI
  generalize hasAllB l ws = r at *
  go_enter Tryd.func50, Tryd.ntmps50
  (go_wp2_with fail); (go_at_call 78); refine (hI.out _ w.heap.size (hR.keep (by ((repeat (first | (with_reducible assumption) | ((with_reducible refine Keep.setCell ?_ ?_ _); rotate_left; focus (first | omega | (simp; done) | (simp; omega))) | (with_reducible refine Keep.alloc ?_ _) | (with_reducible refine Keep.drewN ?_ _) | (with_reducible refine Keep.drew ?_) | (with_reducible exact Keep.refl _) | refine Keep.trans ?_ (by with_reducible assumption) | exact Keep.refl _ | assumption))))) (hS.keep (by ((repeat (first | (with_reducible assumption) | ((with_reducible refine Keep.setCell ?_ ?_ _); rotate_left; focus (first | omega | (simp; done) | (simp; omega))) | (with_reducible refine Keep.alloc ?_ _) | (with_reducible refine Keep.drewN ?_ _) | (with_reducible refine Keep.drew ?_) | (with_reducible exact Keep.refl _) | refine Keep.trans ?_ (by with_reducible assumption) | exact Keep.refl _ | assumption))))) (by first | exact (Bx.new w #[.slice A l.length c] 23).cell 0 | simp)).mono ?_; rintro e w1 ⟨rfl, hk1⟩
  go_wp2
  go_ret; exact ⟨rb (by cases r <;> rfl), (by ((repeat (first | (with_reducible assumption) | ((with_reducible refine Keep.setCell ?_ ?_ _); rotate_left; focus (first | omega | (simp; done) | (simp; omega))) | (with_reducible refine Keep.alloc ?_ _) | (with_reducible refine Keep.drewN ?_ _) | (with_reducible refine Keep.drew ?_) | (with_reducible exact Keep.refl _) | refine Keep.trans ?_ (by with_reducible assumption) | exact Keep.refl _ | assumption))))⟩
end Go.Proofs.YtbbnhbfofdhnbaaDoor
namespace Go.Proofs.YtbbnhbfofdhnbaaDoor
open Go.RowKit Go.Shelf
set_option maxHeartbeats 2000000
set_option maxRecDepth 20000
/-- The places of the lists that have all words, of the first so many. -/
def trAt (ll : List (List ByteArray)) (ws : List ByteArray) (i : Nat) : Bool := match ll[i]? with
  | some l => hasAllB l ws
  | none => false
def trN (ll : List (List ByteArray)) (ws : List ByteArray) : Nat → List Int
  | 0 => []
  | i + 1 => cond (trAt ll ws i) (trN ll ws i ++ [(i : Int)]) (trN ll ws i)
theorem trN_yes {ll : List (List ByteArray)} {ws : List ByteArray} {i : Nat} (h : trAt ll ws i = true) : trN ll ws (i + 1) = trN ll ws i ++ [(i : Int)] := by simp [trN, h]
theorem trN_no {ll : List (List ByteArray)} {ws : List ByteArray} {i : Nat} (h : trAt ll ws i = false) : trN ll ws (i + 1) = trN ll ws i := by simp [trN, h]
theorem trN_len (ll : List (List ByteArray)) (ws : List ByteArray) (i : Nat) : (trN ll ws i).length ≤ i := by
  induction i with
  | zero => simp [trN]
  | succ i ih => cases h : trAt ll ws i <;> simp [trN, h] <;> omega
def trL (ll : List (List ByteArray)) (ws : List ByteArray) : List Int := trN ll ws ll.length
theorem trAt_lw {xs : List Wl} {ws : List ByteArray} {i : Nat} (h : i < xs.length) : trAt (lw xs) ws i = hasAllB xs[i].l ws := by
  unfold trAt
  rw [List.getElem?_eq_getElem (by rw [lw_len]; exact h), lw_at xs i h]
theorem trN_zero (ll : List (List ByteArray)) (ws : List ByteArray) : trN ll ws 0 = [] := rfl
attribute [irreducible] trN
/-- What is asked; the answer. -/
def toE (ll : List (List ByteArray)) (ws : List ByteArray) : Int := cond (wsB ws 12) (cond (lotB ll) 0 2) 2
def toL (ll : List (List ByteArray)) (ws : List ByteArray) : List Int := cond (wsB ws 12) (cond (lotB ll) (trL ll ws) []) []
theorem toL_len (ll : List (List ByteArray)) (ws : List ByteArray) : (toL ll ws).length ≤ 60 := by
  unfold toL
  cases wsB ws 12
  · simp
  · cases h : lotB ll
    · simp
    · have h1 : ll.length ≤ 60 := by unfold lotB at h; simp at h; exact h.1
      have := trN_len ll ws ll.length
      simp only [cond_true]
      unfold trL; omega
theorem hasAll_take {l ws : List ByteArray} {k : Nat} (h : k < ws.length) : (ws.take (k + 1)).all (hasW l) = ((ws.take k).all (hasW l) && hasW l ws[k]) := by
  rw [List.take_succ_eq_append_getElem h, List.all_append]; simp
theorem spec_l03True (B A : Option Addr) (xs : List Wl) (ws : List ByteArray) (c d : Nat) (w : World) (hm : xs.length ≤ 1048576) (hm2 : ws.length ≤ 1048576) (hz : SzW (lw xs)) (hR : Rds w B xs) (hS : Rd w A (strs ws)) :
    Calls Tryd.prog 47 #[.slice B xs.length c, .slice A ws.length d] w fun e w' => ∃ v, e = .returned v ∧ w'.ownsRow w.heap.size 2 1 v (trL (lw xs) ws).length (ints (trL (lw xs) ws)) ∧ Keep w w' := by
  obtain ⟨i0, hi0, hz0, hz1, hz2⟩ := info_parts int64_info
  have hEND : Aside (trL (lw xs) ws = trN (lw xs) ws xs.length) := Aside.mk (by unfold trL; rw [lw_len])
  go_enter Tryd.func47, Tryd.ntmps47
  go_wp2_with fail
  go_loopg [5, 6] xs.length (fun k v5 s6 wr => ∃ i : Nat, i + k = xs.length ∧ s6 = .int .i64 i ∧ wr.ownsRow w.heap.size 2 1 v5 (trN (lw xs) ws i).length (ints (trN (lw xs) ws i)) ∧ Keep w wr)
  case atStart => exact ⟨0, by omega, rfl, by simpa [trN_zero, ints] using own_empty w w.heap.size 2 (by simp), (by ((repeat (first | (with_reducible assumption) | ((with_reducible refine Keep.setCell ?_ ?_ _); rotate_left; focus (first | omega | (simp; done) | (simp; omega))) | (with_reducible refine Keep.alloc ?_ _) | (with_reducible refine Keep.drewN ?_ _) | (with_reducible refine Keep.drew ?_) | (with_reducible exact Keep.refl _) | refine Keep.trans ?_ (by with_reducible assumption) | exact Keep.refl _ | assumption))))⟩
  case round =>
    obtain ⟨i, hi, rfl, hown, hk⟩ := hrel
    have HO := Aside.mk hown
    have hlen := trN_len (lw xs) ws i
    clear hown
    by_cases hlt : i < xs.length
    · obtain ⟨bb, o, rfl, hc⟩ := (hR.row.keep hk).at (k := i) (by rw [sls_len]; exact hlt)
      have hcell := hc i _ (sls_at xs i hlt)
      have hr := Aside.mk ((hR.rows _ (List.getElem_mem hlt)).keep hk)
      have hzx := (hz.at (List.getElem_mem hlt)).1
      have HAT := Aside.mk (trAt_lw (ws := ws) hlt)
      have HY := Aside.mk (fun h => trN_yes (ll := lw xs) (ws := ws) (i := i) h)
      have HN := Aside.mk (fun h => trN_no (ll := lw xs) (ws := ws) (i := i) h)
      clear hc
      generalize xs[i] = x at *
      obtain ⟨xa, xl, xc⟩ := x
      simp only at hcell hr hzx HAT
      go_wp2_with fail
      go_loopg [7, 8] ws.length (fun k2 s7 s8 wq => ∃ k : Nat, k + k2 = ws.length ∧ s8 = .int .i64 k ∧ s7 = .bool ((ws.take k).all (hasW xl)) ∧ Keep wr wq)
      case atStart => exact ⟨0, by omega, rfl, rfl, (by ((repeat (first | (with_reducible assumption) | ((with_reducible refine Keep.setCell ?_ ?_ _); rotate_left; focus (first | omega | (simp; done) | (simp; omega))) | (with_reducible refine Keep.alloc ?_ _) | (with_reducible refine Keep.drewN ?_ _) | (with_reducible refine Keep.drew ?_) | (with_reducible exact Keep.refl _) | refine Keep.trans ?_ (by with_reducible assumption) | exact Keep.refl _ | assumption))))⟩
      case round =>
        obtain ⟨k, hk2, rfl, rfl, hkq⟩ := hrel
        have kq := hk.trans hkq
        by_cases hlk : k < ws.length
        · obtain ⟨b2, o2, rfl, hc2⟩ := (hS.keep kq).at (k := k) (by rw [strs_len]; exact hlk)
          have q1 := hc2 k _ (strs_at ws k hlk)
          have p1 := hkq.cell hcell
          have hT := hasAll_take (l := xl) hlk
          have HT := Aside.mk hT
          have hrk := Aside.mk (hr.out.keep hkq)
          clear hc2 hT
          generalize ws[k] = t at *
          have hh := Aside.mk (fun W h => spec_l03Has xa xl xc t W hzx h)
          cases hb : (ws.take k).all (hasW xl)
          · have HT2 := Aside.mk (show (ws.take (k + 1)).all (hasW xl) = false by rw [HT.out, hb]; rfl)
            clear HT hh
            go_wp2_with fail
            refine wp_region_keep (by kernel_rfl) (by kernel_rfl) ?_
            repeat
              first
                | (apply QuietL.run
                   focus go_simp
                   focus
                     intro w2 hk
                     have p1' := hk.cell p1
                     have q1' := hk.cell q1
                     apply QAt.mk
                     go_simp
                     first
                       | done
                       | exact rfl
                   simp only [Act.put, List.setIfInBounds_toArray, List.set_cons_succ, List.set_cons_zero])
                | (apply QuietL.skip
                   focus (first | (go_simp; done) | (simp only [undef]; go_simp))
                   simp only [Act.put, List.setIfInBounds_toArray, List.set_cons_succ, List.set_cons_zero])
            apply QuietL.nil
            intro w2 hk
            have p1' := hk.cell p1
            have q1' := hk.cell q1
            go_wp2
            go_roundg (ws.length - (k + 1))
            case measure => omega
            case rel => exact ⟨k + 1, by omega, by go_num, by rw [HT2.out], (by ((repeat (first | (with_reducible assumption) | ((with_reducible refine Keep.setCell ?_ ?_ _); rotate_left; focus (first | omega | (simp; done) | (simp; omega))) | (with_reducible refine Keep.alloc ?_ _) | (with_reducible refine Keep.drewN ?_ _) | (with_reducible refine Keep.drew ?_) | (with_reducible exact Keep.refl _) | refine Keep.trans ?_ (by with_reducible assumption) | exact Keep.refl _ | assumption))))⟩
          · have HT2 := Aside.mk (show (ws.take (k + 1)).all (hasW xl) = hasW xl t by rw [HT.out, hb]; rfl)
            clear HT
            generalize hasW xl t = r at *
            go_wp2_with fail
            refine wp_region_keep (by kernel_rfl) (by kernel_rfl) ?_
            repeat
              first
                | (apply QuietL.run
                   focus go_simp
                   focus
                     intro w2 hk
                     have p1' := hk.cell p1
                     have q1' := hk.cell q1
                     apply QAt.mk
                     go_simp
                     first
                       | done
                       | exact rfl
                       | (go_at_call 77; exact quiet_call hk (hh.out _ (hrk.out.keep hk)))
                   simp only [Act.put, List.setIfInBounds_toArray, List.set_cons_succ, List.set_cons_zero])
                | (apply QuietL.skip
                   focus (first | (go_simp; done) | (simp only [undef]; go_simp))
                   simp only [Act.put, List.setIfInBounds_toArray, List.set_cons_succ, List.set_cons_zero])
            apply QuietL.nil
            intro w2 hk
            have p1' := hk.cell p1
            have q1' := hk.cell q1
            go_wp2
            go_roundg (ws.length - (k + 1))
            case measure => omega
            case rel => exact ⟨k + 1, by omega, by go_num, by rw [HT2.out], (by ((repeat (first | (with_reducible assumption) | ((with_reducible refine Keep.setCell ?_ ?_ _); rotate_left; focus (first | omega | (simp; done) | (simp; omega))) | (with_reducible refine Keep.alloc ?_ _) | (with_reducible refine Keep.drewN ?_ _) | (with_reducible refine Keep.drew ?_) | (with_reducible exact Keep.refl _) | refine Keep.trans ?_ (by with_reducible assumption) | exact Keep.refl _ | assumption))))⟩
        · obtain rfl : k = ws.length := by omega
          rw [List.take_length]
          have HO2 := Aside.mk (own_keep HO.out hkq)
          have HAT2 : Aside (trAt (lw xs) ws i = ws.all (hasW xl)) := Aside.mk HAT.out
          clear HO HAT hcell hkq hr
          cases hb : ws.all (hasW xl)
          · have e := HN.out (HAT2.out.trans hb)
            have E := Aside.mk e
            clear e HY HN HAT2
            go_wp2
            go_roundg (xs.length - (i + 1))
            case measure => omega
            case rel => exact ⟨i + 1, by omega, by go_num, by rw [E.out]; exact HO2.out, (by ((repeat (first | (with_reducible assumption) | ((with_reducible refine Keep.setCell ?_ ?_ _); rotate_left; focus (first | omega | (simp; done) | (simp; omega))) | (with_reducible refine Keep.alloc ?_ _) | (with_reducible refine Keep.drewN ?_ _) | (with_reducible refine Keep.drew ?_) | (with_reducible exact Keep.refl _) | refine Keep.trans ?_ (by with_reducible assumption) | exact Keep.refl _ | assumption))))⟩
          · have e := HY.out (HAT2.out.trans hb)
            have E := Aside.mk e
            clear e HY HN HAT2
            generalize trN (lw xs) ws i = L at *
            go_wp2_with (at_builtin; refine wpList_append_own _ rfl _ _ 26 rfl w.heap.size 2 i0 (.int .i64 0) 1 8 Tryd.underlying26 hi0 hz0 hz1 hz2 rfl (by decide) _ _ _ rfl (own_keep HO2.out ((Keep.refl _).alloc _)) ⟨wr.heap.size, 0, none⟩ 1 1 [.int .i64 i] rfl rfl ?c1 ?c2 ?c3 ?c4 ?c5 ?_)
            case c1 =>
              intro j u hj
              match j, hj with
              | 0, hj => simp at hj; subst hj; simp [Addr.add]
            case c2 => intro u hu; simp at hu; subst hu; rfl
            case c3 => unfold maxLen; omega
            case c4 => omega
            case c5 => have := kq.size; simp; omega
            · intro v' w2 hown2 hg _
              have k2 : Keep w w2 := (kq.alloc _).grown hg (fun k hk => (HO2.out.lt k hk).1)
              have HO3 := Aside.mk hown2
              clear hown2 hg HO2
              go_wp2
              go_roundg (xs.length - (i + 1))
              case measure => omega
              case rel => exact ⟨i + 1, by omega, by go_num, by rw [E.out]; simpa [ints] using HO3.out, k2⟩
    · have e2 : i = xs.length := by omega
      subst e2
      have HO2 := Aside.mk (show wr.ownsRow w.heap.size 2 1 _ (trL (lw xs) ws).length (ints (trL (lw xs) ws)) by rw [hEND.out]; exact HO.out)
      clear HO hEND
      go_wp2
      go_ret; exact ⟨_, rfl, HO2.out, (by ((repeat (first | (with_reducible assumption) | ((with_reducible refine Keep.setCell ?_ ?_ _); rotate_left; focus (first | omega | (simp; done) | (simp; omega))) | (with_reducible refine Keep.alloc ?_ _) | (with_reducible refine Keep.drewN ?_ _) | (with_reducible refine Keep.drew ?_) | (with_reducible exact Keep.refl _) | refine Keep.trans ?_ (by with_reducible assumption) | exact Keep.refl _ | assumption))))⟩
end Go.Proofs.YtbbnhbfofdhnbaaDoor
namespace Go.Proofs.YtbbnhbfofdhnbaaDoor
open Go.RowKit Go.Shelf
set_option maxHeartbeats 2000000
set_option maxRecDepth 20000
theorem spec_TrueOf (B A : Option Addr) (xs : List Wl) (ws : List ByteArray) (c d : Nat) (w : World) (hm : xs.length ≤ 1048576) (hm2 : ws.length ≤ 1048576) (hz : SzW (lw xs)) (hz2 : Szs ws) (hR : Rds w B xs) (hS : Rd w A (strs ws)) :
    Calls Tryd.prog 9 #[.slice B xs.length c, .slice A ws.length d] w fun e w' => ∃ v, e = .returned (.tuple #[v, .int .i64 (toE (lw xs) ws)]) ∧ w'.ownsRow w.heap.size 2 1 v (toL (lw xs) ws).length (ints (toL (lw xs) ws)) ∧ Keep w w' := by
  have hlt := Aside.mk (fun W h => spec_l03Lot B xs c W (by omega) hz h)
  have hwd := Aside.mk (fun W h => spec_l03Words A ws d 12 W (by omega) hz2 h)
  cases h2 : lotB (lw xs)
  · have e1 : toE (lw xs) ws = 2 := by unfold toE; rw [h2]; cases wsB ws 12 <;> rfl
    have e2 : toL (lw xs) ws = [] := by unfold toL; rw [h2]; cases wsB ws 12 <;> rfl
    have e3 : lotE (lw xs) = 2 := by unfold lotE; rw [h2]; rfl
    rw [e1, e2]
    rw [e3] at hlt
    clear e1 e2 e3
    go_enter Tryd.func9, Tryd.ntmps9
    (go_wp2_with fail); (go_at_call 45); (refine (hlt.out _ hR).mono ?_); rintro e w1 ⟨rfl, hk1⟩
    have HE := Aside.mk (own_base (own_empty w1 w1.heap.size 2 (Nat.le_refl _)) hk1.size)
    go_wp2
    go_ret2; exact ⟨_, rfl, by simpa [ints] using HE.out, (by ((repeat (first | (with_reducible assumption) | ((with_reducible refine Keep.setCell ?_ ?_ _); rotate_left; focus (first | omega | (simp; done) | (simp; omega))) | (with_reducible refine Keep.alloc ?_ _) | (with_reducible refine Keep.drewN ?_ _) | (with_reducible refine Keep.drew ?_) | (with_reducible exact Keep.refl _) | refine Keep.trans ?_ (by with_reducible assumption) | exact Keep.refl _ | assumption))))⟩
  · have e3 : lotE (lw xs) = 0 := by unfold lotE; rw [h2]; rfl
    rw [e3] at hlt
    cases h1 : wsB ws 12
    · have e1 : toE (lw xs) ws = 2 := by unfold toE; rw [h1]; rfl
      have e2 : toL (lw xs) ws = [] := by unfold toL; rw [h1]; rfl
      have e4 : wsE ws 12 = 2 := by unfold wsE; rw [h1]; rfl
      rw [e1, e2]
      rw [e4] at hwd
      clear e1 e2 e3 e4
      go_enter Tryd.func9, Tryd.ntmps9
      (go_wp2_with fail); (go_at_call 45); (refine (hlt.out _ hR).mono ?_); rintro e w1 ⟨rfl, hk1⟩
      (go_wp2_with fail); (go_at_call 46); (refine (hwd.out _ (hS.keep hk1)).mono ?_); rintro e w2 ⟨rfl, hk2⟩
      have k2 : Keep w w2 := (by ((repeat (first | (with_reducible assumption) | ((with_reducible refine Keep.setCell ?_ ?_ _); rotate_left; focus (first | omega | (simp; done) | (simp; omega))) | (with_reducible refine Keep.alloc ?_ _) | (with_reducible refine Keep.drewN ?_ _) | (with_reducible refine Keep.drew ?_) | (with_reducible exact Keep.refl _) | refine Keep.trans ?_ (by with_reducible assumption) | exact Keep.refl _ | assumption))))
      have HE := Aside.mk (own_base (own_empty w2 w2.heap.size 2 (Nat.le_refl _)) k2.size)
      clear hk1 hk2
      go_wp2
      go_ret2; exact ⟨_, rfl, by simpa [ints] using HE.out, (by ((repeat (first | (with_reducible assumption) | ((with_reducible refine Keep.setCell ?_ ?_ _); rotate_left; focus (first | omega | (simp; done) | (simp; omega))) | (with_reducible refine Keep.alloc ?_ _) | (with_reducible refine Keep.drewN ?_ _) | (with_reducible refine Keep.drew ?_) | (with_reducible exact Keep.refl _) | refine Keep.trans ?_ (by with_reducible assumption) | exact Keep.refl _ | assumption))))⟩
    · have e1 : toE (lw xs) ws = 0 := by unfold toE; rw [h1, h2]; rfl
      have e2 : toL (lw xs) ws = trL (lw xs) ws := by unfold toL; rw [h1, h2]; rfl
      have e4 : wsE ws 12 = 0 := by unfold wsE; rw [h1]; rfl
      rw [e1, e2]
      rw [e4] at hwd
      clear e1 e2 e3 e4
      have htr := Aside.mk (fun W h1 h2 => spec_l03True B A xs ws c d W hm hm2 hz h1 h2)
      generalize trL (lw xs) ws = L at *
      go_enter Tryd.func9, Tryd.ntmps9
      (go_wp2_with fail); (go_at_call 45); (refine (hlt.out _ hR).mono ?_); rintro e w1 ⟨rfl, hk1⟩
      (go_wp2_with fail); (go_at_call 46); (refine (hwd.out _ (hS.keep hk1)).mono ?_); rintro e w2 ⟨rfl, hk2⟩
      have k2 : Keep w w2 := (by ((repeat (first | (with_reducible assumption) | ((with_reducible refine Keep.setCell ?_ ?_ _); rotate_left; focus (first | omega | (simp; done) | (simp; omega))) | (with_reducible refine Keep.alloc ?_ _) | (with_reducible refine Keep.drewN ?_ _) | (with_reducible refine Keep.drew ?_) | (with_reducible exact Keep.refl _) | refine Keep.trans ?_ (by with_reducible assumption) | exact Keep.refl _ | assumption))))
      clear hk1 hk2 hlt hwd
      (go_wp2_with fail); (go_at_call 47); (refine (htr.out _ (hR.keep k2) (hS.keep k2)).mono ?_); rintro e w3 ⟨v, rfl, ho, hk3⟩
      have HO := Aside.mk (own_base ho k2.size)
      have k3 : Keep w w3 := (by ((repeat (first | (with_reducible assumption) | ((with_reducible refine Keep.setCell ?_ ?_ _); rotate_left; focus (first | omega | (simp; done) | (simp; omega))) | (with_reducible refine Keep.alloc ?_ _) | (with_reducible refine Keep.drewN ?_ _) | (with_reducible refine Keep.drew ?_) | (with_reducible exact Keep.refl _) | refine Keep.trans ?_ (by with_reducible assumption) | exact Keep.refl _ | assumption))))
      clear ho hk3
      go_wp2
      go_ret2; exact ⟨_, rfl, HO.out, k3⟩
theorem impl_TrueOf (B A : Option Addr) (xs : List Wl) (ws : List ByteArray) (c d : Nat) (w : World) (hm : xs.length ≤ 1048576) (hm2 : ws.length ≤ 1048576) (hz : SzW (lw xs)) (hz2 : Szs ws) (hR : Rds w B xs) (hS : Rd w A (strs ws)) :
    Calls Tryd.prog 12 #[.slice B xs.length c, .slice A ws.length d] w fun e w' => ∃ v, e = .returned (.tuple #[v, .int .i64 (toE (lw xs) ws)]) ∧ w'.ownsRow w.heap.size 2 1 v (toL (lw xs) ws).length (ints (toL (lw xs) ws)) ∧ Keep w w' := by
  obtain ⟨i0, hi0, hz0, hz1, hz2'⟩ := info_parts int64_info
  have hlt := Aside.mk (fun W h => impl_isLot B xs c W (by omega) hz h)
  have hwd := Aside.mk (fun W h => impl_areWords A ws d 12 W (by omega) hz2 h)
  cases h1 : wsB ws 12
  · have e1 : toE (lw xs) ws = 2 := by unfold toE; rw [h1]; rfl
    have e2 : toL (lw xs) ws = [] := by unfold toL; rw [h1]; rfl
    rw [e1, e2]
    rw [h1] at hwd
    clear e1 e2
    go_enter Tryd.func12, Tryd.ntmps12
    (go_wp2_with fail); (go_at_call 48); (refine (hwd.out _ hS).mono ?_); rintro e w1 ⟨rfl, hk1⟩
    go_wp2
    go_ret2; exact ⟨_, rfl, World.ownsRow_nil _ _ _ _, (by ((repeat (first | (with_reducible assumption) | ((with_reducible refine Keep.setCell ?_ ?_ _); rotate_left; focus (first | omega | (simp; done) | (simp; omega))) | (with_reducible refine Keep.alloc ?_ _) | (with_reducible refine Keep.drewN ?_ _) | (with_reducible refine Keep.drew ?_) | (with_reducible exact Keep.refl _) | refine Keep.trans ?_ (by with_reducible assumption) | exact Keep.refl _ | assumption))))⟩
  · rw [h1] at hwd
    cases h2 : lotB (lw xs)
    · have e1 : toE (lw xs) ws = 2 := by unfold toE; rw [h1, h2]; rfl
      have e2 : toL (lw xs) ws = [] := by unfold toL; rw [h1, h2]; rfl
      rw [e1, e2]
      rw [h2] at hlt
      clear e1 e2
      go_enter Tryd.func12, Tryd.ntmps12
      (go_wp2_with fail); (go_at_call 48); (refine (hwd.out _ hS).mono ?_); rintro e w1 ⟨rfl, hk1⟩
      (go_wp2_with fail); (go_at_call 49); (refine (hlt.out _ (hR.keep hk1)).mono ?_); rintro e w2 ⟨rfl, hk2⟩
      go_wp2
      go_ret2; exact ⟨_, rfl, World.ownsRow_nil _ _ _ _, (by ((repeat (first | (with_reducible assumption) | ((with_reducible refine Keep.setCell ?_ ?_ _); rotate_left; focus (first | omega | (simp; done) | (simp; omega))) | (with_reducible refine Keep.alloc ?_ _) | (with_reducible refine Keep.drewN ?_ _) | (with_reducible refine Keep.drew ?_) | (with_reducible exact Keep.refl _) | refine Keep.trans ?_ (by with_reducible assumption) | exact Keep.refl _ | assumption))))⟩
    · have e1 : toE (lw xs) ws = 0 := by unfold toE; rw [h1, h2]; rfl
      have e2 : toL (lw xs) ws = trN (lw xs) ws xs.length := by unfold toL; rw [h1, h2]; unfold trL; rw [lw_len]; rfl
      rw [e1, e2]
      rw [h2] at hlt
      clear e1 e2
      obtain ⟨L, hL⟩ : ∃ L, trN (lw xs) ws xs.length = L := ⟨_, rfl⟩
      have HEND := Aside.mk hL
      rw [hL]
      clear hL
      go_enter Tryd.func12, Tryd.ntmps12
      (go_wp2_with fail); (go_at_call 48); (refine (hwd.out _ hS).mono ?_); rintro e w1 ⟨rfl, hk1⟩
      (go_wp2_with fail); (go_at_call 49); (refine (hlt.out _ (hR.keep hk1)).mono ?_); rintro e w2 ⟨rfl, hk2⟩
      have k2 : Keep w w2 := (by ((repeat (first | (with_reducible assumption) | ((with_reducible refine Keep.setCell ?_ ?_ _); rotate_left; focus (first | omega | (simp; done) | (simp; omega))) | (with_reducible refine Keep.alloc ?_ _) | (with_reducible refine Keep.drewN ?_ _) | (with_reducible refine Keep.drew ?_) | (with_reducible exact Keep.refl _) | refine Keep.trans ?_ (by with_reducible assumption) | exact Keep.refl _ | assumption))))
      clear hk1 hk2 hlt hwd
      go_wp2_with fail
      go_loopg [6, 20] xs.length (fun k v6 s20 wr => ∃ i : Nat, i + k = xs.length ∧ s20 = .int .i64 i ∧ wr.ownsRow w2.heap.size 2 1 v6 (trN (lw xs) ws i).length (ints (trN (lw xs) ws i)) ∧ Keep w2 wr)
      case atStart => exact ⟨0, by omega, rfl, by simpa [trN_zero, ints] using own_empty w2 w2.heap.size 2 (Nat.le_refl _), (by ((repeat (first | (with_reducible assumption) | ((with_reducible refine Keep.setCell ?_ ?_ _); rotate_left; focus (first | omega | (simp; done) | (simp; omega))) | (with_reducible refine Keep.alloc ?_ _) | (with_reducible refine Keep.drewN ?_ _) | (with_reducible refine Keep.drew ?_) | (with_reducible exact Keep.refl _) | refine Keep.trans ?_ (by with_reducible assumption) | exact Keep.refl _ | assumption))))⟩
      case round =>
        obtain ⟨i, hi, rfl, hown, hk⟩ := hrel
        have HO := Aside.mk hown
        have hlen := trN_len (lw xs) ws i
        have kw := k2.trans hk
        clear hown
        by_cases hlt : i < xs.length
        · obtain ⟨bb, o, rfl, hc⟩ := (hR.row.keep kw).at (k := i) (by rw [sls_len]; exact hlt)
          have hcell := hc i _ (sls_at xs i hlt)
          have hr := (hR.rows _ (List.getElem_mem hlt)).keep kw
          have hzx := (hz.at (List.getElem_mem hlt)).1
          have HAT := Aside.mk (trAt_lw (ws := ws) hlt)
          have HY := Aside.mk (fun h => trN_yes (ll := lw xs) (ws := ws) (i := i) h)
          have HN := Aside.mk (fun h => trN_no (ll := lw xs) (ws := ws) (i := i) h)
          clear hc
          generalize xs[i] = x at *
          obtain ⟨xa, xl, xc⟩ := x
          simp only at hcell hr hzx HAT
          have hh := Aside.mk (fun W h1 h2 => impl_hasAll xa A xl ws xc d W hzx (by omega) h1 h2)
          (go_wp2_with fail); (go_at_call 50); (refine (hh.out _ hr (hS.keep kw)).mono ?_); rintro e w3 ⟨rfl, hk3⟩
          have HO3 := Aside.mk (own_keep HO.out hk3)
          have k3 : Keep w2 w3 := hk.trans hk3
          clear hh HO hr hcell hk3
          cases hb : hasAllB xl ws
          · have E := Aside.mk (HN.out (HAT.out.trans hb))
            clear HY HN HAT
            go_wp2
            go_roundg (xs.length - (i + 1))
            case measure => omega
            case rel => exact ⟨i + 1, by omega, by go_num, by rw [E.out]; exact HO3.out, (by ((repeat (first | (with_reducible assumption) | ((with_reducible refine Keep.setCell ?_ ?_ _); rotate_left; focus (first | omega | (simp; done) | (simp; omega))) | (with_reducible refine Keep.alloc ?_ _) | (with_reducible refine Keep.drewN ?_ _) | (with_reducible refine Keep.drew ?_) | (with_reducible exact Keep.refl _) | refine Keep.trans ?_ (by with_reducible assumption) | exact Keep.refl _ | assumption))))⟩
          · have E := Aside.mk (HY.out (HAT.out.trans hb))
            clear HY HN HAT
            generalize trN (lw xs) ws i = M at *
            go_wp2_with (at_builtin; refine wpList_append_own _ rfl _ _ 26 rfl w2.heap.size 2 i0 (.int .i64 0) 1 8 Tryd.underlying26 hi0 hz0 hz1 hz2' rfl (by decide) _ _ _ rfl (own_keep HO3.out ((Keep.refl _).alloc _)) ⟨w3.heap.size, 0, none⟩ 1 1 [.int .i64 i] rfl rfl ?c1 ?c2 ?c3 ?c4 ?c5 ?_)
            case c1 =>
              intro j u hj
              match j, hj with
              | 0, hj => simp at hj; subst hj; simp [Addr.add]
            case c2 => intro u hu; simp at hu; subst hu; rfl
            case c3 => unfold maxLen; omega
            case c4 => omega
            case c5 => have := k3.size; simp; omega
            · intro v' w4 hown4 hg _
              have k4 : Keep w2 w4 := (k3.alloc _).grown hg (fun k hk => (HO3.out.lt k hk).1)
              have HO4 := Aside.mk hown4
              clear hown4 hg HO3
              go_wp2
              go_roundg (xs.length - (i + 1))
              case measure => omega
              case rel => exact ⟨i + 1, by omega, by go_num, by rw [E.out]; simpa [ints] using HO4.out, k4⟩
        · have e2 : i = xs.length := by omega
          subst e2
          have HO2 := Aside.mk (own_base (show wr.ownsRow w2.heap.size 2 1 _ L.length (ints L) by rw [← HEND.out]; exact HO.out) k2.size)
          clear HO HEND
          go_wp2
          go_ret2; exact ⟨_, rfl, HO2.out, (by ((repeat (first | (with_reducible assumption) | ((with_reducible refine Keep.setCell ?_ ?_ _); rotate_left; focus (first | omega | (simp; done) | (simp; omega))) | (with_reducible refine Keep.alloc ?_ _) | (with_reducible refine Keep.drewN ?_ _) | (with_reducible refine Keep.drew ?_) | (with_reducible exact Keep.refl _) | refine Keep.trans ?_ (by with_reducible assumption) | exact Keep.refl _ | assumption))))⟩
end Go.Proofs.YtbbnhbfofdhnbaaDoor

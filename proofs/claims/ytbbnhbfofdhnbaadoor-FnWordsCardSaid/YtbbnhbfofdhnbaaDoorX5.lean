/- Lists of words: the walks. -/
import Derived.Shelf.Abstract
import Derived.Test.YtbbnhbfofdhnbaaDoorX4
import Derived.Test.YtbbnhbfofdhnbaaDoorRd
import Derived.Test.YtbbnhbfofdhnbaaDoorS2
import Derived.Test.YtbbnhbfofdhnbaaDoorM4
set_option linter.unusedVariables false
set_option linter.unusedSimpArgs false
namespace Go.Proofs.YtbbnhbfofdhnbaaDoor
open Go.RowKit Go.Shelf
set_option maxHeartbeats 2000000
set_option maxRecDepth 20000
def strs (l : List ByteArray) : List Value := l.map Value.string
theorem strs_at (l : List ByteArray) (k : Nat) (h : k < l.length) : (strs l)[k]? = some (.string l[k]) := by simp [strs, h]
theorem strs_len (l : List ByteArray) : (strs l).length = l.length := by simp [strs]
theorem any_take {α : Type} {l : List α} {q : α → Bool} {i : Nat} (h : i < l.length) : (l.take (i + 1)).any q = ((l.take i).any q || q l[i]) := by
  rw [List.take_succ_eq_append_getElem h, List.any_append]; simp
theorem any_of {α : Type} {l : List α} {q : α → Bool} {i : Nat} (h : i < l.length) (hb : q l[i] = true) : l.any q = true := by
  rw [List.any_eq_true]; exact ⟨l[i], List.getElem_mem h, hb⟩
/-- All these are short enough for the machine. -/
def Szs (l : List ByteArray) : Prop := ∀ s ∈ l, s.size ≤ 9223372036854775807
theorem index_str (A : Option Addr) (l : List ByteArray) (c g : Nat) (q : ByteArray → Bool) (w : World) (hm : l.length ≤ 9223372036854775807) (hR : Rd w A (strs l))
    (eg : ∀ args w, (callFunc g args).run Tryd.prog w = .ok (.enter g args) w) (hq : ∀ s, s ∈ l → ∀ W, Calls Tryd.prog g #[.string s] W fun e w' => e = .returned (.bool (q s)) ∧ Keep W w') :
    Calls Tryd.prog 95 #[.slice A l.length c, .func (.func g) #[] #[]] w fun e w' => ∃ n : Int, e = .returned (.int .i64 n) ∧ decide (0 ≤ n) = l.any q ∧ Keep w w' := by
  go_enter Tryd.func95, Tryd.ntmps95
  go_wp2_with fail
  go_loopg [5, 8] l.length (fun k s5 s8 wr => ∃ i : Nat, i + k = l.length ∧ s8 = .int .i64 i ∧ (l.take i).any q = false ∧ Keep w wr)
  case atStart => exact ⟨0, by omega, rfl, rfl, (by ((repeat (first | (with_reducible assumption) | ((with_reducible refine Keep.setCell ?_ ?_ _); rotate_left; focus (first | omega | (simp; done) | (simp; omega))) | (with_reducible refine Keep.alloc ?_ _) | (with_reducible refine Keep.drewN ?_ _) | (with_reducible refine Keep.drew ?_) | (with_reducible exact Keep.refl _) | refine Keep.trans ?_ (by with_reducible assumption) | exact Keep.refl _ | assumption))))⟩
  case round =>
    obtain ⟨i, hi, rfl, hal, hk⟩ := hrel
    have HL := Aside.mk hal
    clear hal
    by_cases hlt : i < l.length
    · obtain ⟨bb, o, rfl, hc⟩ := (hR.keep hk).at (k := i) (by rw [strs_len]; exact hlt)
      have hcell := hc i _ (strs_at l i hlt)
      have hcall := hq l[i] (List.getElem_mem hlt) wr
      have hT := any_take (q := q) hlt
      rw [HL.out, Bool.false_or] at hT
      have HQ := Aside.mk (fun h => any_of (q := q) hlt h)
      have HT := Aside.mk hT
      clear hc hT hq
      generalize l[i] = s at *
      cases hb : q s
      · rw [hb] at hcall HT
        go_wp2_with (go_at_fn g; refine hcall.mono ?_; rintro e w' ⟨rfl, hk1⟩)
        go_roundg (l.length - (i + 1))
        case measure => omega
        case rel => exact ⟨i + 1, by omega, by go_num, HT.out, (by ((repeat (first | (with_reducible assumption) | ((with_reducible refine Keep.setCell ?_ ?_ _); rotate_left; focus (first | omega | (simp; done) | (simp; omega))) | (with_reducible refine Keep.alloc ?_ _) | (with_reducible refine Keep.drewN ?_ _) | (with_reducible refine Keep.drew ?_) | (with_reducible exact Keep.refl _) | refine Keep.trans ?_ (by with_reducible assumption) | exact Keep.refl _ | assumption))))⟩
      · have hA := HQ.out hb
        have HA := Aside.mk hA
        clear hA
        rw [hb] at hcall
        go_wp2_with (go_at_fn g; refine hcall.mono ?_; rintro e w' ⟨rfl, hk1⟩)
        go_ret; exact ⟨_, rfl, by rw [HA.out]; simp, (by ((repeat (first | (with_reducible assumption) | ((with_reducible refine Keep.setCell ?_ ?_ _); rotate_left; focus (first | omega | (simp; done) | (simp; omega))) | (with_reducible refine Keep.alloc ?_ _) | (with_reducible refine Keep.drewN ?_ _) | (with_reducible refine Keep.drew ?_) | (with_reducible exact Keep.refl _) | refine Keep.trans ?_ (by with_reducible assumption) | exact Keep.refl _ | assumption))))⟩
    · have e2 : i = l.length := by omega
      subst e2
      have hal : l.any q = false := by have := HL.out; rwa [List.take_length] at this
      have HA := Aside.mk hal
      clear hal
      go_wp2
      go_ret; exact ⟨_, rfl, by rw [HA.out]; rfl, (by ((repeat (first | (with_reducible assumption) | ((with_reducible refine Keep.setCell ?_ ?_ _); rotate_left; focus (first | omega | (simp; done) | (simp; omega))) | (with_reducible refine Keep.alloc ?_ _) | (with_reducible refine Keep.drewN ?_ _) | (with_reducible refine Keep.drew ?_) | (with_reducible exact Keep.refl _) | refine Keep.trans ?_ (by with_reducible assumption) | exact Keep.refl _ | assumption))))⟩
theorem contains_str (A : Option Addr) (l : List ByteArray) (c g : Nat) (q : ByteArray → Bool) (w : World) (hm : l.length ≤ 9223372036854775807) (hR : Rd w A (strs l))
    (eg : ∀ args w, (callFunc g args).run Tryd.prog w = .ok (.enter g args) w) (hq : ∀ s, s ∈ l → ∀ W, Calls Tryd.prog g #[.string s] W fun e w' => e = .returned (.bool (q s)) ∧ Keep W w') :
    Calls Tryd.prog 78 #[.slice A l.length c, .func (.func g) #[] #[]] w fun e w' => e = .returned (.bool (l.any q)) ∧ Keep w w' := by
  have hi := index_str A l c g q w hm hR eg hq
  generalize l.any q = r at *
  go_enter Tryd.func78, Tryd.ntmps78
  (go_wp2_with fail); (go_at_call 95); refine hi.mono ?_; rintro e w1 ⟨n, rfl, rfl, hk1⟩
  go_wp2
  go_ret; exact ⟨rfl, (by ((repeat (first | (with_reducible assumption) | ((with_reducible refine Keep.setCell ?_ ?_ _); rotate_left; focus (first | omega | (simp; done) | (simp; omega))) | (with_reducible refine Keep.alloc ?_ _) | (with_reducible refine Keep.drewN ?_ _) | (with_reducible refine Keep.drew ?_) | (with_reducible exact Keep.refl _) | refine Keep.trans ?_ (by with_reducible assumption) | exact Keep.refl _ | assumption))))⟩
theorem areWords_clo (s : ByteArray) (w : World) (hs : s.size ≤ 9223372036854775807) :
    Calls Tryd.prog 79 #[.string s] w fun e w' => e = .returned (.bool (!nameB s)) ∧ Keep w w' := by
  go_enter Tryd.func79, Tryd.ntmps79
  (go_wp2_with fail); (go_at_call 68); (refine (impl_isName _ _ hs).mono ?_); rintro e w1 ⟨rfl, hk1⟩
  go_wp2
  go_ret; exact ⟨rfl, (by ((repeat (first | (with_reducible assumption) | ((with_reducible refine Keep.setCell ?_ ?_ _); rotate_left; focus (first | omega | (simp; done) | (simp; omega))) | (with_reducible refine Keep.alloc ?_ _) | (with_reducible refine Keep.drewN ?_ _) | (with_reducible refine Keep.drew ?_) | (with_reducible exact Keep.refl _) | refine Keep.trans ?_ (by with_reducible assumption) | exact Keep.refl _ | assumption))))⟩
/-- Words that may be asked with. -/
def wsB (l : List ByteArray) (n : Int) : Bool := decide ((l.length : Int) ≤ n) && l.all nameB
theorem any_not (l : List ByteArray) : l.any (fun s => !nameB s) = !l.all nameB := by simp [List.any_eq_not_all_not]
theorem impl_areWords (A : Option Addr) (l : List ByteArray) (c : Nat) (n : Int) (w : World) (hm : l.length ≤ 9223372036854775807) (hz : Szs l) (hR : Rd w A (strs l)) :
    Calls Tryd.prog 48 #[.slice A l.length c, .int .i64 n] w fun e w' => e = .returned (.bool (wsB l n)) ∧ Keep w w' := by
  have hI := contains_str A l c 79 (fun s => !nameB s) w hm hR (enters_of Tryd.func79 (by kernel_rfl) rfl) (fun s hs W => areWords_clo s W (hz s hs))
  rw [any_not] at hI
  by_cases hn : (l.length : Int) ≤ n
  · have e : wsB l n = l.all nameB := by simp [wsB, hn]
    rw [e]
    generalize l.all nameB = r at *
    go_enter Tryd.func48, Tryd.ntmps48
    (go_wp2_with fail); (go_at_call 78); refine hI.mono ?_; rintro e w1 ⟨rfl, hk1⟩
    go_wp2
    go_ret; exact ⟨rb (by cases r <;> rfl), (by ((repeat (first | (with_reducible assumption) | ((with_reducible refine Keep.setCell ?_ ?_ _); rotate_left; focus (first | omega | (simp; done) | (simp; omega))) | (with_reducible refine Keep.alloc ?_ _) | (with_reducible refine Keep.drewN ?_ _) | (with_reducible refine Keep.drew ?_) | (with_reducible exact Keep.refl _) | refine Keep.trans ?_ (by with_reducible assumption) | exact Keep.refl _ | assumption))))⟩
  · have e : wsB l n = false := by simp [wsB, hn]
    rw [e]
    go_enter Tryd.func48, Tryd.ntmps48
    go_wp2
    go_ret; exact ⟨rfl, (by ((repeat (first | (with_reducible assumption) | ((with_reducible refine Keep.setCell ?_ ?_ _); rotate_left; focus (first | omega | (simp; done) | (simp; omega))) | (with_reducible refine Keep.alloc ?_ _) | (with_reducible refine Keep.drewN ?_ _) | (with_reducible refine Keep.drew ?_) | (with_reducible exact Keep.refl _) | refine Keep.trans ?_ (by with_reducible assumption) | exact Keep.refl _ | assumption))))⟩
def wsE (l : List ByteArray) (n : Int) : Int := cond (wsB l n) 0 2
theorem spec_l03Words (A : Option Addr) (l : List ByteArray) (c : Nat) (n : Int) (w : World) (hm : l.length ≤ 9223372036854775807) (hz : Szs l) (hR : Rd w A (strs l)) :
    Calls Tryd.prog 46 #[.slice A l.length c, .int .i64 n] w fun e w' => e = .returned (.int .i64 (wsE l n)) ∧ Keep w w' := by
  by_cases hn : (l.length : Int) ≤ n
  · have e : wsB l n = l.all nameB := by simp [wsB, hn]
    unfold wsE
    rw [e]
    go_enter Tryd.func46, Tryd.ntmps46
    go_wp2_with fail
    go_loopg [5] l.length (fun k s5 wr => ∃ i : Nat, i + k = l.length ∧ s5 = .int .i64 i ∧ (l.take i).any (fun s => !nameB s) = false ∧ Keep w wr)
    case atStart => exact ⟨0, by omega, rfl, rfl, (by ((repeat (first | (with_reducible assumption) | ((with_reducible refine Keep.setCell ?_ ?_ _); rotate_left; focus (first | omega | (simp; done) | (simp; omega))) | (with_reducible refine Keep.alloc ?_ _) | (with_reducible refine Keep.drewN ?_ _) | (with_reducible refine Keep.drew ?_) | (with_reducible exact Keep.refl _) | refine Keep.trans ?_ (by with_reducible assumption) | exact Keep.refl _ | assumption))))⟩
    case round =>
      obtain ⟨i, hi, rfl, hal, hk⟩ := hrel
      have HL := Aside.mk hal
      clear hal
      by_cases hlt : i < l.length
      · obtain ⟨bb, o, rfl, hc⟩ := (hR.keep hk).at (k := i) (by rw [strs_len]; exact hlt)
        have hcell := hc i _ (strs_at l i hlt)
        have hzs := hz l[i] (List.getElem_mem hlt)
        have hT := any_take (q := fun s => !nameB s) hlt
        rw [HL.out, Bool.false_or] at hT
        have HQ := Aside.mk (fun h => any_of (q := fun s => !nameB s) hlt h)
        have HT := Aside.mk hT
        clear hc hT
        generalize l[i] = s at *
        (go_wp2_with fail); (go_at_call 70); (refine (spec_l03Word _ _ hzs).mono ?_); rintro e w1 ⟨rfl, hk1⟩
        cases hb : nameB s
        · have hA := HQ.out (by rw [hb]; rfl)
          rw [any_not] at hA
          have hA2 : l.all nameB = false := by cases h : l.all nameB <;> simp_all
          have HA := Aside.mk hA2
          clear hA hA2
          go_wp2
          go_ret; exact ⟨by rw [HA.out]; rfl, (by ((repeat (first | (with_reducible assumption) | ((with_reducible refine Keep.setCell ?_ ?_ _); rotate_left; focus (first | omega | (simp; done) | (simp; omega))) | (with_reducible refine Keep.alloc ?_ _) | (with_reducible refine Keep.drewN ?_ _) | (with_reducible refine Keep.drew ?_) | (with_reducible exact Keep.refl _) | refine Keep.trans ?_ (by with_reducible assumption) | exact Keep.refl _ | assumption))))⟩
        · rw [hb] at HT
          go_wp2
          go_roundg (l.length - (i + 1))
          case measure => omega
          case rel => exact ⟨i + 1, by omega, by go_num, HT.out, (by ((repeat (first | (with_reducible assumption) | ((with_reducible refine Keep.setCell ?_ ?_ _); rotate_left; focus (first | omega | (simp; done) | (simp; omega))) | (with_reducible refine Keep.alloc ?_ _) | (with_reducible refine Keep.drewN ?_ _) | (with_reducible refine Keep.drew ?_) | (with_reducible exact Keep.refl _) | refine Keep.trans ?_ (by with_reducible assumption) | exact Keep.refl _ | assumption))))⟩
      · have e2 : i = l.length := by omega
        subst e2
        have hal := HL.out
        rw [List.take_length, any_not] at hal
        have hA2 : l.all nameB = true := by cases h : l.all nameB <;> simp_all
        have HA := Aside.mk hA2
        clear hal hA2
        go_wp2
        go_ret; exact ⟨by rw [HA.out]; rfl, (by ((repeat (first | (with_reducible assumption) | ((with_reducible refine Keep.setCell ?_ ?_ _); rotate_left; focus (first | omega | (simp; done) | (simp; omega))) | (with_reducible refine Keep.alloc ?_ _) | (with_reducible refine Keep.drewN ?_ _) | (with_reducible refine Keep.drew ?_) | (with_reducible exact Keep.refl _) | refine Keep.trans ?_ (by with_reducible assumption) | exact Keep.refl _ | assumption))))⟩
  · have e : wsB l n = false := by simp [wsB, hn]
    unfold wsE
    rw [e]
    go_enter Tryd.func46, Tryd.ntmps46
    go_wp2
    go_ret; exact ⟨rfl, (by ((repeat (first | (with_reducible assumption) | ((with_reducible refine Keep.setCell ?_ ?_ _); rotate_left; focus (first | omega | (simp; done) | (simp; omega))) | (with_reducible refine Keep.alloc ?_ _) | (with_reducible refine Keep.drewN ?_ _) | (with_reducible refine Keep.drew ?_) | (with_reducible exact Keep.refl _) | refine Keep.trans ?_ (by with_reducible assumption) | exact Keep.refl _ | assumption))))⟩
def ckE (s z p : Int) (l : List ByteArray) (n : Int) : Int := cond (mixB s z p) (wsE l n) 1
theorem impl_checkWords (s z p : Int) (A : Option Addr) (l : List ByteArray) (c : Nat) (w : World) (hw : I16 s ∧ I16 z ∧ I16 p) (hm : l.length ≤ 9223372036854775807) (hz : Szs l) (hR : Rd w A (strs l)) :
    Calls Tryd.prog 67 #[.agg #[.int .i16 s, .int .i16 z, .int .i16 p], .slice A l.length c] w fun e w' => e = .returned (.int .i64 (ckE s z p l 12)) ∧ Keep w w' := by
  cases h1 : mixB s z p <;> simp only [ckE, h1, cond_true, cond_false]
  · go_enter Tryd.func67, Tryd.ntmps67
    (go_wp2_with fail); (go_at_call 54); (refine (impl_isMix _ _ _ _ hw.2.1 hw.2.2 hw.1).mono ?_); rintro e w1 ⟨rfl, hk1⟩
    rw [h1]
    go_wp2
    go_ret; exact ⟨rfl, (by ((repeat (first | (with_reducible assumption) | ((with_reducible refine Keep.setCell ?_ ?_ _); rotate_left; focus (first | omega | (simp; done) | (simp; omega))) | (with_reducible refine Keep.alloc ?_ _) | (with_reducible refine Keep.drewN ?_ _) | (with_reducible refine Keep.drew ?_) | (with_reducible exact Keep.refl _) | refine Keep.trans ?_ (by with_reducible assumption) | exact Keep.refl _ | assumption))))⟩
  · have hI := fun W h => impl_areWords A l c 12 W hm hz h
    unfold wsE
    generalize wsB l 12 = r at *
    go_enter Tryd.func67, Tryd.ntmps67
    (go_wp2_with fail); (go_at_call 54); (refine (impl_isMix _ _ _ _ hw.2.1 hw.2.2 hw.1).mono ?_); rintro e w1 ⟨rfl, hk1⟩
    rw [h1]
    have k1 : Keep w w1 := (by ((repeat (first | (with_reducible assumption) | ((with_reducible refine Keep.setCell ?_ ?_ _); rotate_left; focus (first | omega | (simp; done) | (simp; omega))) | (with_reducible refine Keep.alloc ?_ _) | (with_reducible refine Keep.drewN ?_ _) | (with_reducible refine Keep.drew ?_) | (with_reducible exact Keep.refl _) | refine Keep.trans ?_ (by with_reducible assumption) | exact Keep.refl _ | assumption))))
    clear hk1
    (go_wp2_with fail); (go_at_call 48); (refine (hI _ (hR.keep k1)).mono ?_); rintro e w2 ⟨rfl, hk2⟩
    cases r
    · go_wp2
      go_ret; exact ⟨rfl, (by ((repeat (first | (with_reducible assumption) | ((with_reducible refine Keep.setCell ?_ ?_ _); rotate_left; focus (first | omega | (simp; done) | (simp; omega))) | (with_reducible refine Keep.alloc ?_ _) | (with_reducible refine Keep.drewN ?_ _) | (with_reducible refine Keep.drew ?_) | (with_reducible exact Keep.refl _) | refine Keep.trans ?_ (by with_reducible assumption) | exact Keep.refl _ | assumption))))⟩
    · go_wp2
      go_ret; exact ⟨rfl, (by ((repeat (first | (with_reducible assumption) | ((with_reducible refine Keep.setCell ?_ ?_ _); rotate_left; focus (first | omega | (simp; done) | (simp; omega))) | (with_reducible refine Keep.alloc ?_ _) | (with_reducible refine Keep.drewN ?_ _) | (with_reducible refine Keep.drew ?_) | (with_reducible exact Keep.refl _) | refine Keep.trans ?_ (by with_reducible assumption) | exact Keep.refl _ | assumption))))⟩
theorem spec_l03Asked0 (s z p : Int) (g o : Nat) (M : Option Addr) (mc : Nat) (A : Option Addr) (l : List ByteArray) (c : Nat) (n : Int) (w : World) (hw : I16 s ∧ I16 z ∧ I16 p) (hm : l.length ≤ 9223372036854775807) (hz : Szs l) (hR : Rd w A (strs l))
    (c0 : w.cell? ⟨g, o, none⟩ = some (.int .i16 s)) (c1 : w.cell? ⟨g, o + 1, none⟩ = some (.int .i16 z)) (c2 : w.cell? ⟨g, o + 2, none⟩ = some (.int .i16 p)) :
    Calls Tryd.prog 52 #[.pointer (some ⟨g, o, none⟩), .slice M 0 mc, .slice A l.length c, .int .i64 n] w fun e w' => e = .returned (.int .i64 (ckE s z p l n)) ∧ Keep w w' := by
  cases h1 : mixB s z p <;> simp only [ckE, h1, cond_true, cond_false]
  · go_enter Tryd.func52, Tryd.ntmps52
    (go_wp2_with fail); (go_at_call 84); (refine (spec_l03Ok s z p _ _ _ hw.2.1 hw.2.2 hw.1 c0 c1 c2).mono ?_); rintro e w1 ⟨rfl, hk1⟩
    rw [h1]
    go_wp2
    go_ret; exact ⟨rfl, (by ((repeat (first | (with_reducible assumption) | ((with_reducible refine Keep.setCell ?_ ?_ _); rotate_left; focus (first | omega | (simp; done) | (simp; omega))) | (with_reducible refine Keep.alloc ?_ _) | (with_reducible refine Keep.drewN ?_ _) | (with_reducible refine Keep.drew ?_) | (with_reducible exact Keep.refl _) | refine Keep.trans ?_ (by with_reducible assumption) | exact Keep.refl _ | assumption))))⟩
  · go_enter Tryd.func52, Tryd.ntmps52
    (go_wp2_with fail); (go_at_call 84); (refine (spec_l03Ok s z p _ _ _ hw.2.1 hw.2.2 hw.1 c0 c1 c2).mono ?_); rintro e w1 ⟨rfl, hk1⟩
    rw [h1]
    have k1 : Keep w w1 := (by ((repeat (first | (with_reducible assumption) | ((with_reducible refine Keep.setCell ?_ ?_ _); rotate_left; focus (first | omega | (simp; done) | (simp; omega))) | (with_reducible refine Keep.alloc ?_ _) | (with_reducible refine Keep.drewN ?_ _) | (with_reducible refine Keep.drew ?_) | (with_reducible exact Keep.refl _) | refine Keep.trans ?_ (by with_reducible assumption) | exact Keep.refl _ | assumption))))
    clear hk1
    go_wp2_with fail
    refine wp_loop_rounds 1 ?_
    rw [rounds_succ]
    go_wp2_with fail
    (go_wp2_with fail); (go_at_call 46); (refine (spec_l03Words _ _ _ _ _ hm hz (hR.keep k1)).mono ?_); rintro e w2 ⟨rfl, hk2⟩
    go_wp2
    go_ret; exact ⟨rfl, (by ((repeat (first | (with_reducible assumption) | ((with_reducible refine Keep.setCell ?_ ?_ _); rotate_left; focus (first | omega | (simp; done) | (simp; omega))) | (with_reducible refine Keep.alloc ?_ _) | (with_reducible refine Keep.drewN ?_ _) | (with_reducible refine Keep.drew ?_) | (with_reducible exact Keep.refl _) | refine Keep.trans ?_ (by with_reducible assumption) | exact Keep.refl _ | assumption))))⟩
end Go.Proofs.YtbbnhbfofdhnbaaDoor

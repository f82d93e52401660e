/- Lists of lists of words: rows, and the walks of the checks. -/
import Derived.Test.YtbbnhbfofdhnbaaDoorX5
import Derived.Test.YtbbnhbfofdhnbaaDoorT2
import Derived.Test.YtbbnhbfofdhnbaaDoorOW
set_option linter.unusedVariables false
set_option linter.unusedSimpArgs false
namespace Go.Proofs.YtbbnhbfofdhnbaaDoor
open Go.RowKit Go.Shelf
set_option maxHeartbeats 2000000
set_option maxRecDepth 20000
/-- A list of words in memory. -/
structure Wl where
  A : Option Addr
  l : List ByteArray
  c : Nat
def sls (xs : List Wl) : List Value := xs.map fun x => .slice x.A x.l.length x.c
theorem sls_at (xs : List Wl) (k : Nat) (h : k < xs.length) : (sls xs)[k]? = some (.slice xs[k].A xs[k].l.length xs[k].c) := by simp [sls, h]
theorem sls_len (xs : List Wl) : (sls xs).length = xs.length := by simp [sls]
/-- The words alone. -/
def lw (xs : List Wl) : List (List ByteArray) := xs.map (·.l)
theorem lw_len (xs : List Wl) : (lw xs).length = xs.length := by simp [lw]
theorem lw_at (xs : List Wl) (k : Nat) (h : k < xs.length) : (lw xs)[k]'(by rw [lw_len]; exact h) = xs[k].l := by simp [lw]
structure Rds (w : World) (B : Option Addr) (xs : List Wl) : Prop where
  row : Rd w B (sls xs)
  rows : ∀ x ∈ xs, Rd w x.A (strs x.l)
theorem Rds.keep {w w' : World} {B : Option Addr} {xs : List Wl} (h : Rds w B xs) (k : Keep w w') : Rds w' B xs := ⟨h.row.keep k, fun x hx => (h.rows x hx).keep k⟩
/-- All these are short enough for the machine. -/
def SzW (ll : List (List ByteArray)) : Prop := ∀ l ∈ ll, l.length ≤ 9223372036854775807 ∧ Szs l
theorem SzW.at {xs : List Wl} (h : SzW (lw xs)) {x : Wl} (hx : x ∈ xs) : x.l.length ≤ 9223372036854775807 ∧ Szs x.l := h x.l (List.mem_map.2 ⟨x, hx, rfl⟩)
theorem index_lot (B : Option Addr) (xs : List Wl) (c g : Nat) (q : Wl → Bool) (w : World) (hm : xs.length ≤ 9223372036854775807) (hR : Rds w B xs)
    (eg : ∀ args w, (callFunc g args).run Tryd.prog w = .ok (.enter g args) w) (hq : ∀ x, x ∈ xs → ∀ W, Keep w W → Calls Tryd.prog g #[.slice x.A x.l.length x.c] W fun e w' => e = .returned (.bool (q x)) ∧ Keep W w') :
    Calls Tryd.prog 96 #[.slice B xs.length c, .func (.func g) #[] #[]] w fun e w' => ∃ n : Int, e = .returned (.int .i64 n) ∧ decide (0 ≤ n) = xs.any q ∧ Keep w w' := by
  go_enter Tryd.func96, Tryd.ntmps96
  go_wp2_with fail
  go_loopg [5, 8] xs.length (fun k s5 s8 wr => ∃ i : Nat, i + k = xs.length ∧ s8 = .int .i64 i ∧ (xs.take i).any q = false ∧ Keep w wr)
  case atStart => exact ⟨0, by omega, rfl, rfl, (by ((repeat (first | (with_reducible assumption) | ((with_reducible refine Keep.setCell ?_ ?_ _); rotate_left; focus (first | omega | (simp; done) | (simp; omega))) | (with_reducible refine Keep.alloc ?_ _) | (with_reducible refine Keep.drewN ?_ _) | (with_reducible refine Keep.drew ?_) | (with_reducible exact Keep.refl _) | refine Keep.trans ?_ (by with_reducible assumption) | exact Keep.refl _ | assumption))))⟩
  case round =>
    obtain ⟨i, hi, rfl, hal, hk⟩ := hrel
    have HL := Aside.mk hal
    clear hal
    by_cases hlt : i < xs.length
    · obtain ⟨bb, o, rfl, hc⟩ := (hR.row.keep hk).at (k := i) (by rw [sls_len]; exact hlt)
      have hcell := hc i _ (sls_at xs i hlt)
      have hcall := hq xs[i] (List.getElem_mem hlt) wr hk
      have hT := any_take (q := q) hlt
      rw [HL.out, Bool.false_or] at hT
      have HQ := Aside.mk (fun h => any_of (q := q) hlt h)
      have HT := Aside.mk hT
      clear hc hT hq
      generalize xs[i] = x at *
      obtain ⟨xa, xl, xc⟩ := x
      simp only at hcell hcall
      cases hb : q ⟨xa, xl, xc⟩
      · rw [hb] at hcall HT
        go_wp2_with (go_at_fn g; refine hcall.mono ?_; rintro e w' ⟨rfl, hk1⟩)
        go_roundg (xs.length - (i + 1))
        case measure => omega
        case rel => exact ⟨i + 1, by omega, by go_num, HT.out, (by ((repeat (first | (with_reducible assumption) | ((with_reducible refine Keep.setCell ?_ ?_ _); rotate_left; focus (first | omega | (simp; done) | (simp; omega))) | (with_reducible refine Keep.alloc ?_ _) | (with_reducible refine Keep.drewN ?_ _) | (with_reducible refine Keep.drew ?_) | (with_reducible exact Keep.refl _) | refine Keep.trans ?_ (by with_reducible assumption) | exact Keep.refl _ | assumption))))⟩
      · have hA := HQ.out hb
        have HA := Aside.mk hA
        clear hA
        rw [hb] at hcall
        go_wp2_with (go_at_fn g; refine hcall.mono ?_; rintro e w' ⟨rfl, hk1⟩)
        go_ret; exact ⟨_, rfl, by rw [HA.out]; simp, (by ((repeat (first | (with_reducible assumption) | ((with_reducible refine Keep.setCell ?_ ?_ _); rotate_left; focus (first | omega | (simp; done) | (simp; omega))) | (with_reducible refine Keep.alloc ?_ _) | (with_reducible refine Keep.drewN ?_ _) | (with_reducible refine Keep.drew ?_) | (with_reducible exact Keep.refl _) | refine Keep.trans ?_ (by with_reducible assumption) | exact Keep.refl _ | assumption))))⟩
    · have e2 : i = xs.length := by omega
      subst e2
      have hal : xs.any q = false := by have := HL.out; rwa [List.take_length] at this
      have HA := Aside.mk hal
      clear hal
      go_wp2
      go_ret; exact ⟨_, rfl, by rw [HA.out]; rfl, (by ((repeat (first | (with_reducible assumption) | ((with_reducible refine Keep.setCell ?_ ?_ _); rotate_left; focus (first | omega | (simp; done) | (simp; omega))) | (with_reducible refine Keep.alloc ?_ _) | (with_reducible refine Keep.drewN ?_ _) | (with_reducible refine Keep.drew ?_) | (with_reducible exact Keep.refl _) | refine Keep.trans ?_ (by with_reducible assumption) | exact Keep.refl _ | assumption))))⟩
theorem contains_lot (B : Option Addr) (xs : List Wl) (c g : Nat) (q : Wl → Bool) (w : World) (hm : xs.length ≤ 9223372036854775807) (hR : Rds w B xs)
    (eg : ∀ args w, (callFunc g args).run Tryd.prog w = .ok (.enter g args) w) (hq : ∀ x, x ∈ xs → ∀ W, Keep w W → Calls Tryd.prog g #[.slice x.A x.l.length x.c] W fun e w' => e = .returned (.bool (q x)) ∧ Keep W w') :
    Calls Tryd.prog 80 #[.slice B xs.length c, .func (.func g) #[] #[]] w fun e w' => e = .returned (.bool (xs.any q)) ∧ Keep w w' := by
  have hi := index_lot B xs c g q w hm hR eg hq
  generalize xs.any q = r at *
  go_enter Tryd.func80, Tryd.ntmps80
  (go_wp2_with fail); (go_at_call 96); refine hi.mono ?_; rintro e w1 ⟨n, rfl, rfl, hk1⟩
  go_wp2
  go_ret; exact ⟨rfl, (by ((repeat (first | (with_reducible assumption) | ((with_reducible refine Keep.setCell ?_ ?_ _); rotate_left; focus (first | omega | (simp; done) | (simp; omega))) | (with_reducible refine Keep.alloc ?_ _) | (with_reducible refine Keep.drewN ?_ _) | (with_reducible refine Keep.drew ?_) | (with_reducible exact Keep.refl _) | refine Keep.trans ?_ (by with_reducible assumption) | exact Keep.refl _ | assumption))))⟩
/-- A few lists of a few words. -/
def lotB (ll : List (List ByteArray)) : Bool := decide (ll.length ≤ 60) && ll.all (fun l => wsB l 12)
def lotE (ll : List (List ByteArray)) : Int := cond (lotB ll) 0 2
theorem isLot_clo (A : Option Addr) (l : List ByteArray) (c : Nat) (w : World) (hm : l.length ≤ 9223372036854775807) (hz : Szs l) (hR : Rd w A (strs l)) :
    Calls Tryd.prog 81 #[.slice A l.length c] w fun e w' => e = .returned (.bool (!wsB l 12)) ∧ Keep w w' := by
  have h := impl_areWords A l c 12 w hm hz hR
  generalize wsB l 12 = r at *
  go_enter Tryd.func81, Tryd.ntmps81
  (go_wp2_with fail); (go_at_call 48); (refine (h).mono ?_); rintro e w1 ⟨rfl, hk1⟩
  go_wp2
  go_ret; exact ⟨rfl, (by ((repeat (first | (with_reducible assumption) | ((with_reducible refine Keep.setCell ?_ ?_ _); rotate_left; focus (first | omega | (simp; done) | (simp; omega))) | (with_reducible refine Keep.alloc ?_ _) | (with_reducible refine Keep.drewN ?_ _) | (with_reducible refine Keep.drew ?_) | (with_reducible exact Keep.refl _) | refine Keep.trans ?_ (by with_reducible assumption) | exact Keep.refl _ | assumption))))⟩
theorem any_lot (xs : List Wl) : xs.any (fun x => !wsB x.l 12) = !(lw xs).all (fun l => wsB l 12) := by
  unfold lw
  rw [List.all_map, List.any_eq_not_all_not]
  simp [Function.comp_def]
theorem impl_isLot (B : Option Addr) (xs : List Wl) (c : Nat) (w : World) (hm : xs.length ≤ 9223372036854775807) (hz : SzW (lw xs)) (hR : Rds w B xs) :
    Calls Tryd.prog 49 #[.slice B xs.length c] w fun e w' => e = .returned (.bool (lotB (lw xs))) ∧ Keep w w' := by
  have hI := contains_lot B xs c 81 (fun x => !wsB x.l 12) w hm hR (enters_of Tryd.func81 (by kernel_rfl) rfl) (fun x hx W hk => isLot_clo x.A x.l x.c W (hz.at hx).1 (hz.at hx).2 ((hR.rows x hx).keep hk))
  rw [any_lot] at hI
  by_cases hn : xs.length ≤ 60
  · have e : lotB (lw xs) = (lw xs).all (fun l => wsB l 12) := by unfold lotB; rw [lw_len]; simp [hn]
    rw [e]
    generalize (lw xs).all (fun l => wsB l 12) = r at *
    go_enter Tryd.func49, Tryd.ntmps49
    (go_wp2_with fail); (go_at_call 80); refine hI.mono ?_; rintro e w1 ⟨rfl, hk1⟩
    go_wp2
    go_ret; exact ⟨rb (by cases r <;> rfl), (by ((repeat (first | (with_reducible assumption) | ((with_reducible refine Keep.setCell ?_ ?_ _); rotate_left; focus (first | omega | (simp; done) | (simp; omega))) | (with_reducible refine Keep.alloc ?_ _) | (with_reducible refine Keep.drewN ?_ _) | (with_reducible refine Keep.drew ?_) | (with_reducible exact Keep.refl _) | refine Keep.trans ?_ (by with_reducible assumption) | exact Keep.refl _ | assumption))))⟩
  · have e : lotB (lw xs) = false := by unfold lotB; rw [lw_len]; simp [hn]
    rw [e]
    go_enter Tryd.func49, Tryd.ntmps49
    go_wp2
    go_ret; exact ⟨rfl, (by ((repeat (first | (with_reducible assumption) | ((with_reducible refine Keep.setCell ?_ ?_ _); rotate_left; focus (first | omega | (simp; done) | (simp; omega))) | (with_reducible refine Keep.alloc ?_ _) | (with_reducible refine Keep.drewN ?_ _) | (with_reducible refine Keep.drew ?_) | (with_reducible exact Keep.refl _) | refine Keep.trans ?_ (by with_reducible assumption) | exact Keep.refl _ | assumption))))⟩
theorem lot_take {ll : List (List ByteArray)} {i : Nat} (h : i < ll.length) : (ll.take (i + 1)).all (fun l => wsB l 12) = ((ll.take i).all (fun l => wsB l 12) && wsB ll[i] 12) := by
  rw [List.take_succ_eq_append_getElem h, List.all_append]; simp
theorem lot_no {ll : List (List ByteArray)} {i : Nat} (h : i < ll.length) (hb : wsB ll[i] 12 = false) : lotB ll = false := by
  have : ll.all (fun l => wsB l 12) = false := by rw [List.all_eq_false]; exact ⟨_, List.getElem_mem h, by rw [hb]; decide⟩
  unfold lotB; rw [this]; simp
theorem spec_l03Lot (B : Option Addr) (xs : List Wl) (c : Nat) (w : World) (hm : xs.length ≤ 9223372036854775807) (hz : SzW (lw xs)) (hR : Rds w B xs) :
    Calls Tryd.prog 45 #[.slice B xs.length c] w fun e w' => e = .returned (.int .i64 (lotE (lw xs))) ∧ Keep w w' := by
  by_cases hn : xs.length ≤ 60
  · have HOK : Aside ((lw xs).all (fun l => wsB l 12) = true → lotE (lw xs) = 0) := Aside.mk (fun h => by
      unfold lotE lotB; rw [lw_len, h]; simp [hn])
    have HNO : Aside (lotB (lw xs) = false → lotE (lw xs) = 2) := Aside.mk (fun h => by unfold lotE; rw [h]; rfl)
    go_enter Tryd.func45, Tryd.ntmps45
    go_wp2_with fail
    go_loopg [3] xs.length (fun k s3 wr => ∃ i : Nat, i + k = xs.length ∧ s3 = .int .i64 i ∧ ((lw xs).take i).all (fun l => wsB l 12) = true ∧ Keep w wr)
    case atStart => exact ⟨0, by omega, rfl, rfl, (by ((repeat (first | (with_reducible assumption) | ((with_reducible refine Keep.setCell ?_ ?_ _); rotate_left; focus (first | omega | (simp; done) | (simp; omega))) | (with_reducible refine Keep.alloc ?_ _) | (with_reducible refine Keep.drewN ?_ _) | (with_reducible refine Keep.drew ?_) | (with_reducible exact Keep.refl _) | refine Keep.trans ?_ (by with_reducible assumption) | exact Keep.refl _ | assumption))))⟩
    case round =>
      obtain ⟨i, hi, rfl, hal, hk⟩ := hrel
      have HL := Aside.mk hal
      clear hal
      by_cases hlt : i < xs.length
      · obtain ⟨bb, o, rfl, hc⟩ := (hR.row.keep hk).at (k := i) (by rw [sls_len]; exact hlt)
        have hcell := hc i _ (sls_at xs i hlt)
        have hlt2 : i < (lw xs).length := by rw [lw_len]; exact hlt
        have hT := lot_take hlt2
        have hN := fun h => HNO.out (lot_no hlt2 h)
        rw [HL.out, Bool.true_and, lw_at xs i hlt] at hT
        rw [lw_at xs i hlt] at hN
        have HT := Aside.mk hT
        have HN := Aside.mk hN
        have hz1 := hz.at (List.getElem_mem hlt)
        have hw := Aside.mk (fun (W : World) (h : Rd W (xs[i]'hlt).A (strs (xs[i]'hlt).l)) => spec_l03Words xs[i].A xs[i].l xs[i].c 12 W hz1.1 hz1.2 h)
        have hr := (hR.rows _ (List.getElem_mem hlt)).keep hk
        clear hc hT hN hz1 hlt2
        generalize xs[i] = x at *
        obtain ⟨xa, xl, xc⟩ := x
        simp only at hcell hw hr HT HN
        cases hb : wsB xl 12
        · have e0 : wsE xl 12 = 2 := by unfold wsE; rw [hb]; rfl
          rw [e0] at hw
          have HE := Aside.mk (HN.out hb)
          clear HN HT e0
          (go_wp2_with fail); (go_at_call 46); (refine (hw.out _ hr).mono ?_); rintro e w1 ⟨rfl, hk1⟩
          go_wp2
          go_ret; exact ⟨by rw [HE.out]; rfl, (by ((repeat (first | (with_reducible assumption) | ((with_reducible refine Keep.setCell ?_ ?_ _); rotate_left; focus (first | omega | (simp; done) | (simp; omega))) | (with_reducible refine Keep.alloc ?_ _) | (with_reducible refine Keep.drewN ?_ _) | (with_reducible refine Keep.drew ?_) | (with_reducible exact Keep.refl _) | refine Keep.trans ?_ (by with_reducible assumption) | exact Keep.refl _ | assumption))))⟩
        · have e0 : wsE xl 12 = 0 := by unfold wsE; rw [hb]; rfl
          rw [e0] at hw
          have HT2 := Aside.mk (HT.out.trans hb)
          clear HN HT e0
          (go_wp2_with fail); (go_at_call 46); (refine (hw.out _ hr).mono ?_); rintro e w1 ⟨rfl, hk1⟩
          go_wp2
          go_roundg (xs.length - (i + 1))
          case measure => omega
          case rel => exact ⟨i + 1, by omega, by go_num, HT2.out, (by ((repeat (first | (with_reducible assumption) | ((with_reducible refine Keep.setCell ?_ ?_ _); rotate_left; focus (first | omega | (simp; done) | (simp; omega))) | (with_reducible refine Keep.alloc ?_ _) | (with_reducible refine Keep.drewN ?_ _) | (with_reducible refine Keep.drew ?_) | (with_reducible exact Keep.refl _) | refine Keep.trans ?_ (by with_reducible assumption) | exact Keep.refl _ | assumption))))⟩
      · have e2 : i = xs.length := by omega
        subst e2
        have HE := Aside.mk (HOK.out (by have := HL.out; rwa [List.take_of_length_le (by rw [lw_len]; omega)] at this))
        clear HL HOK HNO
        go_wp2
        go_ret; exact ⟨by rw [HE.out]; rfl, (by ((repeat (first | (with_reducible assumption) | ((with_reducible refine Keep.setCell ?_ ?_ _); rotate_left; focus (first | omega | (simp; done) | (simp; omega))) | (with_reducible refine Keep.alloc ?_ _) | (with_reducible refine Keep.drewN ?_ _) | (with_reducible refine Keep.drew ?_) | (with_reducible exact Keep.refl _) | refine Keep.trans ?_ (by with_reducible assumption) | exact Keep.refl _ | assumption))))⟩
  · have e : lotE (lw xs) = 2 := by unfold lotE lotB; rw [lw_len]; simp [hn]
    rw [e]
    go_enter Tryd.func45, Tryd.ntmps45
    go_wp2
    go_ret; exact ⟨rfl, (by ((repeat (first | (with_reducible assumption) | ((with_reducible refine Keep.setCell ?_ ?_ _); rotate_left; focus (first | omega | (simp; done) | (simp; omega))) | (with_reducible refine Keep.alloc ?_ _) | (with_reducible refine Keep.drewN ?_ _) | (with_reducible refine Keep.drew ?_) | (with_reducible exact Keep.refl _) | refine Keep.trans ?_ (by with_reducible assumption) | exact Keep.refl _ | assumption))))⟩
end Go.Proofs.YtbbnhbfofdhnbaaDoor

/- What queries drop: the walks. -/
import Derived.Test.YtpmilcfppcmodaaDoorDK2
import Derived.Test.YtpmilcfppcmodaaDoorFD
import Derived.Test.YtpmilcfppcmodaaDoorOW
import Derived.Test.YtpmilcfppcmodaaDoorQ1
import Derived.Test.YtpmilcfppcmodaaDoorS1
import Derived.Test.YtpmilcfppcmodaaDoorPN
set_option linter.unusedVariables false
set_option linter.unusedSimpArgs false
namespace Go.Proofs.YtpmilcfppcmodaaDoor
open Go.RowKit Go.Shelf
set_option maxHeartbeats 2000000
set_option maxRecDepth 20000
theorem index_qry (A : Option Addr) (l : List Qy) (c g : Nat) (caps : Array Value) (q : Qy → Bool) (w : World) (hm : l.length ≤ 9223372036854775807) (hR : Rd w A (qys l))
    (eg : ∀ args w, (callFunc g args).run Tryd.prog w = .ok (.enter g args) w) (hq : ∀ x, x ∈ l → ∀ W, Keep w W → Calls Tryd.prog g (#[.agg #[.int .u64 (U (x.a)), .int .u64 (U (x.b)), .int .u64 (U (x.c)), .int .u64 (U (x.d))]] ++ caps) W fun e w' => e = .returned (.bool (q x)) ∧ Keep W w') :
    Calls Tryd.prog 144 #[.slice A l.length c, .func (.func g) #[] caps] w fun e w' => ∃ n : Int, e = .returned (.int .i64 n) ∧ decide (0 ≤ n) = l.any q ∧ Keep w w' := by
  go_enter Tryd.func144, Tryd.ntmps144
  go_wp2_with fail
  go_loopg [5, 8] l.length (fun k s5 s8 wr => ∃ i : Nat, i + k = l.length ∧ s8 = .int .i64 i ∧ (l.take i).any q = false ∧ Keep w wr)
  case atStart => exact ⟨0, by omega, rfl, rfl, (by ((repeat (first | (with_reducible assumption) | ((with_reducible refine Keep.setCell ?_ ?_ _); rotate_left; focus (first | omega | (simp; done) | (simp; omega))) | (with_reducible refine Keep.alloc ?_ _) | (with_reducible refine Keep.drewN ?_ _) | (with_reducible refine Keep.drew ?_) | (with_reducible exact Keep.refl _) | refine Keep.trans ?_ (by with_reducible assumption) | exact Keep.refl _ | assumption))))⟩
  case round =>
    obtain ⟨i, hi, rfl, hal, hk⟩ := hrel
    have HL := Aside.mk hal
    clear hal
    by_cases hlt : i < l.length
    · obtain ⟨bb, o, rfl, hc⟩ := (hR.keep hk).at (k := i) (by rw [qys_len]; omega)
      obtain ⟨r1, r2, r3, r4⟩ := qys_at l i hlt
      have p1 := hc _ _ r1
      have p2 := hc _ _ r2
      have p3 := hc _ _ r3
      have p4 := hc _ _ r4
      rw [← Nat.add_assoc] at p2 p3 p4
      have hcall := fun W h => hq l[i] (List.getElem_mem hlt) W h
      have hT := any_takeD (q := q) hlt
      rw [HL.out, Bool.false_or] at hT
      have HQ := Aside.mk (fun h => any_ofD (q := q) hlt h)
      have HT := Aside.mk hT
      clear hc hT hq r1 r2 r3 r4
      generalize l[i] = x at *
      obtain ⟨qa, qb, qc, qd⟩ := x
      simp only at p1 p2 p3 p4 hcall
      cases hb : q ⟨qa, qb, qc, qd⟩
      · rw [hb] at hcall HT
        go_wp2_with (go_at_fn g; refine (hcall _ (by ((repeat (first | (with_reducible assumption) | ((with_reducible refine Keep.setCell ?_ ?_ _); rotate_left; focus (first | omega | (simp; done) | (simp; omega))) | (with_reducible refine Keep.alloc ?_ _) | (with_reducible refine Keep.drewN ?_ _) | (with_reducible refine Keep.drew ?_) | (with_reducible exact Keep.refl _) | refine Keep.trans ?_ (by with_reducible assumption) | exact Keep.refl _ | assumption))))).mono ?_; rintro e w' ⟨rfl, hk1⟩)
        go_roundg (l.length - (i + 1))
        case measure => omega
        case rel => exact ⟨i + 1, by omega, by go_num, HT.out, (by ((repeat (first | (with_reducible assumption) | ((with_reducible refine Keep.setCell ?_ ?_ _); rotate_left; focus (first | omega | (simp; done) | (simp; omega))) | (with_reducible refine Keep.alloc ?_ _) | (with_reducible refine Keep.drewN ?_ _) | (with_reducible refine Keep.drew ?_) | (with_reducible exact Keep.refl _) | refine Keep.trans ?_ (by with_reducible assumption) | exact Keep.refl _ | assumption))))⟩
      · have hA := HQ.out hb
        have HA := Aside.mk hA
        clear hA
        rw [hb] at hcall
        go_wp2_with (go_at_fn g; refine (hcall _ (by ((repeat (first | (with_reducible assumption) | ((with_reducible refine Keep.setCell ?_ ?_ _); rotate_left; focus (first | omega | (simp; done) | (simp; omega))) | (with_reducible refine Keep.alloc ?_ _) | (with_reducible refine Keep.drewN ?_ _) | (with_reducible refine Keep.drew ?_) | (with_reducible exact Keep.refl _) | refine Keep.trans ?_ (by with_reducible assumption) | exact Keep.refl _ | assumption))))).mono ?_; rintro e w' ⟨rfl, hk1⟩)
        go_ret; exact ⟨_, rfl, by rw [HA.out]; simp, (by ((repeat (first | (with_reducible assumption) | ((with_reducible refine Keep.setCell ?_ ?_ _); rotate_left; focus (first | omega | (simp; done) | (simp; omega))) | (with_reducible refine Keep.alloc ?_ _) | (with_reducible refine Keep.drewN ?_ _) | (with_reducible refine Keep.drew ?_) | (with_reducible exact Keep.refl _) | refine Keep.trans ?_ (by with_reducible assumption) | exact Keep.refl _ | assumption))))⟩
    · have e2 : i = l.length := by omega
      subst e2
      have hal : l.any q = false := by have := HL.out; rwa [List.take_length] at this
      have HA := Aside.mk hal
      clear hal
      go_wp2
      go_ret; exact ⟨_, rfl, by rw [HA.out]; rfl, (by ((repeat (first | (with_reducible assumption) | ((with_reducible refine Keep.setCell ?_ ?_ _); rotate_left; focus (first | omega | (simp; done) | (simp; omega))) | (with_reducible refine Keep.alloc ?_ _) | (with_reducible refine Keep.drewN ?_ _) | (with_reducible refine Keep.drew ?_) | (with_reducible exact Keep.refl _) | refine Keep.trans ?_ (by with_reducible assumption) | exact Keep.refl _ | assumption))))⟩
theorem contains_qry (A : Option Addr) (l : List Qy) (c g : Nat) (caps : Array Value) (q : Qy → Bool) (w : World) (hm : l.length ≤ 9223372036854775807) (hR : Rd w A (qys l))
    (eg : ∀ args w, (callFunc g args).run Tryd.prog w = .ok (.enter g args) w) (hq : ∀ x, x ∈ l → ∀ W, Keep w W → Calls Tryd.prog g (#[.agg #[.int .u64 (U (x.a)), .int .u64 (U (x.b)), .int .u64 (U (x.c)), .int .u64 (U (x.d))]] ++ caps) W fun e w' => e = .returned (.bool (q x)) ∧ Keep W w') :
    Calls Tryd.prog 107 #[.slice A l.length c, .func (.func g) #[] caps] w fun e w' => e = .returned (.bool (l.any q)) ∧ Keep w w' := by
  have hi := index_qry A l c g caps q w hm hR eg hq
  generalize l.any q = r at *
  go_enter Tryd.func107, Tryd.ntmps107
  (go_wp2_with fail); (go_at_call 144); refine hi.mono ?_; rintro e w1 ⟨n, rfl, rfl, hk1⟩
  go_wp2
  go_ret; exact ⟨rfl, (by ((repeat (first | (with_reducible assumption) | ((with_reducible refine Keep.setCell ?_ ?_ _); rotate_left; focus (first | omega | (simp; done) | (simp; omega))) | (with_reducible refine Keep.alloc ?_ _) | (with_reducible refine Keep.drewN ?_ _) | (with_reducible refine Keep.drew ?_) | (with_reducible exact Keep.refl _) | refine Keep.trans ?_ (by with_reducible assumption) | exact Keep.refl _ | assumption))))⟩
def qdrB (a b : Wd) (q : Qy) : Bool := dropsB q.a q.b q.c q.d a b
/-- Does one of these queries drop the card at this place? -/
def drAt (l : List Cd) (qs : List Qy) (i : Nat) : Bool := match l[i]? with
  | some c => qs.any (qdrB c.a c.b)
  | none => false
theorem drAt_at {l : List Cd} {i : Nat} (qs : List Qy) (h : i < l.length) : drAt l qs i = qs.any (qdrB l[i].a l[i].b) := by
  unfold drAt; rw [List.getElem?_eq_getElem h]
/-- The places of all cards that drop, of the first so many. -/
def anN (l : List Cd) (qs : List Qy) : Nat → List Int
  | 0 => []
  | i + 1 => anN l qs i ++ (if drAt l qs i then [(i : Int)] else [])
def ansL (l : List Cd) (qs : List Qy) : List Int := anN l qs l.length
theorem anN_yes {l : List Cd} {qs : List Qy} {i : Nat} (h : drAt l qs i = true) : anN l qs (i + 1) = anN l qs i ++ [(i : Int)] := by simp [anN, h]
theorem anN_no {l : List Cd} {qs : List Qy} {i : Nat} (h : drAt l qs i = false) : anN l qs (i + 1) = anN l qs i := by simp [anN, h]
theorem anN_len (l : List Cd) (qs : List Qy) : ∀ i, (anN l qs i).length ≤ i
  | 0 => by simp [anN]
  | i + 1 => by
    have := anN_len l qs i
    cases h : drAt l qs i
    · rw [anN_no h]; omega
    · rw [anN_yes h, List.length_append]; simp; omega
theorem droppedBy_clo (q : Qy) (a b : Wd) (g : Nat) (w : World) (c1 : w.cell? ⟨g, 1, none⟩ = some (.int .u64 (U a))) (c2 : w.cell? ⟨g, 2, none⟩ = some (.int .u64 (U b))) :
    Calls Tryd.prog 136 #[.agg #[.int .u64 (U (q.a)), .int .u64 (U (q.b)), .int .u64 (U (q.c)), .int .u64 (U (q.d))], .pointer (some ⟨g, 0, none⟩)] w fun e w' => e = .returned (.bool (qdrB a b q)) ∧ Keep w w' := by
  obtain ⟨qa, qb, qc, qd⟩ := q
  unfold qdrB
  have hg := World.block_lt_of_cell? w _ c1
  simp only at hg
  go_enter Tryd.func136, Tryd.ntmps136
  (go_wp2_with fail); (go_at_call 137); (refine (impl_drops _ _ _ _ _ _ _).mono ?_); rintro e w1 ⟨rfl, hk1⟩
  go_wp2
  go_ret; exact ⟨rfl, (by ((repeat (first | (with_reducible assumption) | ((with_reducible refine Keep.setCell ?_ ?_ _); rotate_left; focus (first | omega | (simp; done) | (simp; omega))) | (with_reducible refine Keep.alloc ?_ _) | (with_reducible refine Keep.drewN ?_ _) | (with_reducible refine Keep.drew ?_) | (with_reducible exact Keep.refl _) | refine Keep.trans ?_ (by with_reducible assumption) | exact Keep.refl _ | assumption))))⟩
theorem impl_droppedBy (A : Option Addr) (l : List Cd) (c : Nat) (B : Option Addr) (qs : List Qy) (d : Nat) (w : World) (hm : l.length ≤ 1048576) (hm2 : qs.length ≤ 9223372036854775807) (hR : Rd w A (cds l)) (hS : Rd w B (qys qs)) :
    Calls Tryd.prog 80 #[.slice A l.length c, .slice B qs.length d] w fun e w' => ∃ v, e = .returned v ∧ w'.ownsRow w.heap.size 2 1 v (ansL l qs).length (ints (ansL l qs)) ∧ Keep w w' := by
  obtain ⟨i0, hi0, hz0, hz1, hz2⟩ := info_parts int64_info
  go_enter Tryd.func80, Tryd.ntmps80
  go_wp2_with fail
  go_loopg [5, 11] l.length (fun k s5 s11 wr => ∃ i : Nat, i + k = l.length ∧ s11 = .int .i64 i ∧ wr.ownsRow w.heap.size 2 1 s5 (anN l qs i).length (ints (anN l qs i)) ∧ Keep w wr)
  case atStart => exact ⟨0, by omega, rfl, by simpa [anN, ints] using own_empty w w.heap.size 2 (Nat.le_refl _), (by ((repeat (first | (with_reducible assumption) | ((with_reducible refine Keep.setCell ?_ ?_ _); rotate_left; focus (first | omega | (simp; done) | (simp; omega))) | (with_reducible refine Keep.alloc ?_ _) | (with_reducible refine Keep.drewN ?_ _) | (with_reducible refine Keep.drew ?_) | (with_reducible exact Keep.refl _) | refine Keep.trans ?_ (by with_reducible assumption) | exact Keep.refl _ | assumption))))⟩
  case round =>
    obtain ⟨i, hi, rfl, hown, hk0⟩ := hrel
    have HO0 := Aside.mk hown
    clear hown
    by_cases hlt : i < l.length
    · obtain ⟨bb, o, rfl, hc⟩ := (hR.keep hk0).at (k := i) (by rw [cds_len]; omega)
      obtain ⟨r1, r2, r3⟩ := cds_at l i hlt
      have p1 := hc _ _ r1
      have p2 := hc _ _ r2
      have p3 := hc _ _ r3
      rw [← Nat.add_assoc] at p2 p3
      have HD := Aside.mk (drAt_at qs hlt)
      have HY := Aside.mk (fun h => anN_yes (l := l) (qs := qs) (i := i) h)
      have HN := Aside.mk (fun h => anN_no (l := l) (qs := qs) (i := i) h)
      have hal := anN_len l qs i
      clear hc r1 r2 r3
      generalize l[i] = x at *
      obtain ⟨s, a, b⟩ := x
      simp only at p1 p2 p3 HD
      have hct := fun W h (c1 : W.cell? ⟨wr.heap.size, 1, none⟩ = some (.int .u64 (U a))) (c2 : W.cell? ⟨wr.heap.size, 2, none⟩ = some (.int .u64 (U b))) => contains_qry B qs d 136 #[.pointer (some ⟨wr.heap.size, 0, none⟩)] (qdrB a b) W hm2 h (enters_of Tryd.func136 (by kernel_rfl) rfl) (fun x _ W' hk => droppedBy_clo x a b wr.heap.size W' (hk.cell c1) (hk.cell c2))
      rw [← HD.out] at hct
      have hX := Bx.new wr #[.string s, .int .u64 (U a), .int .u64 (U b)] 108
      have hXs := hX.three
      cases hb : drAt l qs i
      · rw [hb] at hct
        have E1 := Aside.mk (HN.out hb)
        have HC := Aside.mk (hct _ ((hS.keep hk0).keep ((Keep.refl _).alloc _)) hXs.2.1 hXs.2.2.1)
        clear hct HY HN HD hX hXs
        (go_wp2_with fail); (go_at_call 107); (refine HC.out.mono ?_); rintro e w1 ⟨rfl, hk1⟩
        have kk : Keep wr w1 := (by ((repeat (first | (with_reducible assumption) | ((with_reducible refine Keep.setCell ?_ ?_ _); rotate_left; focus (first | omega | (simp; done) | (simp; omega))) | (with_reducible refine Keep.alloc ?_ _) | (with_reducible refine Keep.drewN ?_ _) | (with_reducible refine Keep.drew ?_) | (with_reducible exact Keep.refl _) | refine Keep.trans ?_ (by with_reducible assumption) | exact Keep.refl _ | assumption))))
        have k1 := hk0.trans kk
        have HO1 := Aside.mk (own_keep HO0.out kk)
        clear hk1 HO0 HC p1 p2 p3
        go_wp2
        go_roundg (l.length - (i + 1))
        case measure => omega
        case rel => exact ⟨i + 1, by omega, by go_num, by rw [E1.out]; exact HO1.out, (by ((repeat (first | (with_reducible assumption) | ((with_reducible refine Keep.setCell ?_ ?_ _); rotate_left; focus (first | omega | (simp; done) | (simp; omega))) | (with_reducible refine Keep.alloc ?_ _) | (with_reducible refine Keep.drewN ?_ _) | (with_reducible refine Keep.drew ?_) | (with_reducible exact Keep.refl _) | refine Keep.trans ?_ (by with_reducible assumption) | exact Keep.refl _ | assumption))))⟩
      · rw [hb] at hct
        have E1 := Aside.mk (HY.out hb)
        have HC := Aside.mk (hct _ ((hS.keep hk0).keep ((Keep.refl _).alloc _)) hXs.2.1 hXs.2.2.1)
        clear hct HY HN HD hX hXs
        (go_wp2_with fail); (go_at_call 107); (refine HC.out.mono ?_); rintro e w1 ⟨rfl, hk1⟩
        have kk : Keep wr w1 := (by ((repeat (first | (with_reducible assumption) | ((with_reducible refine Keep.setCell ?_ ?_ _); rotate_left; focus (first | omega | (simp; done) | (simp; omega))) | (with_reducible refine Keep.alloc ?_ _) | (with_reducible refine Keep.drewN ?_ _) | (with_reducible refine Keep.drew ?_) | (with_reducible exact Keep.refl _) | refine Keep.trans ?_ (by with_reducible assumption) | exact Keep.refl _ | assumption))))
        have k1 := hk0.trans kk
        have HO1 := Aside.mk (own_keep HO0.out kk)
        clear hk1 HO0 HC p1 p2 p3
        go_wp2_with (at_builtin; refine wpList_append_own _ rfl _ _ 28 rfl w.heap.size 2 i0 (.int .i64 0) 1 8 Tryd.underlying28 hi0 hz0 hz1 hz2 rfl (by decide) _ _ _ rfl (own_keep HO1.out ((Keep.refl _).alloc _)) ⟨w1.heap.size, 0, none⟩ 1 1 [.int .i64 i] rfl rfl ?c1 ?c2 ?c3 ?c4 ?c5 ?_)
        case c1 =>
          intro j u hj
          match j, hj with
          | 0, hj => simp at hj; subst hj; simp [Addr.add]
        case c2 => intro u hu; simp at hu; subst hu; rfl
        case c3 => unfold maxLen; omega
        case c4 => omega
        case c5 => have := k1.size; simp; omega
        intro v' w2 hown2 hg _
        have hr : ∀ k, Value.ownBlock _ = some k → _ := HO1.out.lt
        have k2 : Keep w w2 := (k1.alloc _).grown hg (fun k hk => by have := hr _ hk; omega)
        have HO := Aside.mk hown2
        clear HO1 hown2 hg hr
        go_wp2
        go_roundg (l.length - (i + 1))
        case measure => omega
        case rel => exact ⟨i + 1, by omega, by go_num, by rw [E1.out]; simpa [ints] using HO.out, (by ((repeat (first | (with_reducible assumption) | ((with_reducible refine Keep.setCell ?_ ?_ _); rotate_left; focus (first | omega | (simp; done) | (simp; omega))) | (with_reducible refine Keep.alloc ?_ _) | (with_reducible refine Keep.drewN ?_ _) | (with_reducible refine Keep.drew ?_) | (with_reducible exact Keep.refl _) | refine Keep.trans ?_ (by with_reducible assumption) | exact Keep.refl _ | assumption))))⟩
    · have e2 : i = l.length := by omega
      subst e2
      go_wp2
      go_ret; exact ⟨_, rfl, HO0.out, (by ((repeat (first | (with_reducible assumption) | ((with_reducible refine Keep.setCell ?_ ?_ _); rotate_left; focus (first | omega | (simp; done) | (simp; omega))) | (with_reducible refine Keep.alloc ?_ _) | (with_reducible refine Keep.drewN ?_ _) | (with_reducible refine Keep.drew ?_) | (with_reducible exact Keep.refl _) | refine Keep.trans ?_ (by with_reducible assumption) | exact Keep.refl _ | assumption))))⟩
theorem spec_l02Answer (A : Option Addr) (l : List Cd) (c : Nat) (B : Option Addr) (qs : List Qy) (d : Nat) (w : World) (hm : l.length ≤ 1048576) (hm2 : qs.length ≤ 9223372036854775807) (hR : Rd w A (cds l)) (hS : Rd w B (qys qs)) :
    Calls Tryd.prog 69 #[.slice A l.length c, .slice B qs.length d] w fun e w' => ∃ v, e = .returned v ∧ w'.ownsRow w.heap.size 2 1 v (ansL l qs).length (ints (ansL l qs)) ∧ Keep w w' := by
  obtain ⟨i0, hi0, hz0, hz1, hz2⟩ := info_parts int64_info
  go_enter Tryd.func69, Tryd.ntmps69
  go_wp2_with fail
  go_loopg [5, 6] l.length (fun k s5 s6 wr => ∃ (i : Nat) (v5 : Value), i + k = l.length ∧ s6 = .int .i64 i ∧ s5 = v5 ∧ wr.ownsRow w.heap.size 2 1 v5 (anN l qs i).length (ints (anN l qs i)) ∧ Keep w wr)
  case atStart => exact ⟨0, _, by omega, rfl, rfl, by simpa [anN, ints] using own_empty w w.heap.size 2 (Nat.le_refl _), (by ((repeat (first | (with_reducible assumption) | ((with_reducible refine Keep.setCell ?_ ?_ _); rotate_left; focus (first | omega | (simp; done) | (simp; omega))) | (with_reducible refine Keep.alloc ?_ _) | (with_reducible refine Keep.drewN ?_ _) | (with_reducible refine Keep.drew ?_) | (with_reducible exact Keep.refl _) | refine Keep.trans ?_ (by with_reducible assumption) | exact Keep.refl _ | assumption))))⟩
  case round =>
    obtain ⟨i, v5, hi, rfl, hv5, hown, hk0⟩ := hrel
    obtain rfl := hv5.symm
    have HO0 := Aside.mk hown
    clear hown
    by_cases hlt : i < l.length
    · have HD := Aside.mk (drAt_at qs hlt)
      have HY := Aside.mk (fun h => anN_yes (l := l) (qs := qs) (i := i) h)
      have HN := Aside.mk (fun h => anN_no (l := l) (qs := qs) (i := i) h)
      have HC := Aside.mk (cds_at l i hlt)
      have hal := anN_len l qs i
      generalize l[i] = x at *
      obtain ⟨s, a, b⟩ := x
      simp only at HD HC
      go_wp2_with fail
      go_loopg [5, 7] qs.length (fun k2 s5 s7 wq => ∃ j : Nat, j + k2 = qs.length ∧ s7 = .int .i64 j ∧ s5 = v5 ∧ (qs.take j).any (qdrB a b) = false ∧ Keep wr wq)
      case atStart => exact ⟨0, by omega, rfl, rfl, rfl, (by ((repeat (first | (with_reducible assumption) | ((with_reducible refine Keep.setCell ?_ ?_ _); rotate_left; focus (first | omega | (simp; done) | (simp; omega))) | (with_reducible refine Keep.alloc ?_ _) | (with_reducible refine Keep.drewN ?_ _) | (with_reducible refine Keep.drew ?_) | (with_reducible exact Keep.refl _) | refine Keep.trans ?_ (by with_reducible assumption) | exact Keep.refl _ | assumption))))⟩
      case round =>
        obtain ⟨j, hj, rfl, rfl, haj, hk2⟩ := hrel
        have HJ := Aside.mk haj
        clear haj
        have hkq := hk0.trans hk2
        by_cases hjl : j < qs.length
        · obtain ⟨bb, o, rfl, hc⟩ := (hR.keep hkq).at (k := i) (by rw [cds_len]; omega)
          obtain ⟨b2, o2, rfl, hc2⟩ := (hS.keep hkq).at (k := j) (by rw [qys_len]; omega)
          have p2 := hc _ _ HC.out.2.1
          have p3 := hc _ _ HC.out.2.2
          obtain ⟨r1, r2, r3, r4⟩ := qys_at qs j hjl
          have t1 := hc2 _ _ r1
          have t2 := hc2 _ _ r2
          have t3 := hc2 _ _ r3
          have t4 := hc2 _ _ r4
          rw [← Nat.add_assoc] at p2 p3 t2 t3 t4
          have hT := any_takeD (q := qdrB a b) hjl
          rw [HJ.out, Bool.false_or] at hT
          have HT := Aside.mk hT
          have HQ := Aside.mk (fun h => any_ofD (q := qdrB a b) hjl h)
          clear hc hc2 hT r1 r2 r3 r4
          generalize qs[j] = q at *
          obtain ⟨qa, qb, qc, qd⟩ := q
          simp only [qdrB] at t1 t2 t3 t4 HT HQ
          have hdr := Aside.mk (fun W h => spec_l02Drops qa qb qc qd a b b2 (o2 + j * 4) W h)
          have hcs : ∀ W, Keep wr W → Cs W b2 (o2 + j * 4) [.int .u64 (U qa), .int .u64 (U qb), .int .u64 (U qc), .int .u64 (U qd)] := fun W hk => by
            intro y v hy
            match y, hy with
            | 0, hy => simp at hy; subst hy; exact hk.cell t1
            | 1, hy => simp at hy; subst hy; exact hk.cell t2
            | 2, hy => simp at hy; subst hy; exact hk.cell t3
            | 3, hy => simp at hy; subst hy; exact hk.cell t4
          have HCS := Aside.mk hcs
          clear hcs
          go_wp2_with fail
          refine wp_region_keep (by kernel_rfl) (by kernel_rfl) ?_
          repeat
            first
              | (apply QuietL.run
                 focus go_simp
                 focus
                   intro w2 hk
                   have p2' := hk.cell p2
                   have p3' := hk.cell p3
                   apply QAt.mk
                   go_simp
                   first
                     | done
                     | exact rfl
                     | (go_at_call 126; exact quiet_call hk (hdr.out _ (HCS.out _ hk)))
                 simp only [Act.put, List.setIfInBounds_toArray, List.set_cons_succ, List.set_cons_zero])
              | (apply QuietL.skip
                 focus go_simp
                 simp only [Act.put, List.setIfInBounds_toArray, List.set_cons_succ, List.set_cons_zero])
          apply QuietL.nil
          intro w2 hk
          have p2' := hk.cell p2
          have p3' := hk.cell p3
          have kk := hk2.trans hk
          clear hdr HCS t1 t2 t3 t4 p2 p3 hk p2' p3'
          cases hb : dropsB qa qb qc qd a b
          · rw [hb] at HT
            go_wp2
            go_roundg (qs.length - (j + 1))
            case measure => omega
            case rel => exact ⟨j + 1, by omega, by go_num, rfl, HT.out, (by ((repeat (first | (with_reducible assumption) | ((with_reducible refine Keep.setCell ?_ ?_ _); rotate_left; focus (first | omega | (simp; done) | (simp; omega))) | (with_reducible refine Keep.alloc ?_ _) | (with_reducible refine Keep.drewN ?_ _) | (with_reducible refine Keep.drew ?_) | (with_reducible exact Keep.refl _) | refine Keep.trans ?_ (by with_reducible assumption) | exact Keep.refl _ | assumption))))⟩
          · have E1 := Aside.mk (HY.out (by rw [HD.out]; exact HQ.out hb))
            obtain ⟨w1, hw1⟩ : ∃ w1, w1 = w2 := ⟨_, rfl⟩
            have k1 := hk0.trans kk
            have HO1 := Aside.mk (own_keep HO0.out kk)
            subst hw1
            clear HO0 HT HQ HY HN HD kk hk2 hkq hk0
            go_wp2_with (at_builtin; refine wpList_append_own _ rfl _ _ 28 rfl w.heap.size 2 i0 (.int .i64 0) 1 8 Tryd.underlying28 hi0 hz0 hz1 hz2 rfl (by decide) _ _ _ rfl (own_keep HO1.out ((Keep.refl _).alloc _)) ⟨w1.heap.size, 0, none⟩ 1 1 [.int .i64 i] rfl rfl ?c1 ?c2 ?c3 ?c4 ?c5 ?_)
            case c1 =>
              intro j u hj
              match j, hj with
              | 0, hj => simp at hj; subst hj; simp [Addr.add]
            case c2 => intro u hu; simp at hu; subst hu; rfl
            case c3 => unfold maxLen; omega
            case c4 => omega
            case c5 => have := k1.size; simp; omega
            intro v' w2 hown2 hg _
            have hr : ∀ k, Value.ownBlock _ = some k → _ := HO1.out.lt
            have k2 : Keep w w2 := (k1.alloc _).grown hg (fun k hk => by have := hr _ hk; omega)
            have HO := Aside.mk hown2
            clear HO1 hown2 hg hr
            go_wp2
            go_roundg (l.length - (i + 1))
            case measure => omega
            case rel => exact ⟨i + 1, _, by omega, by go_num, rfl, by rw [E1.out]; simpa [ints] using HO.out, (by ((repeat (first | (with_reducible assumption) | ((with_reducible refine Keep.setCell ?_ ?_ _); rotate_left; focus (first | omega | (simp; done) | (simp; omega))) | (with_reducible refine Keep.alloc ?_ _) | (with_reducible refine Keep.drewN ?_ _) | (with_reducible refine Keep.drew ?_) | (with_reducible exact Keep.refl _) | refine Keep.trans ?_ (by with_reducible assumption) | exact Keep.refl _ | assumption))))⟩
        · have e3 : j = qs.length := by omega
          subst e3
          have h2 := HJ.out
          rw [List.take_length] at h2
          have E1 := Aside.mk (HN.out (by rw [HD.out]; exact h2))
          have HO1 := Aside.mk (own_keep HO0.out hk2)
          clear h2 HO0
          go_wp2
          go_roundg (l.length - (i + 1))
          case measure => omega
          case rel => exact ⟨i + 1, _, by omega, by go_num, rfl, by rw [E1.out]; exact HO1.out, (by ((repeat (first | (with_reducible assumption) | ((with_reducible refine Keep.setCell ?_ ?_ _); rotate_left; focus (first | omega | (simp; done) | (simp; omega))) | (with_reducible refine Keep.alloc ?_ _) | (with_reducible refine Keep.drewN ?_ _) | (with_reducible refine Keep.drew ?_) | (with_reducible exact Keep.refl _) | refine Keep.trans ?_ (by with_reducible assumption) | exact Keep.refl _ | assumption))))⟩
    · have e2 : i = l.length := by omega
      subst e2
      go_wp2
      go_ret; exact ⟨_, rfl, HO0.out, (by ((repeat (first | (with_reducible assumption) | ((with_reducible refine Keep.setCell ?_ ?_ _); rotate_left; focus (first | omega | (simp; done) | (simp; omega))) | (with_reducible refine Keep.alloc ?_ _) | (with_reducible refine Keep.drewN ?_ _) | (with_reducible refine Keep.drew ?_) | (with_reducible exact Keep.refl _) | refine Keep.trans ?_ (by with_reducible assumption) | exact Keep.refl _ | assumption))))⟩
end Go.Proofs.YtpmilcfppcmodaaDoor

/- What several queries drop: the functions. -/
import Derived.Test.YtpmilcfppcmodaaDoorAO
import Derived.Test.YtpmilcfppcmodaaDoorDL4
set_option linter.unusedVariables false
set_option linter.unusedSimpArgs false
namespace Go.Proofs.YtpmilcfppcmodaaDoor
open Go.RowKit Go.Shelf
set_option maxHeartbeats 4000000
set_option maxRecDepth 20000
def qyB (q : Qy) : Bool := queryB q.a q.b q.c q.d
def ayB (l : List Cd) (qs : List Qy) : Bool := dkB l && qs.all qyB
def ayE (l : List Cd) (qs : List Qy) : Int := cond (ayB l qs) 0 1
def ayL (l : List Cd) (qs : List Qy) : List Int := cond (ayB l qs) (ansL l qs) []
theorem allQ_take {l : List Qy} {i : Nat} (h : i < l.length) : (l.take (i + 1)).all qyB = ((l.take i).all qyB && qyB l[i]) := by
  rw [List.take_succ_eq_append_getElem h, List.all_append]; simp
theorem allQ_no {l : List Qy} {i : Nat} (h : i < l.length) (hb : qyB l[i] = false) : l.all qyB = false := by
  rw [List.all_eq_false]; exact ⟨l[i], List.getElem_mem h, by simp [hb]⟩
theorem anyOf_clo (q : Qy) (w : World) :
    Calls Tryd.prog 108 #[.agg #[.int .u64 (U (q.a)), .int .u64 (U (q.b)), .int .u64 (U (q.c)), .int .u64 (U (q.d))]] w fun e w' => e = .returned (.bool (!qyB q)) ∧ Keep w w' := by
  obtain ⟨qa, qb, qc, qd⟩ := q
  unfold qyB
  go_enter Tryd.func108, Tryd.ntmps108
  (go_wp2_with fail); (go_at_call 79); (refine (impl_isQuery _ _ _ _ _).mono ?_); rintro e w1 ⟨rfl, hk1⟩
  go_wp2
  go_ret; exact ⟨rfl, (by ((repeat (first | (with_reducible assumption) | ((with_reducible refine Keep.setCell ?_ ?_ _); rotate_left; focus (first | omega | (simp; done) | (simp; omega))) | (with_reducible refine Keep.alloc ?_ _) | (with_reducible refine Keep.drewN ?_ _) | (with_reducible refine Keep.drew ?_) | (with_reducible exact Keep.refl _) | refine Keep.trans ?_ (by with_reducible assumption) | exact Keep.refl _ | assumption))))⟩
theorem impl_AnyOf (A : Option Addr) (l : List Cd) (c : Nat) (B : Option Addr) (qs : List Qy) (d : Nat) (w : World) (hm : l.length ≤ 9223372036854775807) (hcp : l.length ≤ c) (hz : CSz l) (hm2 : qs.length ≤ 9223372036854775807) (hR : Rd w A (cds l)) (hS : Rd w B (qys qs)) :
    Calls Tryd.prog 56 #[.slice A l.length c, .slice B qs.length d] w fun e w' => ∃ v, e = .returned (.tuple #[v, .int .i64 (ayE l qs)]) ∧ w'.ownsRow w.heap.size 2 1 v (ayL l qs).length (ints (ayL l qs)) ∧ Keep w w' := by
  have hd := impl_isDeck A l c w hm hcp hz hR
  have hct := fun W h => contains_qry B qs d 108 #[] (fun x => !qyB x) W hm2 h (enters_of Tryd.func108 (by kernel_rfl) rfl) (fun x _ W' _ => anyOf_clo x W')
  rw [any_notD] at hct
  cases h1 : dkB l
  · have e0 : ayE l qs = 1 := by simp only [ayE, ayB, h1, Bool.false_and, cond_false]
    have e1 : ayL l qs = [] := by simp only [ayL, ayB, h1, Bool.false_and, cond_false]
    rw [e0, e1]
    rw [h1] at hd
    clear hct e0 e1
    go_enter Tryd.func56, Tryd.ntmps56
    (go_wp2_with fail); (go_at_call 72); (refine (hd).mono ?_); rintro e w1 ⟨rfl, hk1⟩
    go_wp2
    go_ret2; exact ⟨_, rfl, World.ownsRow_nil _ _ _ _, (by ((repeat (first | (with_reducible assumption) | ((with_reducible refine Keep.setCell ?_ ?_ _); rotate_left; focus (first | omega | (simp; done) | (simp; omega))) | (with_reducible refine Keep.alloc ?_ _) | (with_reducible refine Keep.drewN ?_ _) | (with_reducible refine Keep.drew ?_) | (with_reducible exact Keep.refl _) | refine Keep.trans ?_ (by with_reducible assumption) | exact Keep.refl _ | assumption))))⟩
  · rw [h1] at hd
    cases h2 : qs.all qyB
    · have e0 : ayE l qs = 1 := by simp only [ayE, ayB, h1, h2, Bool.and_false, cond_false]
      have e1 : ayL l qs = [] := by simp only [ayL, ayB, h1, h2, Bool.and_false, cond_false]
      rw [e0, e1]
      rw [h2] at hct
      clear e0 e1
      go_enter Tryd.func56, Tryd.ntmps56
      (go_wp2_with fail); (go_at_call 72); (refine (hd).mono ?_); rintro e w1 ⟨rfl, hk1⟩
      (go_wp2_with fail); (go_at_call 107); (refine (hct _ (hS.keep hk1)).mono ?_); rintro e w2 ⟨rfl, hk2⟩
      go_wp2
      go_ret2; exact ⟨_, rfl, World.ownsRow_nil _ _ _ _, (by ((repeat (first | (with_reducible assumption) | ((with_reducible refine Keep.setCell ?_ ?_ _); rotate_left; focus (first | omega | (simp; done) | (simp; omega))) | (with_reducible refine Keep.alloc ?_ _) | (with_reducible refine Keep.drewN ?_ _) | (with_reducible refine Keep.drew ?_) | (with_reducible exact Keep.refl _) | refine Keep.trans ?_ (by with_reducible assumption) | exact Keep.refl _ | assumption))))⟩
    · have e0 : ayE l qs = 0 := by simp only [ayE, ayB, h1, h2, Bool.and_self, cond_true]
      have e1 : ayL l qs = ansL l qs := by simp only [ayL, ayB, h1, h2, Bool.and_self, cond_true]
      have hm80 := dkB_80 h1
      have hdb := Aside.mk (fun W h k => impl_droppedBy A l c B qs d W (by omega) hm2 h k)
      rw [e0, e1]
      rw [h2] at hct
      clear e0 e1
      generalize ansL l qs = L at *
      go_enter Tryd.func56, Tryd.ntmps56
      (go_wp2_with fail); (go_at_call 72); (refine (hd).mono ?_); rintro e w1 ⟨rfl, hk1⟩
      (go_wp2_with fail); (go_at_call 107); (refine (hct _ (hS.keep hk1)).mono ?_); rintro e w2 ⟨rfl, hk2⟩
      have k2 : Keep w w2 := (by ((repeat (first | (with_reducible assumption) | ((with_reducible refine Keep.setCell ?_ ?_ _); rotate_left; focus (first | omega | (simp; done) | (simp; omega))) | (with_reducible refine Keep.alloc ?_ _) | (with_reducible refine Keep.drewN ?_ _) | (with_reducible refine Keep.drew ?_) | (with_reducible exact Keep.refl _) | refine Keep.trans ?_ (by with_reducible assumption) | exact Keep.refl _ | assumption))))
      clear hk1 hk2
      (go_wp2_with fail); (go_at_call 80); (refine (hdb.out _ (hR.keep k2) (hS.keep k2)).mono ?_); rintro e w3 ⟨v, rfl, ho, hk3⟩
      have HO := Aside.mk (own_base ho k2.size)
      have k3 : Keep w w3 := (by ((repeat (first | (with_reducible assumption) | ((with_reducible refine Keep.setCell ?_ ?_ _); rotate_left; focus (first | omega | (simp; done) | (simp; omega))) | (with_reducible refine Keep.alloc ?_ _) | (with_reducible refine Keep.drewN ?_ _) | (with_reducible refine Keep.drew ?_) | (with_reducible exact Keep.refl _) | refine Keep.trans ?_ (by with_reducible assumption) | exact Keep.refl _ | assumption))))
      clear ho hk3
      go_wp2
      go_ret2; exact ⟨_, rfl, HO.out, (by ((repeat (first | (with_reducible assumption) | ((with_reducible refine Keep.setCell ?_ ?_ _); rotate_left; focus (first | omega | (simp; done) | (simp; omega))) | (with_reducible refine Keep.alloc ?_ _) | (with_reducible refine Keep.drewN ?_ _) | (with_reducible refine Keep.drew ?_) | (with_reducible exact Keep.refl _) | refine Keep.trans ?_ (by with_reducible assumption) | exact Keep.refl _ | assumption))))⟩
theorem spec_AnyOf (A : Option Addr) (l : List Cd) (c : Nat) (B : Option Addr) (qs : List Qy) (d : Nat) (w : World) (hm : l.length ≤ 9223372036854775807) (hz : CSz l) (hm2 : qs.length ≤ 9223372036854775807) (hR : Rd w A (cds l)) (hS : Rd w B (qys qs)) :
    Calls Tryd.prog 54 #[.slice A l.length c, .slice B qs.length d] w fun e w' => ∃ v, e = .returned (.tuple #[v, .int .i64 (ayE l qs)]) ∧ w'.ownsRow w.heap.size 2 1 v (ayL l qs).length (ints (ayL l qs)) ∧ Keep w w' := by
  have hd := spec_l02Ok A l c w hm hz hR
  obtain ⟨E, hE⟩ : ∃ E, ayE l qs = E := ⟨_, rfl⟩
  obtain ⟨M, hM⟩ : ∃ M, ayL l qs = M := ⟨_, rfl⟩
  obtain ⟨D, hD⟩ : ∃ D, dkB l = D := ⟨_, rfl⟩
  have HN : ayB l qs = false → E = 1 ∧ M = [] := fun h => ⟨by rw [← hE, ayE, h]; rfl, by rw [← hM, ayL, h]; rfl⟩
  have HY : ayB l qs = true → E = 0 ∧ M = ansL l qs := fun h => ⟨by rw [← hE, ayE, h]; rfl, by rw [← hM, ayL, h]; rfl⟩
  rw [hE, hM]
  rw [hD] at hd
  replace HN := Aside.mk HN
  replace HY := Aside.mk HY
  replace hD := Aside.mk hD
  clear hE hM
  go_enter Tryd.func54, Tryd.ntmps54
  (go_wp2_with fail); (go_at_call 67); (refine (hd).mono ?_); rintro e w1 ⟨rfl, hk1⟩
  have k1 : Keep w w1 := (by ((repeat (first | (with_reducible assumption) | ((with_reducible refine Keep.setCell ?_ ?_ _); rotate_left; focus (first | omega | (simp; done) | (simp; omega))) | (with_reducible refine Keep.alloc ?_ _) | (with_reducible refine Keep.drewN ?_ _) | (with_reducible refine Keep.drew ?_) | (with_reducible exact Keep.refl _) | refine Keep.trans ?_ (by with_reducible assumption) | exact Keep.refl _ | assumption))))
  clear hk1 hd
  go_wp2_with fail
  go_loopg [6, 7] qs.length (fun k s6 s7 wr => ∃ (i : Nat) (o : Bool), i + k = qs.length ∧ s7 = .int .i64 i ∧ s6 = .bool o ∧ (o = true → D = true ∧ (qs.take i).all qyB = true) ∧ (o = false → ayB l qs = false) ∧ Keep w wr)
  case atStart =>
    refine ⟨0, D, by omega, rfl, rfl, fun h => ⟨h, rfl⟩, fun h => ?_, (by ((repeat (first | (with_reducible assumption) | ((with_reducible refine Keep.setCell ?_ ?_ _); rotate_left; focus (first | omega | (simp; done) | (simp; omega))) | (with_reducible refine Keep.alloc ?_ _) | (with_reducible refine Keep.drewN ?_ _) | (with_reducible refine Keep.drew ?_) | (with_reducible exact Keep.refl _) | refine Keep.trans ?_ (by with_reducible assumption) | exact Keep.refl _ | assumption))))⟩
    unfold ayB; rw [hD.out, h]; rfl
  case round =>
    obtain ⟨i, o, hi, rfl, rfl, ht, hf, hk⟩ := hrel
    have HT := Aside.mk ht
    have HF := Aside.mk hf
    clear ht hf
    have hz8 := hk.size
    cases o
    · obtain ⟨e0, e1⟩ := HN.out (HF.out rfl)
      subst e0 e1
      by_cases hlt : i < qs.length
      all_goals
        go_wp2
        go_ret2; exact ⟨_, rfl, by simpa [ints] using own_empty wr w.heap.size 2 hz8, (by ((repeat (first | (with_reducible assumption) | ((with_reducible refine Keep.setCell ?_ ?_ _); rotate_left; focus (first | omega | (simp; done) | (simp; omega))) | (with_reducible refine Keep.alloc ?_ _) | (with_reducible refine Keep.drewN ?_ _) | (with_reducible refine Keep.drew ?_) | (with_reducible exact Keep.refl _) | refine Keep.trans ?_ (by with_reducible assumption) | exact Keep.refl _ | assumption))))⟩
    · have HT0 := Aside.mk (HT.out rfl)
      clear HT HF
      by_cases hlt : i < qs.length
      · obtain ⟨b2, o2, rfl, hc2⟩ := (hS.keep hk).at (k := i) (by rw [qys_len]; omega)
        obtain ⟨r1, r2, r3, r4⟩ := qys_at qs i hlt
        have hcs : Cs wr b2 (o2 + i * 4) [.int .u64 (U qs[i].a), .int .u64 (U qs[i].b), .int .u64 (U qs[i].c), .int .u64 (U qs[i].d)] := by
          intro y v hy
          match y, hy with
          | 0, hy => simp at hy; subst hy; exact hc2 _ _ r1
          | 1, hy => simp at hy; subst hy; have := hc2 _ _ r2; rwa [← Nat.add_assoc] at this
          | 2, hy => simp at hy; subst hy; have := hc2 _ _ r3; rwa [← Nat.add_assoc] at this
          | 3, hy => simp at hy; subst hy; have := hc2 _ _ r4; rwa [← Nat.add_assoc] at this
        have hq := spec_l02Query qs[i].a qs[i].b qs[i].c qs[i].d b2 (o2 + i * 4) wr hcs
        rw [show queryB qs[i].a qs[i].b qs[i].c qs[i].d = qyB qs[i] from rfl] at hq
        have hT := allQ_take hlt
        rw [HT0.out.2, Bool.true_and] at hT
        have HT2 := Aside.mk hT
        have HQ := Aside.mk (fun h => allQ_no hlt h)
        clear hc2 hT r1 r2 r3 r4 hcs
        obtain ⟨r, hr⟩ : ∃ r, qyB qs[i] = r := ⟨_, rfl⟩
        rw [hr] at hq HT2 HQ
        clear hr
        (go_wp2_with fail); (go_at_call 68); (refine (hq).mono ?_); rintro e w2 ⟨rfl, hk2⟩
        go_wp2
        go_roundg (qs.length - (i + 1))
        case measure => omega
        case rel => exact ⟨i + 1, r, by omega, by go_num, rfl, fun h => ⟨HT0.out.1, by rw [HT2.out]; exact h⟩, fun h => by unfold ayB; rw [HQ.out h, Bool.and_false], (by ((repeat (first | (with_reducible assumption) | ((with_reducible refine Keep.setCell ?_ ?_ _); rotate_left; focus (first | omega | (simp; done) | (simp; omega))) | (with_reducible refine Keep.alloc ?_ _) | (with_reducible refine Keep.drewN ?_ _) | (with_reducible refine Keep.drew ?_) | (with_reducible exact Keep.refl _) | refine Keep.trans ?_ (by with_reducible assumption) | exact Keep.refl _ | assumption))))⟩
      · have e2 : i = qs.length := by omega
        subst e2
        have h2 := HT0.out
        rw [List.take_length] at h2
        have hdk : dkB l = true := by rw [hD.out]; exact h2.1
        have hB : ayB l qs = true := by unfold ayB; rw [hdk, h2.2]; rfl
        obtain ⟨e0, e1⟩ := HY.out hB
        have hm80 := dkB_80 hdk
        have hdb := Aside.mk (fun W h k => spec_l02Answer A l c B qs d W (by omega) hm2 h k)
        rw [← e1] at hdb
        subst e0
        clear e1 hB h2 hdk
        (go_wp2_with fail); (go_at_call 69); (refine (hdb.out _ (hR.keep hk) (hS.keep hk)).mono ?_); rintro e w3 ⟨v, rfl, ho, hk3⟩
        have HO := Aside.mk (own_base ho hz8)
        have k3 : Keep w w3 := (by ((repeat (first | (with_reducible assumption) | ((with_reducible refine Keep.setCell ?_ ?_ _); rotate_left; focus (first | omega | (simp; done) | (simp; omega))) | (with_reducible refine Keep.alloc ?_ _) | (with_reducible refine Keep.drewN ?_ _) | (with_reducible refine Keep.drew ?_) | (with_reducible exact Keep.refl _) | refine Keep.trans ?_ (by with_reducible assumption) | exact Keep.refl _ | assumption))))
        clear ho hk3
        go_wp2
        go_ret2; exact ⟨_, rfl, HO.out, (by ((repeat (first | (with_reducible assumption) | ((with_reducible refine Keep.setCell ?_ ?_ _); rotate_left; focus (first | omega | (simp; done) | (simp; omega))) | (with_reducible refine Keep.alloc ?_ _) | (with_reducible refine Keep.drewN ?_ _) | (with_reducible refine Keep.drew ?_) | (with_reducible exact Keep.refl _) | refine Keep.trans ?_ (by with_reducible assumption) | exact Keep.refl _ | assumption))))⟩
end Go.Proofs.YtpmilcfppcmodaaDoor

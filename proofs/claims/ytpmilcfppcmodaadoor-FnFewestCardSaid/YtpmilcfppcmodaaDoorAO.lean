/- What a query drops: the functions and the law. -/
import Derived.Test.YtpmilcfppcmodaaDoorAQ
import Derived.Test.YtpmilcfppcmodaaDoorTU
import Derived.Test.YtpmilcfppcmodaaDoorMC
import Derived.Test.YtpmilcfppcmodaaDoorW2
set_option linter.unusedVariables false
set_option linter.unusedSimpArgs false
namespace Go.Proofs.YtpmilcfppcmodaaDoor
open Go.RowKit Go.Shelf
set_option maxHeartbeats 4000000
set_option maxRecDepth 20000
def aoE (l : List Cd) (q : Qy) : Int := cond (dkB l && queryB q.a q.b q.c q.d) 0 1
def aoL (l : List Cd) (q : Qy) : List Int := cond (dkB l && queryB q.a q.b q.c q.d) (ansL l [q]) []
theorem rd_qry {w : World} {g : Nat} {q : Qy} {T : TypeId} (h : Bx w g #[.int .u64 (U (q.a)), .int .u64 (U (q.b)), .int .u64 (U (q.c)), .int .u64 (U (q.d))] T) : Rd w (some ⟨g, 0, none⟩) (qys [q]) := by
  refine .inr ⟨g, 0, rfl, fun j v hj => ?_⟩
  rw [h.cell]
  simpa [qys, qyV] using hj
theorem impl_AnswerOf (A : Option Addr) (l : List Cd) (c : Nat) (q : Qy) (w : World) (hm : l.length ≤ 9223372036854775807) (hcp : l.length ≤ c) (hz : CSz l) (hR : Rd w A (cds l)) :
    Calls Tryd.prog 22 #[.slice A l.length c, .agg #[.int .u64 (U (q.a)), .int .u64 (U (q.b)), .int .u64 (U (q.c)), .int .u64 (U (q.d))]] w fun e w' => ∃ v, e = .returned (.tuple #[v, .int .i64 (aoE l q)]) ∧ w'.ownsRow w.heap.size 2 1 v (aoL l q).length (ints (aoL l q)) ∧ Keep w w' := by
  have hd := fun W h => impl_isDeck A l c W hm hcp hz h
  cases h1 : dkB l
  · have e0 : aoE l q = 1 := by simp only [aoE, h1, Bool.false_and, cond_false]
    have e1 : aoL l q = [] := by simp only [aoL, h1, Bool.false_and, cond_false]
    rw [e0, e1]
    rw [h1] at hd
    clear e0 e1
    obtain ⟨qa, qb, qc, qd⟩ := q
    go_enter Tryd.func22, Tryd.ntmps22
    (go_wp2_with fail); (go_at_call 72); (refine (hd _ (hR.keep ((Keep.refl _).alloc _))).mono ?_); rintro e w1 ⟨rfl, hk1⟩
    go_wp2
    go_ret2; exact ⟨_, rfl, World.ownsRow_nil _ _ _ _, (by ((repeat (first | (with_reducible assumption) | ((with_reducible refine Keep.setCell ?_ ?_ _); rotate_left; focus (first | omega | (simp; done) | (simp; omega))) | (with_reducible refine Keep.alloc ?_ _) | (with_reducible refine Keep.drewN ?_ _) | (with_reducible refine Keep.drew ?_) | (with_reducible exact Keep.refl _) | refine Keep.trans ?_ (by with_reducible assumption) | exact Keep.refl _ | assumption))))⟩
  · rw [h1] at hd
    have hm80 := dkB_80 h1
    have hB : Bx (w.alloc (.cells #[.int .u64 (U (q.a)), .int .u64 (U (q.b)), .int .u64 (U (q.c)), .int .u64 (U (q.d))] 35)) w.heap.size #[.int .u64 (U (q.a)), .int .u64 (U (q.b)), .int .u64 (U (q.c)), .int .u64 (U (q.d))] 35 := Bx.new _ _ _
    cases h2 : queryB q.a q.b q.c q.d
    · have e0 : aoE l q = 1 := by simp only [aoE, h1, h2, Bool.and_false, cond_false]
      have e1 : aoL l q = [] := by simp only [aoL, h1, h2, Bool.and_false, cond_false]
      rw [e0, e1]
      have hq := fun W => impl_isQuery q.a q.b q.c q.d W
      rw [h2] at hq
      clear e0 e1
      go_enter Tryd.func22, Tryd.ntmps22
      (go_wp2_with fail); (go_at_call 72); (refine (hd _ (hR.keep ((Keep.refl _).alloc _))).mono ?_); rintro e w1 ⟨rfl, hk1⟩
      replace hB := hB.keep hk1
      have hBs := hB.four
      (go_wp2_with fail); (go_at_call 79); (refine (hq _).mono ?_); rintro e w2 ⟨rfl, hk2⟩
      go_wp2
      go_ret2; exact ⟨_, rfl, World.ownsRow_nil _ _ _ _, (by ((repeat (first | (with_reducible assumption) | ((with_reducible refine Keep.setCell ?_ ?_ _); rotate_left; focus (first | omega | (simp; done) | (simp; omega))) | (with_reducible refine Keep.alloc ?_ _) | (with_reducible refine Keep.drewN ?_ _) | (with_reducible refine Keep.drew ?_) | (with_reducible exact Keep.refl _) | refine Keep.trans ?_ (by with_reducible assumption) | exact Keep.refl _ | assumption))))⟩
    · have e0 : aoE l q = 0 := by simp only [aoE, h1, h2, Bool.and_self, cond_true]
      have e1 : aoL l q = ansL l [q] := by simp only [aoL, h1, h2, Bool.and_self, cond_true]
      have hdb := Aside.mk (fun g W h k => impl_droppedBy A l c (some ⟨g, 0, none⟩) [q] 1 W (by omega) (by simp) h k)
      rw [e0, e1]
      have hq := fun W => impl_isQuery q.a q.b q.c q.d W
      rw [h2] at hq
      clear e0 e1
      generalize ansL l [q] = L at *
      go_enter Tryd.func22, Tryd.ntmps22
      (go_wp2_with fail); (go_at_call 72); (refine (hd _ (hR.keep ((Keep.refl _).alloc _))).mono ?_); rintro e w1 ⟨rfl, hk1⟩
      replace hB := hB.keep hk1
      have k1 : Keep w w1 := (by ((repeat (first | (with_reducible assumption) | ((with_reducible refine Keep.setCell ?_ ?_ _); rotate_left; focus (first | omega | (simp; done) | (simp; omega))) | (with_reducible refine Keep.alloc ?_ _) | (with_reducible refine Keep.drewN ?_ _) | (with_reducible refine Keep.drew ?_) | (with_reducible exact Keep.refl _) | refine Keep.trans ?_ (by with_reducible assumption) | exact Keep.refl _ | assumption))))
      clear hk1
      have hBs := hB.four
      (go_wp2_with fail); (go_at_call 79); (refine (hq _).mono ?_); rintro e w2 ⟨rfl, hk2⟩
      replace hB := hB.keep hk2
      have k2 : Keep w w2 := (by ((repeat (first | (with_reducible assumption) | ((with_reducible refine Keep.setCell ?_ ?_ _); rotate_left; focus (first | omega | (simp; done) | (simp; omega))) | (with_reducible refine Keep.alloc ?_ _) | (with_reducible refine Keep.drewN ?_ _) | (with_reducible refine Keep.drew ?_) | (with_reducible exact Keep.refl _) | refine Keep.trans ?_ (by with_reducible assumption) | exact Keep.refl _ | assumption))))
      clear hk2 k1 hBs
      have hBs := hB.four
      have hR2 := (hR.keep k2).keep ((Keep.refl w2).alloc (.cells #[.int .u64 (U (q.a)), .int .u64 (U (q.b)), .int .u64 (U (q.c)), .int .u64 (U (q.d))] 35))
      have hQ2 := rd_qry (Bx.new w2 #[.int .u64 (U (q.a)), .int .u64 (U (q.b)), .int .u64 (U (q.c)), .int .u64 (U (q.d))] 35)
      (go_wp2_with fail); (go_at_call 80); (refine (hdb.out _ _ hR2 hQ2).mono ?_); rintro e w3 ⟨v, rfl, ho, hk3⟩
      have HO := Aside.mk (own_base ho (show w.heap.size ≤ _ by have := k2.size; simp; omega))
      have k3 : Keep w w3 := (by ((repeat (first | (with_reducible assumption) | ((with_reducible refine Keep.setCell ?_ ?_ _); rotate_left; focus (first | omega | (simp; done) | (simp; omega))) | (with_reducible refine Keep.alloc ?_ _) | (with_reducible refine Keep.drewN ?_ _) | (with_reducible refine Keep.drew ?_) | (with_reducible exact Keep.refl _) | refine Keep.trans ?_ (by with_reducible assumption) | exact Keep.refl _ | assumption))))
      clear ho hk3 hB hBs hR2 hQ2
      go_wp2
      go_ret2; exact ⟨_, rfl, HO.out, (by ((repeat (first | (with_reducible assumption) | ((with_reducible refine Keep.setCell ?_ ?_ _); rotate_left; focus (first | omega | (simp; done) | (simp; omega))) | (with_reducible refine Keep.alloc ?_ _) | (with_reducible refine Keep.drewN ?_ _) | (with_reducible refine Keep.drew ?_) | (with_reducible exact Keep.refl _) | refine Keep.trans ?_ (by with_reducible assumption) | exact Keep.refl _ | assumption))))⟩
theorem spec_AnswerOf (A : Option Addr) (l : List Cd) (c : Nat) (q : Qy) (w : World) (hm : l.length ≤ 9223372036854775807) (hz : CSz l) (hR : Rd w A (cds l)) :
    Calls Tryd.prog 18 #[.slice A l.length c, .agg #[.int .u64 (U (q.a)), .int .u64 (U (q.b)), .int .u64 (U (q.c)), .int .u64 (U (q.d))]] w fun e w' => ∃ v, e = .returned (.tuple #[v, .int .i64 (aoE l q)]) ∧ w'.ownsRow w.heap.size 2 1 v (aoL l q).length (ints (aoL l q)) ∧ Keep w w' := by
  have hd := fun W h => spec_l02Ok A l c W hm hz h
  cases h1 : dkB l
  · have e0 : aoE l q = 1 := by simp only [aoE, h1, Bool.false_and, cond_false]
    have e1 : aoL l q = [] := by simp only [aoL, h1, Bool.false_and, cond_false]
    rw [e0, e1]
    rw [h1] at hd
    clear e0 e1
    obtain ⟨qa, qb, qc, qd⟩ := q
    go_enter Tryd.func18, Tryd.ntmps18
    (go_wp2_with fail); (go_at_call 67); (refine (hd _ (hR.keep ((Keep.refl _).alloc _))).mono ?_); rintro e w1 ⟨rfl, hk1⟩
    have hz9 := hk1.size
    go_wp2
    go_ret2; exact ⟨_, rfl, by simpa [ints] using own_empty w1 w.heap.size 2 (by simp at hz9; omega), (by ((repeat (first | (with_reducible assumption) | ((with_reducible refine Keep.setCell ?_ ?_ _); rotate_left; focus (first | omega | (simp; done) | (simp; omega))) | (with_reducible refine Keep.alloc ?_ _) | (with_reducible refine Keep.drewN ?_ _) | (with_reducible refine Keep.drew ?_) | (with_reducible exact Keep.refl _) | refine Keep.trans ?_ (by with_reducible assumption) | exact Keep.refl _ | assumption))))⟩
  · rw [h1] at hd
    have hm80 := dkB_80 h1
    have hB : Bx (w.alloc (.cells #[.int .u64 (U (q.a)), .int .u64 (U (q.b)), .int .u64 (U (q.c)), .int .u64 (U (q.d))] 35)) w.heap.size #[.int .u64 (U (q.a)), .int .u64 (U (q.b)), .int .u64 (U (q.c)), .int .u64 (U (q.d))] 35 := Bx.new _ _ _
    have hq := Aside.mk (fun W h => spec_l02Query q.a q.b q.c q.d w.heap.size 0 W h)
    cases h2 : queryB q.a q.b q.c q.d
    · have e0 : aoE l q = 1 := by simp only [aoE, h1, h2, Bool.and_false, cond_false]
      have e1 : aoL l q = [] := by simp only [aoL, h1, h2, Bool.and_false, cond_false]
      rw [e0, e1]
      rw [h2] at hq
      clear e0 e1
      go_enter Tryd.func18, Tryd.ntmps18
      (go_wp2_with fail); (go_at_call 67); (refine (hd _ (hR.keep ((Keep.refl _).alloc _))).mono ?_); rintro e w1 ⟨rfl, hk1⟩
      replace hB := hB.keep hk1
      (go_wp2_with fail); (go_at_call 68); (refine (hq.out _ (Cs.of_bx hB)).mono ?_); rintro e w2 ⟨rfl, hk2⟩
      have hz9 := hk1.size
      have hz8 := hk2.size
      go_wp2
      go_ret2; exact ⟨_, rfl, by simpa [ints] using own_empty w2 w.heap.size 2 (by simp at hz9; omega), (by ((repeat (first | (with_reducible assumption) | ((with_reducible refine Keep.setCell ?_ ?_ _); rotate_left; focus (first | omega | (simp; done) | (simp; omega))) | (with_reducible refine Keep.alloc ?_ _) | (with_reducible refine Keep.drewN ?_ _) | (with_reducible refine Keep.drew ?_) | (with_reducible exact Keep.refl _) | refine Keep.trans ?_ (by with_reducible assumption) | exact Keep.refl _ | assumption))))⟩
    · have e0 : aoE l q = 0 := by simp only [aoE, h1, h2, Bool.and_self, cond_true]
      have e1 : aoL l q = ansL l [q] := by simp only [aoL, h1, h2, Bool.and_self, cond_true]
      have hdb := Aside.mk (fun g W h k => spec_l02Answer A l c (some ⟨g, 0, none⟩) [q] 1 W (by omega) (by simp) h k)
      rw [e0, e1]
      rw [h2] at hq
      clear e0 e1
      generalize ansL l [q] = L at *
      go_enter Tryd.func18, Tryd.ntmps18
      (go_wp2_with fail); (go_at_call 67); (refine (hd _ (hR.keep ((Keep.refl _).alloc _))).mono ?_); rintro e w1 ⟨rfl, hk1⟩
      replace hB := hB.keep hk1
      have k1 : Keep w w1 := (by ((repeat (first | (with_reducible assumption) | ((with_reducible refine Keep.setCell ?_ ?_ _); rotate_left; focus (first | omega | (simp; done) | (simp; omega))) | (with_reducible refine Keep.alloc ?_ _) | (with_reducible refine Keep.drewN ?_ _) | (with_reducible refine Keep.drew ?_) | (with_reducible exact Keep.refl _) | refine Keep.trans ?_ (by with_reducible assumption) | exact Keep.refl _ | assumption))))
      clear hk1
      (go_wp2_with fail); (go_at_call 68); (refine (hq.out _ (Cs.of_bx hB)).mono ?_); rintro e w2 ⟨rfl, hk2⟩
      replace hB := hB.keep hk2
      have k2 : Keep w w2 := (by ((repeat (first | (with_reducible assumption) | ((with_reducible refine Keep.setCell ?_ ?_ _); rotate_left; focus (first | omega | (simp; done) | (simp; omega))) | (with_reducible refine Keep.alloc ?_ _) | (with_reducible refine Keep.drewN ?_ _) | (with_reducible refine Keep.drew ?_) | (with_reducible exact Keep.refl _) | refine Keep.trans ?_ (by with_reducible assumption) | exact Keep.refl _ | assumption))))
      clear hk2 k1
      have hBs := hB.four
      have hR2 := (hR.keep k2).keep ((Keep.refl w2).alloc (.cells #[.int .u64 (U (q.a)), .int .u64 (U (q.b)), .int .u64 (U (q.c)), .int .u64 (U (q.d))] 35))
      have hQ2 := rd_qry (Bx.new w2 #[.int .u64 (U (q.a)), .int .u64 (U (q.b)), .int .u64 (U (q.c)), .int .u64 (U (q.d))] 35)
      (go_wp2_with fail); (go_at_call 69); (refine (hdb.out _ _ hR2 hQ2).mono ?_); rintro e w3 ⟨v, rfl, ho, hk3⟩
      have HO := Aside.mk (own_base ho (show w.heap.size ≤ _ by have := k2.size; simp; omega))
      have k3 : Keep w w3 := (by ((repeat (first | (with_reducible assumption) | ((with_reducible refine Keep.setCell ?_ ?_ _); rotate_left; focus (first | omega | (simp; done) | (simp; omega))) | (with_reducible refine Keep.alloc ?_ _) | (with_reducible refine Keep.drewN ?_ _) | (with_reducible refine Keep.drew ?_) | (with_reducible exact Keep.refl _) | refine Keep.trans ?_ (by with_reducible assumption) | exact Keep.refl _ | assumption))))
      clear ho hk3 hB hBs hR2 hQ2
      go_wp2
      go_ret2; exact ⟨_, rfl, HO.out, (by ((repeat (first | (with_reducible assumption) | ((with_reducible refine Keep.setCell ?_ ?_ _); rotate_left; focus (first | omega | (simp; done) | (simp; omega))) | (with_reducible refine Keep.alloc ?_ _) | (with_reducible refine Keep.drewN ?_ _) | (with_reducible refine Keep.drew ?_) | (with_reducible exact Keep.refl _) | refine Keep.trans ?_ (by with_reducible assumption) | exact Keep.refl _ | assumption))))⟩
end Go.Proofs.YtpmilcfppcmodaaDoor

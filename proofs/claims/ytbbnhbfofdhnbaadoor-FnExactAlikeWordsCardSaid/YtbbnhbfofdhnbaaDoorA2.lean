/- Rows of pairs of numbers: eq, mark, held. -/
import Derived.Test.YtbbnhbfofdhnbaaDoorAK
import Derived.Test.YtbbnhbfofdhnbaaDoorS3
import Derived.Test.YtbbnhbfofdhnbaaDoorOW
set_option linter.unusedVariables false
set_option linter.unusedSimpArgs false
namespace Go.Proofs.YtbbnhbfofdhnbaaDoor
open Go.RowKit
set_option maxHeartbeats 1000000
set_option maxRecDepth 20000
theorem prs_at : ∀ (l : List (Int × Int)) (i : Nat) (h : i < l.length), (prs l)[i * 2]? = some (.int .i64 l[i].1) ∧ (prs l)[i * 2 + 1]? = some (.int .i64 l[i].2)
  | x :: l, 0, _ => ⟨rfl, rfl⟩
  | x :: l, i + 1, h => by
    have ih := prs_at l i (by simpa using h)
    have e : prs (x :: l) = [.int .i64 x.1, .int .i64 x.2] ++ prs l := rfl
    rw [e]
    constructor
    · rw [List.getElem?_append_right (by simp; omega), show (i + 1) * 2 - [Value.int .i64 x.1, .int .i64 x.2].length = i * 2 by simp; omega]; exact ih.1
    · rw [List.getElem?_append_right (by simp; omega), show (i + 1) * 2 + 1 - [Value.int .i64 x.1, .int .i64 x.2].length = i * 2 + 1 by simp; omega]; exact ih.2
theorem own_rdp {w : World} {B : Nat} {T : TypeId} {A : Option Addr} {n c : Nat} {xs : List Value} (h : w.ownsRow B T 2 (.slice A n c) n xs) : Rd w A xs := (Own.new h).rd
theorem laws_eqInt64A2 (x y : Int) (w : World) :
    Calls Tryd.prog 56 #[.agg #[.int .i64 x, .int .i64 y], .agg #[.int .i64 x, .int .i64 y]] w fun e w' => e = .returned (.bool true) ∧ Keep w w' := by
  go_enter Tryd.func56, Tryd.ntmps56
  go_wp2_with fail
  refine wp_gen (fun W => Bx W w.heap.size #[.int .i64 x, .int .i64 y] 70 ∧ Bx W (w.heap.size + 1) #[.int .i64 x, .int .i64 y] 70 ∧ Keep w W) ⟨(Bx.new _ _ _).alloc _, Bx.new1 _ _ _ _, (by ((repeat (first | (with_reducible assumption) | ((with_reducible refine Keep.setCell ?_ ?_ _); rotate_left; focus (first | omega | (simp; done) | (simp; omega))) | (with_reducible refine Keep.alloc ?_ _) | (with_reducible refine Keep.drewN ?_ _) | (with_reducible refine Keep.drew ?_) | (with_reducible exact Keep.refl _) | refine Keep.trans ?_ (by with_reducible assumption) | exact Keep.refl _ | assumption))))⟩ ?_
  rintro W ⟨hA, hB, hW⟩
  have hAs := hA.two
  have hBs := hB.two
  refine wp_loop_rounds 3 ?_
  rw [rounds_succ]
  go_wp2
  go_quiet (fail)
  go_wp2_with fail
  rw [rounds_succ]
  go_wp2
  go_quiet (fail)
  go_wp2_with fail
  rw [rounds_succ]
  go_wp2
  go_ret; exact ⟨rfl, (by ((repeat (first | (with_reducible assumption) | ((with_reducible refine Keep.setCell ?_ ?_ _); rotate_left; focus (first | omega | (simp; done) | (simp; omega))) | (with_reducible refine Keep.alloc ?_ _) | (with_reducible refine Keep.drewN ?_ _) | (with_reducible refine Keep.drew ?_) | (with_reducible exact Keep.refl _) | refine Keep.trans ?_ (by with_reducible assumption) | exact Keep.refl _ | assumption))))⟩
theorem laws_eqInt64A2S (A B : Option Addr) (l : List (Int × Int)) (c d : Nat) (w : World) (hn : l.length ≤ 1048576) (hR : Rd w A (prs l)) (hS : Rd w B (prs l)) :
    Calls Tryd.prog 23 #[.slice A l.length c, .slice B l.length d] w fun e w' => e = .returned (.bool true) ∧ Keep w w' := by
  go_enter Tryd.func23, Tryd.ntmps23
  go_wp2_with fail
  go_loopg [5] l.length (fun k s wr => ∃ i : Nat, i + k = l.length ∧ s = .int .i64 i ∧ Keep w wr)
  case atStart => exact ⟨0, by omega, rfl, (by ((repeat (first | (with_reducible assumption) | ((with_reducible refine Keep.setCell ?_ ?_ _); rotate_left; focus (first | omega | (simp; done) | (simp; omega))) | (with_reducible refine Keep.alloc ?_ _) | (with_reducible refine Keep.drewN ?_ _) | (with_reducible refine Keep.drew ?_) | (with_reducible exact Keep.refl _) | refine Keep.trans ?_ (by with_reducible assumption) | exact Keep.refl _ | assumption))))⟩
  case round =>
    obtain ⟨i, hi, rfl, hk⟩ := hrel
    by_cases hlt : i < l.length
    · obtain ⟨bb, o, rfl, hc⟩ := (hR.keep hk).at (k := i) (by rw [prs_len]; omega)
      obtain ⟨b2, o2, rfl, hc2⟩ := (hS.keep hk).at (k := i) (by rw [prs_len]; omega)
      obtain ⟨r1, r2⟩ := prs_at l i hlt
      have p1 := hc _ _ r1
      have p2 := hc _ _ r2
      have q1 := hc2 _ _ r1
      have q2 := hc2 _ _ r2
      rw [← Nat.add_assoc] at p2 q2
      clear hc hc2 r1 r2
      generalize l[i] = x at *
      obtain ⟨x, y⟩ := x
      simp only at p1 p2 q1 q2
      go_wp2_with fail
      refine wp_region_keep (by kernel_rfl) (by kernel_rfl) ?_
      repeat
        first
          | (apply QuietL.run
             focus go_simp
             focus
               intro w2 hk
               have p1' := hk.cell p1
               have p2' := hk.cell p2
               have q1' := hk.cell q1
               have q2' := hk.cell q2
               apply QAt.mk
               go_simp
               first
                 | done
                 | exact rfl
                 | (go_at_call 56; exact quiet_call hk (laws_eqInt64A2 _ _ _))
             simp only [Act.put, List.setIfInBounds_toArray, List.set_cons_succ, List.set_cons_zero])
          | (apply QuietL.skip
             focus go_simp
             simp only [Act.put, List.setIfInBounds_toArray, List.set_cons_succ, List.set_cons_zero])
      apply QuietL.nil
      intro w2 hk
      have p1' := hk.cell p1
      have p2' := hk.cell p2
      have q1' := hk.cell q1
      have q2' := hk.cell q2
      go_wp2
      go_roundg (l.length - (i + 1))
      case measure => omega
      case rel => exact ⟨i + 1, by omega, by go_num, (by ((repeat (first | (with_reducible assumption) | ((with_reducible refine Keep.setCell ?_ ?_ _); rotate_left; focus (first | omega | (simp; done) | (simp; omega))) | (with_reducible refine Keep.alloc ?_ _) | (with_reducible refine Keep.drewN ?_ _) | (with_reducible refine Keep.drew ?_) | (with_reducible exact Keep.refl _) | refine Keep.trans ?_ (by with_reducible assumption) | exact Keep.refl _ | assumption))))⟩
    · have e2 : i = l.length := by omega
      subst e2
      go_wp2
      go_ret; exact ⟨rfl, (by ((repeat (first | (with_reducible assumption) | ((with_reducible refine Keep.setCell ?_ ?_ _); rotate_left; focus (first | omega | (simp; done) | (simp; omega))) | (with_reducible refine Keep.alloc ?_ _) | (with_reducible refine Keep.drewN ?_ _) | (with_reducible refine Keep.drew ?_) | (with_reducible exact Keep.refl _) | refine Keep.trans ?_ (by with_reducible assumption) | exact Keep.refl _ | assumption))))⟩
theorem drop_two {xs : List Value} {j : Nat} (h : j + 1 < xs.length) : ∃ a b, xs.drop j = a :: b :: xs.drop (j + 2) := by
  rw [List.drop_eq_getElem_cons (by omega), List.drop_eq_getElem_cons (by omega)]
  exact ⟨_, _, rfl⟩
theorem marks2_set (k : Int) (i : Nat) (xs : List Value) (h : i * 2 + 1 < xs.length) :
    ((marksV k (i * 2) ++ xs.drop (i * 2)).set (i * 2) (.int .i64 (k + (i * 2 : Nat)))).set (i * 2 + 1) (.int .i64 (k + (i * 2 : Nat) + 1)) = marksV k ((i + 1) * 2) ++ xs.drop ((i + 1) * 2) := by
  rw [marks_set k (i * 2) xs (by omega), show k + ((i * 2 : Nat) : Int) + 1 = k + ((i * 2 + 1 : Nat) : Int) by omega, marks_set k (i * 2 + 1) xs (by omega), show (i + 1) * 2 = i * 2 + 1 + 1 by omega]
theorem marks2_some (k : Int) (i : Nat) (xs : List Value) (h : i * 2 + 1 < xs.length) : ∃ a b, (marksV k (i * 2) ++ xs.drop (i * 2))[i * 2]? = some a ∧ (marksV k (i * 2) ++ xs.drop (i * 2))[i * 2 + 1]? = some b := by
  obtain ⟨a, b, e⟩ := drop_two h
  have l := marksV_len k (i * 2)
  rw [e]
  refine ⟨a, b, ?_, ?_⟩
  · rw [List.getElem?_append_right (by omega), l, show i * 2 - i * 2 = 0 by omega]; rfl
  · rw [List.getElem?_append_right (by omega), l, show i * 2 + 1 - i * 2 = 1 by omega]; rfl
theorem own_head2 {w : World} {base sz : Nat} {e : TypeId} {A : Option Addr} {n c : Nat} {xs : List Value} (h : w.ownsRow base e sz (.slice A n c) n xs) (hn : 0 < n) : ∃ g, A = some ⟨g, 0, none⟩ ∧ base ≤ g := by
  rcases h.2 with ⟨h1, h2⟩ | ⟨g, cap, cur, h1, h2, _⟩
  · omega
  · simp only [Value.slice.injEq] at h1
    exact ⟨g, h1.1, h2⟩
theorem laws_markInt64A2S (A : Option Addr) (n c base : Nat) (xs : List Value) (k : Int) (w : World) (hn : n ≤ 1048576) (hk0 : 0 ≤ k) (hk1 : k ≤ 1048576) (hown : w.ownsRow base 70 2 (.slice A n c) n xs) :
    Calls Tryd.prog 24 #[.slice A n c, .int .i64 k] w fun e w' => e = .returned (.int .i64 (k + ((n * 2 : Nat) : Int))) ∧ w'.ownsRow base 70 2 (.slice A n c) n (marksV k (n * 2)) ∧ w.grownBy w' (Value.ownBlock (.slice A n c)) := by
  have hlen : xs.length = n * 2 := hown.1
  go_enter Tryd.func24, Tryd.ntmps24
  go_wp2_with fail
  go_loopg [1, 5] n (fun m s1 s5 wr => ∃ i : Nat, i + m = n ∧ s1 = .int .i64 (k + ((i * 2 : Nat) : Int)) ∧ s5 = .int .i64 i ∧ wr.ownsRow base 70 2 (.slice A n c) n (marksV k (i * 2) ++ xs.drop (i * 2)) ∧ w.grownBy wr (Value.ownBlock (.slice A n c)))
  case atStart => exact ⟨0, by omega, by simp, rfl, by simpa [marksV] using hown, grown_refl _ _⟩
  case round =>
    obtain ⟨i, hi, rfl, rfl, hown, hg⟩ := hrel
    by_cases hlt : i < n
    · obtain ⟨g, rfl, hgb⟩ := own_head2 hown (by omega)
      obtain ⟨a, b, q1, q2⟩ := marks2_some k i xs (by omega)
      have HS := Aside.mk (marks2_set k i xs (by omega))
      have HO := Aside.mk hown
      have HG := Aside.mk hg
      obtain ⟨kk, hkk⟩ : ∃ kk, k + ((i * 2 : Nat) : Int) = kk := ⟨_, rfl⟩
      have hkb : 0 ≤ kk ∧ kk ≤ 4000000 := by omega
      rw [hkk] at HS
      simp only [hkk]
      have hcA := (hown.cellAt (i * 2) (by omega)).trans q1
      have hcB := (hown.cellAt (i * 2 + 1) (by omega)).trans q2
      have hfA := hown.frozenAt (i * 2)
      have hfB := hown.frozenAt (i * 2 + 1)
      clear hown hg q1 q2
      have HK := Aside.mk hkk
      clear hkk
      go_wp2_with fail
      refine wp_loop_rounds 3 ?_
      rw [rounds_succ]
      go_wp2_with fail
      rw [rounds_succ]
      go_wp2_with fail
      rw [rounds_succ]
      go_wp2_with fail
      have s1 := HO.out.stored (i * 2) (.int .i64 kk)
      have s2 := s1.1.stored (i * 2 + 1) (.int .i64 (kk + 1))
      have hst := s2.1
      rw [HS.out] at hst
      have HO2 := Aside.mk hst
      have HG2 := Aside.mk (grown_trans HG.out (grown_trans s1.2 s2.2))
      clear hst s1 s2 HO HG HS
      go_roundg (n - (i + 1))
      case measure => omega
      case rel => exact ⟨i + 1, by omega, by rw [show k + (((i + 1) * 2 : Nat) : Int) = kk + 1 + 1 by have := HK.out; omega], by go_num, HO2.out, HG2.out⟩
    · have e2 : i = n := by omega
      subst e2
      have HO := Aside.mk hown
      have HG := Aside.mk hg
      clear hown hg
      go_wp2
      go_ret; exact ⟨rfl, by have := HO.out; rw [List.drop_of_length_le (by omega), List.append_nil] at this; exact this, HG.out⟩
theorem laws_heldInt64A2S (A : Option Addr) (n c : Nat) (k : Int) (w : World) (hn : n ≤ 1048576) (hk0 : 0 ≤ k) (hk1 : k ≤ 1048576) (hR : Rd w A (marksV k (n * 2))) :
    Calls Tryd.prog 25 #[.slice A n c, .int .i64 k] w fun e w' => e = .returned (.int .i64 (k + ((n * 2 : Nat) : Int))) ∧ Keep w w' := by
  go_enter Tryd.func25, Tryd.ntmps25
  go_wp2_with fail
  go_loopg [1, 5] n (fun m s1 s5 wr => ∃ i : Nat, i + m = n ∧ s1 = .int .i64 (k + ((i * 2 : Nat) : Int)) ∧ s5 = .int .i64 i ∧ Keep w wr)
  case atStart => exact ⟨0, by omega, by simp, rfl, (by ((repeat (first | (with_reducible assumption) | ((with_reducible refine Keep.setCell ?_ ?_ _); rotate_left; focus (first | omega | (simp; done) | (simp; omega))) | (with_reducible refine Keep.alloc ?_ _) | (with_reducible refine Keep.drewN ?_ _) | (with_reducible refine Keep.drew ?_) | (with_reducible exact Keep.refl _) | refine Keep.trans ?_ (by with_reducible assumption) | exact Keep.refl _ | assumption))))⟩
  case round =>
    obtain ⟨i, hi, rfl, rfl, hk⟩ := hrel
    by_cases hlt : i < n
    · obtain ⟨bb, o, rfl, hc⟩ := (hR.keep hk).at (k := i) (by rw [marksV_len]; omega)
      have p1 := hc _ _ (marksV_at k (n * 2) (i * 2) (by omega))
      have p2 := hc _ _ (marksV_at k (n * 2) (i * 2 + 1) (by omega))
      rw [← Nat.add_assoc] at p2
      rw [show k + ((i * 2 + 1 : Nat) : Int) = k + ((i * 2 : Nat) : Int) + 1 by omega] at p2
      obtain ⟨kk, hkk⟩ : ∃ kk, k + ((i * 2 : Nat) : Int) = kk := ⟨_, rfl⟩
      have hkb : 0 ≤ kk ∧ kk ≤ 4000000 := by omega
      rw [hkk] at p1 p2
      simp only [hkk]
      have HK := Aside.mk hkk
      clear hkk hc
      go_wp2_with fail
      refine wp_loop_rounds 3 ?_
      rw [rounds_succ]
      go_wp2_with fail
      rw [rounds_succ]
      go_wp2_with fail
      rw [rounds_succ]
      go_wp2_with fail
      go_roundg (n - (i + 1))
      case measure => omega
      case rel => exact ⟨i + 1, by omega, by rw [show k + (((i + 1) * 2 : Nat) : Int) = kk + 1 + 1 by have := HK.out; omega], by go_num, (by ((repeat (first | (with_reducible assumption) | ((with_reducible refine Keep.setCell ?_ ?_ _); rotate_left; focus (first | omega | (simp; done) | (simp; omega))) | (with_reducible refine Keep.alloc ?_ _) | (with_reducible refine Keep.drewN ?_ _) | (with_reducible refine Keep.drew ?_) | (with_reducible exact Keep.refl _) | refine Keep.trans ?_ (by with_reducible assumption) | exact Keep.refl _ | assumption))))⟩
    · have e2 : i = n := by omega
      subst e2
      go_wp2
      go_ret; exact ⟨rfl, (by ((repeat (first | (with_reducible assumption) | ((with_reducible refine Keep.setCell ?_ ?_ _); rotate_left; focus (first | omega | (simp; done) | (simp; omega))) | (with_reducible refine Keep.alloc ?_ _) | (with_reducible refine Keep.drewN ?_ _) | (with_reducible refine Keep.drew ?_) | (with_reducible exact Keep.refl _) | refine Keep.trans ?_ (by with_reducible assumption) | exact Keep.refl _ | assumption))))⟩
end Go.Proofs.YtbbnhbfofdhnbaaDoor

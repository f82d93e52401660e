/- Queries in rows, for the laws: sizes, marks. -/
import Derived.Test.YtpmilcfppcmodaaDoorFS
import Derived.Test.YtpmilcfppcmodaaDoorMC
set_option linter.unusedVariables false
set_option linter.unusedSimpArgs false
namespace Go.Proofs.YtpmilcfppcmodaaDoor
open Go.RowKit
set_option maxHeartbeats 1000000
set_option maxRecDepth 20000
theorem laws_szQueryS (A : Option Addr) (n c : Nat) (left : Int) (w : World) (h0 : 0 ≤ left ∧ left ≤ 1048576) (hm : n ≤ 9223372036854775807) :
    Calls Tryd.prog 53 #[.slice A n c, .int .i64 left] w fun e w' => e = .returned (.int .i64 (if left < n then -1 else left - n)) ∧ Keep w w' := by
  have e0 : IntKind.i64.wrap (left - n) = left - n := wrapI64 ⟨by omega, by omega⟩
  by_cases h : left < n
  · rw [if_pos h]
    have h' : left - n < 0 := by omega
    go_enter Tryd.func53, Tryd.ntmps53
    go_wp2
    go_ret; exact ⟨rfl, (by ((repeat (first | (with_reducible assumption) | ((with_reducible refine Keep.setCell ?_ ?_ _); rotate_left; focus (first | omega | (simp; done) | (simp; omega))) | (with_reducible refine Keep.alloc ?_ _) | (with_reducible refine Keep.drewN ?_ _) | (with_reducible refine Keep.drew ?_) | (with_reducible exact Keep.refl _) | refine Keep.trans ?_ (by with_reducible assumption) | exact Keep.refl _ | assumption))))⟩
  · rw [if_neg h]
    have h' : ¬ left - n < 0 := by omega
    go_enter Tryd.func53, Tryd.ntmps53
    go_wp2
    go_ret; exact ⟨rfl, (by ((repeat (first | (with_reducible assumption) | ((with_reducible refine Keep.setCell ?_ ?_ _); rotate_left; focus (first | omega | (simp; done) | (simp; omega))) | (with_reducible refine Keep.alloc ?_ _) | (with_reducible refine Keep.drewN ?_ _) | (with_reducible refine Keep.drew ?_) | (with_reducible exact Keep.refl _) | refine Keep.trans ?_ (by with_reducible assumption) | exact Keep.refl _ | assumption))))⟩
def mqV (k : Nat) : List Value := [.int .u64 (k : Int), .int .u64 ((k : Int) + 1), .int .u64 ((k : Int) + 1 + 1), .int .u64 ((k : Int) + 1 + 1 + 1)]
/-- The cells of so many marked queries. -/
def marksQ (k : Nat) : Nat → List Value
  | 0 => []
  | n + 1 => marksQ k n ++ mqV (k + 4 * n)
theorem marksQ_len (k : Nat) : ∀ n, (marksQ k n).length = n * 4
  | 0 => rfl
  | n + 1 => by rw [marksQ, List.length_append, marksQ_len k n]; simp [mqV]; omega
theorem drop_four {xs : List Value} {j : Nat} (h : j + 3 < xs.length) : ∃ a b c d, xs.drop j = a :: b :: c :: d :: xs.drop (j + 4) := by
  rw [List.drop_eq_getElem_cons (by omega), List.drop_eq_getElem_cons (by omega), List.drop_eq_getElem_cons (by omega), List.drop_eq_getElem_cons (by omega)]
  exact ⟨_, _, _, _, rfl⟩
theorem marksQ_set (k i : Nat) (xs : List Value) (h : i * 4 + 3 < xs.length) :
    ((((marksQ k i ++ xs.drop (i * 4)).set (i * 4) (.int .u64 ((k + 4 * i : Nat) : Int))).set (i * 4 + 1) (.int .u64 (((k + 4 * i : Nat) : Int) + 1))).set (i * 4 + 2) (.int .u64 (((k + 4 * i : Nat) : Int) + 1 + 1))).set (i * 4 + 3) (.int .u64 (((k + 4 * i : Nat) : Int) + 1 + 1 + 1)) = marksQ k (i + 1) ++ xs.drop ((i + 1) * 4) := by
  obtain ⟨a, b, c, d, e⟩ := drop_four h
  have l := marksQ_len k i
  rw [e, List.set_append_right _ _ (by omega), l, List.set_append_right _ _ (by omega), l, List.set_append_right _ _ (by omega), l, List.set_append_right _ _ (by omega), l, show i * 4 - i * 4 = 0 by omega, show i * 4 + 1 - i * 4 = 1 by omega, show i * 4 + 2 - i * 4 = 2 by omega, show i * 4 + 3 - i * 4 = 3 by omega, marksQ, List.append_assoc, show (i + 1) * 4 = i * 4 + 4 by omega]
  rfl
theorem marksQ_some (k i : Nat) (xs : List Value) (h : i * 4 + 3 < xs.length) : ∃ a b c d, (marksQ k i ++ xs.drop (i * 4))[i * 4]? = some a ∧ (marksQ k i ++ xs.drop (i * 4))[i * 4 + 1]? = some b ∧ (marksQ k i ++ xs.drop (i * 4))[i * 4 + 2]? = some c ∧ (marksQ k i ++ xs.drop (i * 4))[i * 4 + 3]? = some d := by
  obtain ⟨a, b, c, d, e⟩ := drop_four h
  have l := marksQ_len k i
  rw [e]
  refine ⟨a, b, c, d, ?_, ?_, ?_, ?_⟩
  · rw [List.getElem?_append_right (by omega), l, show i * 4 - i * 4 = 0 by omega]; rfl
  · rw [List.getElem?_append_right (by omega), l, show i * 4 + 1 - i * 4 = 1 by omega]; rfl
  · rw [List.getElem?_append_right (by omega), l, show i * 4 + 2 - i * 4 = 2 by omega]; rfl
  · rw [List.getElem?_append_right (by omega), l, show i * 4 + 3 - i * 4 = 3 by omega]; rfl
theorem laws_markQueryS (A : Option Addr) (n c base : Nat) (xs : List Value) (k : Nat) (w : World) (hn : n ≤ 1048576) (hk0 : 0 < k) (hk1 : k ≤ 10000000) (hown : w.ownsRow base 35 4 (.slice A n c) n xs) :
    Calls Tryd.prog 58 #[.slice A n c, .int .i64 ((k : Int))] w fun e w' => e = .returned (.int .i64 (((k + 4 * n : Nat) : Int))) ∧ w.grownBy w' (Value.ownBlock (.slice A n c)) := by
  have hlen : xs.length = n * 4 := hown.1
  go_enter Tryd.func58, Tryd.ntmps58
  go_wp2_with fail
  go_loopg [1, 5] n (fun m s1 s5 wr => ∃ i : Nat, i + m = n ∧ s1 = .int .i64 (((k + 4 * i : Nat) : Int)) ∧ s5 = .int .i64 i ∧ wr.ownsRow base 35 4 (.slice A n c) n (marksQ k i ++ xs.drop (i * 4)) ∧ w.grownBy wr (Value.ownBlock (.slice A n c)))
  case atStart => exact ⟨0, by omega, by simp, rfl, by simpa [marksQ] using hown, grown_refl _ _⟩
  case round =>
    obtain ⟨i, hi, rfl, rfl, hown, hg⟩ := hrel
    by_cases hlt : i < n
    · obtain ⟨g, rfl, hgb⟩ := own_headN hown (by omega)
      obtain ⟨a, b, cc, dd, q1, q2, q3, q4⟩ := marksQ_some k i xs (by omega)
      have HS := Aside.mk (marksQ_set k i xs (by omega))
      have hcA := (hown.cellAt (i * 4) (by omega)).trans q1
      have hcB := (hown.cellAt (i * 4 + 1) (by omega)).trans q2
      have hcC := (hown.cellAt (i * 4 + 2) (by omega)).trans q3
      have hcD := (hown.cellAt (i * 4 + 3) (by omega)).trans q4
      have hfA := hown.frozenAt (i * 4)
      have hfB := hown.frozenAt (i * 4 + 1)
      have hfC := hown.frozenAt (i * 4 + 2)
      have hfD := hown.frozenAt (i * 4 + 3)
      have HO1 := Aside.mk hown
      have HG1 := Aside.mk hg
      clear hown hg q1 q2 q3 q4
      obtain ⟨kk, hkk⟩ : ∃ kk, k + 4 * i = kk := ⟨_, rfl⟩
      rw [hkk] at HS
      simp only [hkk]
      go_wp2_with fail
      refine wp_loop_rounds 3 ?_
      rw [rounds_succ]
      go_wp2_with fail
      rw [rounds_succ]
      go_wp2_with fail
      rw [rounds_succ]
      go_wp2_with fail
      refine wp_loop_rounds 3 ?_
      rw [rounds_succ]
      go_wp2_with fail
      rw [rounds_succ]
      go_wp2_with fail
      rw [rounds_succ]
      go_wp2_with fail
      have s1 := HO1.out.stored (i * 4) (.int .u64 (kk : Int))
      have s2 := s1.1.stored (i * 4 + 1) (.int .u64 ((kk : Int) + 1))
      have s3 := s2.1.stored (i * 4 + 2) (.int .u64 ((kk : Int) + 1 + 1))
      have s4 := s3.1.stored (i * 4 + 3) (.int .u64 ((kk : Int) + 1 + 1 + 1))
      have hst := s4.1
      rw [HS.out] at hst
      have HO2 := Aside.mk hst
      have HG2 := Aside.mk (grown_trans HG1.out (grown_trans s1.2 (grown_trans s2.2 (grown_trans s3.2 s4.2))))
      clear hst s1 s2 s3 s4 HO1 HG1 HS
      go_roundg (n - (i + 1))
      case measure => omega
      case rel => exact ⟨i + 1, by omega, by rw [show ((k + 4 * (i + 1) : Nat) : Int) = (kk : Int) + 1 + 1 + 1 + 1 by omega], by go_num, HO2.out, HG2.out⟩
    · have e2 : i = n := by omega
      subst e2
      have HG := Aside.mk hg
      clear hown hg
      go_wp2
      go_ret; exact ⟨rfl, HG.out⟩
end Go.Proofs.YtpmilcfppcmodaaDoor

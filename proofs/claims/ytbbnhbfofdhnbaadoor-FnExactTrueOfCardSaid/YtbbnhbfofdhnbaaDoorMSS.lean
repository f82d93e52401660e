/- Words that are marked: the walk. -/
import Derived.Test.YtbbnhbfofdhnbaaDoorMT
import Derived.Test.YtbbnhbfofdhnbaaDoorX5
import Derived.Test.YtbbnhbfofdhnbaaDoorS3
set_option linter.unusedVariables false
set_option linter.unusedSimpArgs false
namespace Go.Proofs.YtbbnhbfofdhnbaaDoor
open Go.RowKit
set_option maxHeartbeats 1000000
set_option maxRecDepth 20000
def marksS (k : Nat) (n : Nat) : List Value := (List.range n).map fun (i : Nat) => Value.string (mkT (k + i))
theorem marksS_len (k n : Nat) : (marksS k n).length = n := by simp [marksS]
theorem marksS_succ (k n : Nat) : marksS k (n + 1) = marksS k n ++ [.string (mkT (k + n))] := by simp [marksS, List.range_succ]
theorem marksS_set (k i : Nat) (xs : List Value) (h : i < xs.length) : (marksS k i ++ xs.drop i).set i (.string (mkT (k + i))) = marksS k (i + 1) ++ xs.drop (i + 1) := by
  rw [List.set_append_right _ _ (by rw [marksS_len]; omega), marksS_len, Nat.sub_self, List.drop_eq_getElem_cons h, List.set_cons_zero, marksS_succ]
  simp
theorem laws_markStringS (A : Option Addr) (n c base : Nat) (xs : List Value) (k : Nat) (w : World) (hn : n ≤ 1048576) (hk0 : 0 < k) (hk1 : k ≤ 10000000) (hown : w.ownsRow base 9 1 (.slice A n c) n xs) :
    Calls Tryd.prog 17 #[.slice A n c, .int .i64 ((k : Int))] w fun e w' => e = .returned (.int .i64 (((k + n : Nat) : Int))) ∧ w.grownBy w' (Value.ownBlock (.slice A n c)) := by
  have hlen : xs.length = n := by have := hown.1; omega
  go_enter Tryd.func17, Tryd.ntmps17
  go_wp2_with fail
  go_loopg [1, 5] n (fun m s1 s2 wr => ∃ i : Nat, i + m = n ∧ s1 = .int .i64 (((k + i : Nat) : Int)) ∧ s2 = .int .i64 i ∧ wr.ownsRow base 9 1 (.slice A n c) n (marksS k i ++ xs.drop i) ∧ w.grownBy wr (Value.ownBlock (.slice A n c)))
  case atStart => exact ⟨0, by omega, by simp, rfl, by simpa [marksS] using hown, grown_refl _ _⟩
  case round =>
    obtain ⟨i, hi, rfl, rfl, hown, hg⟩ := hrel
    by_cases hlt : i < n
    · obtain ⟨g, rfl, hgb⟩ := own_head hown (by omega)
      have hcA0 : (marksS k i ++ xs.drop i)[i]? = some xs[i] := by
        rw [List.getElem?_append_right (by rw [marksS_len]; omega), marksS_len, Nat.sub_self]
        simp [List.getElem?_drop, hlen, hlt]
      have HO := Aside.mk hown
      have HS := Aside.mk (marksS_set k i xs (by omega))
      have HG := Aside.mk hg
      have HC := Aside.mk hcA0
      clear hown hg hcA0
      generalize hx : xs[i] = x at *
      clear hx
      obtain ⟨kk, hkk⟩ : ∃ kk, k + i = kk := ⟨_, rfl⟩
      rw [hkk] at HS
      simp only [hkk]
      (go_wp2_with fail); (go_at_call 51); (refine (laws_markText kk _ (by omega) (by omega)).mono ?_); rintro e w1 ⟨rfl, hk1⟩
      have hown := own_keep HO.out hk1
      have hcA := (hown.cellAt i (by omega)).trans HC.out
      have hfA := hown.frozenAt i
      have HO1 := Aside.mk hown
      have HG1 := Aside.mk (grown_trans HG.out (grown_keep hk1 _))
      clear hown HO HG hk1 HC
      go_wp2
      have hst := HO1.out.stored i (.string (mkT kk))
      rw [HS.out] at hst
      have HO2 := Aside.mk hst
      clear hst
      go_roundg (n - (i + 1))
      case measure => omega
      case rel => exact ⟨i + 1, by omega, by rw [show ((k + (i + 1) : Nat) : Int) = (kk : Int) + 1 by omega], by go_num, HO2.out.1, grown_trans HG1.out HO2.out.2⟩
    · have e2 : i = n := by omega
      subst e2
      have HG := Aside.mk hg
      clear hown hg
      go_wp2
      go_ret; exact ⟨rfl, HG.out⟩
end Go.Proofs.YtbbnhbfofdhnbaaDoor

/- Marks of numbers, from a greater number on. -/
import Derived.Test.YtbbnhbfofdhnbaaDoorS3
set_option linter.unusedVariables false
set_option linter.unusedSimpArgs false
namespace Go.Proofs.YtbbnhbfofdhnbaaDoor
open Go.RowKit
set_option maxHeartbeats 1000000
set_option maxRecDepth 20000
theorem laws_markInt64B (A : Option Addr) (n c base : Nat) (xs : List Value) (k : Int) (w : World) (hn : n ≤ 1048576) (hk0 : 0 ≤ k) (hk1 : k ≤ 100000000) (hown : w.ownsRow base 2 1 (.slice A n c) n xs) :
    Calls Tryd.prog 18 #[.slice A n c, .int .i64 k] w fun e w' => e = .returned (.int .i64 (k + n)) ∧ w'.ownsRow base 2 1 (.slice A n c) n (marksV k n) ∧ w.grownBy w' (Value.ownBlock (.slice A n c)) := by
  have hlen : xs.length = n := by have := hown.1; omega
  go_enter Tryd.func18, Tryd.ntmps18
  go_wp2_with fail
  go_loopg [1, 5] n (fun m s1 s2 wr => ∃ i : Nat, i + m = n ∧ s1 = .int .i64 (k + i) ∧ s2 = .int .i64 i ∧ wr.ownsRow base 2 1 (.slice A n c) n (marksV k i ++ xs.drop i) ∧ w.grownBy wr (Value.ownBlock (.slice A n c)))
  case atStart => exact ⟨0, by omega, by simp, rfl, by simpa [marksV] using hown, grown_refl _ _⟩
  case round =>
    obtain ⟨i, hi, rfl, rfl, hown, hg⟩ := hrel
    by_cases hlt : i < n
    · obtain ⟨g, rfl, hgb⟩ := own_head hown (by omega)
      have hcA : wr.cell? ⟨g, i, none⟩ = some xs[i] := by
        rw [hown.cellAt i (by omega), List.getElem?_append_right (by rw [marksV_len]; omega), marksV_len, Nat.sub_self]
        simp [List.getElem?_drop, hlen, hlt]
      have hfA := hown.frozenAt i
      have HO := Aside.mk hown
      have HS := Aside.mk (marks_set k i xs (by omega))
      have HG := Aside.mk hg
      clear hown hg
      generalize hx : xs[i] = x at *
      clear hx
      go_wp2
      have hst := HO.out.stored i (.int .i64 (k + i))
      rw [HS.out] at hst
      have HO2 := Aside.mk hst
      clear hst
      go_roundg (n - (i + 1))
      case measure => omega
      case rel => exact ⟨i + 1, by omega, by go_num, by go_num, HO2.out.1, grown_trans HG.out HO2.out.2⟩
    · have e2 : i = n := by omega
      subst e2
      have HO := Aside.mk hown
      have HG := Aside.mk hg
      clear hown hg
      go_wp2
      go_ret; exact ⟨rfl, by have := HO.out; rw [List.drop_of_length_le (by omega), List.append_nil] at this; exact this, HG.out⟩
end Go.Proofs.YtbbnhbfofdhnbaaDoor

/- A source of draws: a pick. -/
import Derived.Test.YtbbnhbfofdhnbaaG1
set_option linter.unusedVariables false
set_option linter.unusedSimpArgs false
namespace Go.Proofs.Ytbbnhbfofdhnbaa
open Go.RowKit
set_option maxHeartbeats 1000000
set_option maxRecDepth 20000
theorem src_pick (n : Int) (l : List UInt8) (g : Nat) (S : Option Addr) (c k : Nat) (w : World) (hn2 : 2 ≤ n ∧ n ≤ 200) (hk : k ≤ 1000000) (hn : l.length ≤ 9223372036854775807) (hR : Rd w S (bys l)) (hne : l ≠ [] → ∀ b o, S = some ⟨b, o, none⟩ → b ≠ g) (hS : Src w g S l.length c k) :
    Calls Try.prog 34 #[.pointer (some ⟨g, 0, none⟩), .int .i64 n] w fun e w' => ∃ r : Int, e = .returned (.int .i64 r) ∧ 0 ≤ r ∧ r < n ∧ w.grownBy w' (some g) ∧ Src w' g S l.length c (k + 1) := by
  obtain ⟨n2, n3⟩ := hn2
  have h := src_next l g S c k w hk hn hR hne hS
  have hnz : ¬ n = 0 := by omega
  go_enter Try.func34, Try.ntmps34
  (go_wp2_with fail); (go_at_call 37); refine h.mono ?_; rintro e w1 ⟨r, rfl, h0, h1, hg, hS1⟩
  have hm1 := Int.emod_nonneg r (show n ≠ 0 by omega)
  have hm2 := Int.emod_lt_of_pos r (show 0 < n by omega)
  have ht : r.tmod n = r % n := Int.tmod_eq_emod_of_nonneg h0
  have HS := Aside.mk hS1
  clear hS1 hS hR hne
  go_wp2
  go_ret; exact ⟨_, rfl, hm1, hm2, hg, HS.out⟩
theorem src_from (S : Option Addr) (n c : Nat) (w : World) :
    Calls Try.prog 22 #[.slice S n c] w fun e w' => ∃ g, e = .returned (.pointer (some ⟨g, 0, none⟩)) ∧ w.heap.size ≤ g ∧ Keep w w' ∧ Src w' g S n c 0 := by
  have HB := Aside.mk (Bx.new w #[.slice S n c, .int .i64 ((0 : Nat) : Int), .int .u64 (U 0#64)] 55)
  go_enter Try.func22, Try.ntmps22
  go_wp2
  go_ret; exact ⟨_, rfl, Nat.le_refl _, (by ((repeat (first | (with_reducible assumption) | ((with_reducible refine Keep.setCell ?_ ?_ _); rotate_left; focus (first | omega | (simp; done) | (simp; omega))) | (with_reducible refine Keep.alloc ?_ _) | (with_reducible refine Keep.drewN ?_ _) | (with_reducible refine Keep.drew ?_) | (with_reducible exact Keep.refl _) | refine Keep.trans ?_ (by with_reducible assumption) | exact Keep.refl _ | assumption)))), 0, 0#64, Nat.le_refl _, HB.out⟩
end Go.Proofs.Ytbbnhbfofdhnbaa

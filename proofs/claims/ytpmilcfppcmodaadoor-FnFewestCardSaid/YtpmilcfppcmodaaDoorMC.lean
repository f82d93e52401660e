/- Cards that are marked: the walks. -/
import Derived.Test.YtpmilcfppcmodaaDoorMT
import Derived.Test.YtpmilcfppcmodaaDoorDS
import Derived.Test.YtpmilcfppcmodaaDoorOW
import Derived.Test.YtpmilcfppcmodaaDoorDK
set_option linter.unusedVariables false
set_option linter.unusedSimpArgs false
namespace Go.Proofs.YtpmilcfppcmodaaDoor
open Go.RowKit
set_option maxHeartbeats 1000000
set_option maxRecDepth 20000
def mcV (k : Nat) : List Value := [.string (mkT k), .int .u64 ((k : Int) + 1), .int .u64 ((k : Int) + 1 + 1)]
/-- The cells of so many marked cards. -/
def marksC (k : Nat) : Nat → List Value
  | 0 => []
  | n + 1 => marksC k n ++ mcV (k + 3 * n)
theorem marksC_len (k : Nat) : ∀ n, (marksC k n).length = n * 3
  | 0 => rfl
  | n + 1 => by rw [marksC, List.length_append, marksC_len k n]; simp [mcV]; omega
theorem marksC_pre (k : Nat) {n i : Nat} (h : i ≤ n) : ∃ t, marksC k n = marksC k i ++ t := by
  induction n with
  | zero => obtain rfl : i = 0 := by omega
            exact ⟨[], by simp⟩
  | succ n ih =>
    by_cases e : i = n + 1
    · subst e; exact ⟨[], by simp⟩
    · obtain ⟨t, ht⟩ := ih (by omega)
      exact ⟨t ++ mcV (k + 3 * n), by rw [marksC, ht, List.append_assoc]⟩
theorem marksC_at (k : Nat) {n i : Nat} (h : i < n) : (marksC k n)[i * 3]? = some (.string (mkT (k + 3 * i))) ∧ (marksC k n)[i * 3 + 1]? = some (.int .u64 (((k + 3 * i : Nat) : Int) + 1)) ∧ (marksC k n)[i * 3 + 2]? = some (.int .u64 (((k + 3 * i : Nat) : Int) + 1 + 1)) := by
  obtain ⟨t, ht⟩ := marksC_pre k (show i + 1 ≤ n by omega)
  have e := marksC_len k i
  rw [ht, marksC, List.append_assoc]
  refine ⟨?_, ?_, ?_⟩
  · rw [List.getElem?_append_right (by omega), e, show i * 3 - i * 3 = 0 by omega]; rfl
  · rw [List.getElem?_append_right (by omega), e, show i * 3 + 1 - i * 3 = 1 by omega]; rfl
  · rw [List.getElem?_append_right (by omega), e, show i * 3 + 2 - i * 3 = 2 by omega]; rfl
theorem drop_three {xs : List Value} {j : Nat} (h : j + 2 < xs.length) : ∃ a b c, xs.drop j = a :: b :: c :: xs.drop (j + 3) := by
  rw [List.drop_eq_getElem_cons (by omega), List.drop_eq_getElem_cons (by omega), List.drop_eq_getElem_cons (by omega)]
  exact ⟨_, _, _, rfl⟩
theorem marksC_set (k i : Nat) (xs : List Value) (h : i * 3 + 2 < xs.length) :
    (((marksC k i ++ xs.drop (i * 3)).set (i * 3) (.string (mkT (k + 3 * i)))).set (i * 3 + 1) (.int .u64 (((k + 3 * i : Nat) : Int) + 1))).set (i * 3 + 2) (.int .u64 (((k + 3 * i : Nat) : Int) + 1 + 1)) = marksC k (i + 1) ++ xs.drop ((i + 1) * 3) := by
  obtain ⟨a, b, c, e⟩ := drop_three h
  have l := marksC_len k i
  rw [e, List.set_append_right _ _ (by omega), l, List.set_append_right _ _ (by omega), l, List.set_append_right _ _ (by omega), l, show i * 3 - i * 3 = 0 by omega, show i * 3 + 1 - i * 3 = 1 by omega, show i * 3 + 2 - i * 3 = 2 by omega, marksC, List.append_assoc, show (i + 1) * 3 = i * 3 + 3 by omega]
  rfl
theorem marksC_some (k i : Nat) (xs : List Value) (h : i * 3 + 2 < xs.length) : ∃ a b c, (marksC k i ++ xs.drop (i * 3))[i * 3]? = some a ∧ (marksC k i ++ xs.drop (i * 3))[i * 3 + 1]? = some b ∧ (marksC k i ++ xs.drop (i * 3))[i * 3 + 2]? = some c := by
  obtain ⟨a, b, c, e⟩ := drop_three h
  have l := marksC_len k i
  rw [e]
  refine ⟨a, b, c, ?_, ?_, ?_⟩
  · rw [List.getElem?_append_right (by omega), l, show i * 3 - i * 3 = 0 by omega]; rfl
  · rw [List.getElem?_append_right (by omega), l, show i * 3 + 1 - i * 3 = 1 by omega]; rfl
  · rw [List.getElem?_append_right (by omega), l, show i * 3 + 2 - i * 3 = 2 by omega]; rfl
theorem own_headN {w : World} {base sz : Nat} {e : TypeId} {A : Option Addr} {n c : Nat} {xs : List Value} (h : w.ownsRow base e sz (.slice A n c) n xs) (hn : 0 < n) : ∃ g, A = some ⟨g, 0, none⟩ ∧ base ≤ g := by
  rcases h.2 with ⟨h1, h2⟩ | ⟨g, cap, cur, h1, h2, _⟩
  · omega
  · simp only [Value.slice.injEq] at h1
    exact ⟨g, h1.1, h2⟩
theorem laws_markCardS (A : Option Addr) (n c base : Nat) (xs : List Value) (k : Nat) (w : World) (hn : n ≤ 1048576) (hk0 : 0 < k) (hk1 : k ≤ 10000000) (hown : w.ownsRow base 108 3 (.slice A n c) n xs) :
    Calls Tryd.prog 40 #[.slice A n c, .int .i64 ((k : Int))] w fun e w' => e = .returned (.int .i64 (((k + 3 * n : Nat) : Int))) ∧ w'.ownsRow base 108 3 (.slice A n c) n (marksC k n) ∧ w.grownBy w' (Value.ownBlock (.slice A n c)) := by
  have hlen : xs.length = n * 3 := hown.1
  go_enter Tryd.func40, Tryd.ntmps40
  go_wp2_with fail
  go_loopg [1, 5] n (fun m s1 s5 wr => ∃ i : Nat, i + m = n ∧ s1 = .int .i64 (((k + 3 * i : Nat) : Int)) ∧ s5 = .int .i64 i ∧ wr.ownsRow base 108 3 (.slice A n c) n (marksC k i ++ xs.drop (i * 3)) ∧ w.grownBy wr (Value.ownBlock (.slice A n c)))
  case atStart => exact ⟨0, by omega, by simp, rfl, by simpa [marksC] using hown, grown_refl _ _⟩
  case round =>
    obtain ⟨i, hi, rfl, rfl, hown, hg⟩ := hrel
    by_cases hlt : i < n
    · obtain ⟨g, rfl, hgb⟩ := own_headN hown (by omega)
      obtain ⟨a, b, cc, q1, q2, q3⟩ := marksC_some k i xs (by omega)
      have HS := Aside.mk (marksC_set k i xs (by omega))
      have HO := Aside.mk hown
      have HG := Aside.mk hg
      have HQ := Aside.mk (And.intro q1 (And.intro q2 q3))
      clear hown hg q1 q2 q3
      obtain ⟨kk, hkk⟩ : ∃ kk, k + 3 * i = kk := ⟨_, rfl⟩
      rw [hkk] at HS
      simp only [hkk]
      (go_wp2_with fail); (go_at_call 96); (refine (laws_markText kk _ (by omega) (by omega)).mono ?_); rintro e w1 ⟨rfl, hk1⟩
      have hown := own_keep HO.out hk1
      have hcA := (hown.cellAt (i * 3) (by omega)).trans HQ.out.1
      have hcB := (hown.cellAt (i * 3 + 1) (by omega)).trans HQ.out.2.1
      have hcC := (hown.cellAt (i * 3 + 2) (by omega)).trans HQ.out.2.2
      have hfA := hown.frozenAt (i * 3)
      have hfB := hown.frozenAt (i * 3 + 1)
      have hfC := hown.frozenAt (i * 3 + 2)
      have HO1 := Aside.mk hown
      have HG1 := Aside.mk (grown_trans HG.out (grown_keep hk1 _))
      clear hown HO HG hk1 HQ
      go_wp2_with fail
      refine wp_loop_rounds 3 ?_
      rw [rounds_succ]
      go_wp2_with fail
      rw [rounds_succ]
      go_wp2_with fail
      rw [rounds_succ]
      go_wp2_with fail
      have s1 := HO1.out.stored (i * 3) (.string (mkT kk))
      have s2 := s1.1.stored (i * 3 + 1) (.int .u64 ((kk : Int) + 1))
      have s3 := s2.1.stored (i * 3 + 2) (.int .u64 ((kk : Int) + 1 + 1))
      have hst := s3.1
      rw [HS.out] at hst
      have HO2 := Aside.mk hst
      have HG2 := Aside.mk (grown_trans HG1.out (grown_trans s1.2 (grown_trans s2.2 s3.2)))
      clear hst s1 s2 s3 HO1 HG1 HS
      go_roundg (n - (i + 1))
      case measure => omega
      case rel => exact ⟨i + 1, by omega, by rw [show ((k + 3 * (i + 1) : Nat) : Int) = (kk : Int) + 1 + 1 + 1 by omega], by go_num, HO2.out, HG2.out⟩
    · have e2 : i = n := by omega
      subst e2
      have HO := Aside.mk hown
      have HG := Aside.mk hg
      clear hown hg
      go_wp2
      go_ret; exact ⟨rfl, by have := HO.out; rw [List.drop_of_length_le (by omega), List.append_nil] at this; exact this, HG.out⟩
theorem laws_heldCardS (A : Option Addr) (n c : Nat) (k : Nat) (w : World) (hn : n ≤ 1048576) (hk0 : 0 < k) (hk1 : k ≤ 10000000) (hR : Rd w A (marksC k n)) :
    Calls Tryd.prog 41 #[.slice A n c, .int .i64 ((k : Int))] w fun e w' => e = .returned (.int .i64 (((k + 3 * n : Nat) : Int))) ∧ Keep w w' := by
  go_enter Tryd.func41, Tryd.ntmps41
  go_wp2_with fail
  go_loopg [1, 5] n (fun m s1 s5 wr => ∃ i : Nat, i + m = n ∧ s1 = .int .i64 (((k + 3 * i : Nat) : Int)) ∧ s5 = .int .i64 i ∧ Keep w wr)
  case atStart => exact ⟨0, by omega, by simp, rfl, (by ((repeat (first | (with_reducible assumption) | ((with_reducible refine Keep.setCell ?_ ?_ _); rotate_left; focus (first | omega | (simp; done) | (simp; omega))) | (with_reducible refine Keep.alloc ?_ _) | (with_reducible refine Keep.drewN ?_ _) | (with_reducible refine Keep.drew ?_) | (with_reducible exact Keep.refl _) | refine Keep.trans ?_ (by with_reducible assumption) | exact Keep.refl _ | assumption))))⟩
  case round =>
    obtain ⟨i, hi, rfl, rfl, hk⟩ := hrel
    by_cases hlt : i < n
    · obtain ⟨bb, o, rfl, hc⟩ := (hR.keep hk).at (k := i * 3) (by rw [marksC_len]; omega)
      have p1 := hc _ _ (marksC_at k hlt).1
      have p2 := hc _ _ (marksC_at k hlt).2.1
      have p3 := hc _ _ (marksC_at k hlt).2.2
      rw [← Nat.add_assoc] at p2 p3
      clear hc
      obtain ⟨kk, hkk⟩ : ∃ kk, k + 3 * i = kk := ⟨_, rfl⟩
      rw [hkk] at p1 p2 p3
      simp only [hkk]
      have hmt := fun W => laws_markText kk W (by omega) (by omega)
      go_wp2_with fail
      refine wp_region_keep (by kernel_rfl) (by kernel_rfl) ?_
      repeat
        first
          | (apply QuietL.run
             focus go_simp
             focus
               intro w2 hk
               have p1' := hk.cell p1
               have p2' := hk.cell p2
               have p3' := hk.cell p3
               apply QAt.mk
               go_simp
               first
                 | done
                 | exact rfl
                 | (go_at_call 96; exact quiet_call hk (hmt _))
             simp only [Act.put, List.setIfInBounds_toArray, List.set_cons_succ, List.set_cons_zero])
          | (apply QuietL.skip
             focus go_simp
             simp only [Act.put, List.setIfInBounds_toArray, List.set_cons_succ, List.set_cons_zero])
      apply QuietL.nil
      intro w2 hk
      have p1' := hk.cell p1
      have p2' := hk.cell p2
      have p3' := hk.cell p3
      go_wp2_with fail
      refine wp_loop_rounds 3 ?_
      rw [rounds_succ]
      go_wp2_with fail
      rw [rounds_succ]
      go_wp2_with fail
      rw [rounds_succ]
      go_wp2_with fail
      go_roundg (n - (i + 1))
      case measure => omega
      case rel => exact ⟨i + 1, by omega, by rw [show ((k + 3 * (i + 1) : Nat) : Int) = (kk : Int) + 1 + 1 + 1 by omega], by go_num, (by ((repeat (first | (with_reducible assumption) | ((with_reducible refine Keep.setCell ?_ ?_ _); rotate_left; focus (first | omega | (simp; done) | (simp; omega))) | (with_reducible refine Keep.alloc ?_ _) | (with_reducible refine Keep.drewN ?_ _) | (with_reducible refine Keep.drew ?_) | (with_reducible exact Keep.refl _) | refine Keep.trans ?_ (by with_reducible assumption) | exact Keep.refl _ | assumption))))⟩
    · have e2 : i = n := by omega
      subst e2
      go_wp2
      go_ret; exact ⟨rfl, (by ((repeat (first | (with_reducible assumption) | ((with_reducible refine Keep.setCell ?_ ?_ _); rotate_left; focus (first | omega | (simp; done) | (simp; omega))) | (with_reducible refine Keep.alloc ?_ _) | (with_reducible refine Keep.drewN ?_ _) | (with_reducible refine Keep.drew ?_) | (with_reducible exact Keep.refl _) | refine Keep.trans ?_ (by with_reducible assumption) | exact Keep.refl _ | assumption))))⟩
end Go.Proofs.YtpmilcfppcmodaaDoor

/- Lists of holes. -/
import Derived.Test.YtpmilcfppcmodaaDoorM3
import Derived.OwnWalk
set_option linter.unusedVariables false
set_option linter.unusedSimpArgs false
namespace Go.Proofs.YtpmilcfppcmodaaDoor
open Go.RowKit
set_option maxHeartbeats 1000000
set_option maxRecDepth 20000
/-- The holes of a mask, of the first so many. -/
def hs (a b : Wd) : Nat → List Int
  | 0 => []
  | k + 1 => cond (hasB a b k) (hs a b k ++ [(k : Int)]) (hs a b k)
theorem hs_len (a b : Wd) (k : Nat) : (hs a b k).length ≤ k := by
  induction k with
  | zero => simp [hs]
  | succ k ih => cases h : hasB a b k <;> simp [hs, h] <;> omega
theorem hs_yes {a b : Wd} {k : Nat} (h : hasB a b k = true) : hs a b (k + 1) = hs a b k ++ [(k : Int)] := by simp [hs, h]
theorem hs_no {a b : Wd} {k : Nat} (h : hasB a b k = false) : hs a b (k + 1) = hs a b k := by simp [hs, h]
theorem hs_zero (a b : Wd) : hs a b 0 = [] := rfl
attribute [irreducible] hs
theorem int64_info : (Tryd.prog.info? 2).map (fun i => (i.zero, i.size, i.bytes)) = some (some (.int .i64 0), 1, 8) := by kernel_rfl
theorem own_empty (w : World) (base : Nat) (e : TypeId) (hb : base ≤ w.heap.size) : (w.alloc (.cells #[] e)).ownsRow base e 1 (.slice (some ⟨w.heap.size, 0, none⟩) 0 0) 0 [] :=
  World.ownsRow_made w #[] 0 hb (by unfold maxLen; omega) (by simp)
theorem Bx.grownBy {w w' : World} {g : Nat} {cs : Array Value} {T : TypeId} {row : Option Nat} (h : Bx w g cs T) (hg : w.grownBy w' row) (hne : some g ≠ row) : Bx w' g cs T := (hg.block g h.lt hne).trans h
theorem impl_Mask_holes (a b : Wd) (w : World) :
    Calls Tryd.prog 82 #[.agg #[.int .u64 (U a), .int .u64 (U b)]] w fun e w' => ∃ v, e = .returned v ∧ w'.ownsRow w.heap.size 2 1 v (hs a b 96).length (ints (hs a b 96)) ∧ Keep w w' := by
  obtain ⟨i0, hi0, hz0, hz1, hz2⟩ := info_parts int64_info
  obtain ⟨N, HN⟩ : ∃ N : Nat, Aside (N = 96) := ⟨96, Aside.mk rfl⟩
  go_enter Tryd.func82, Tryd.ntmps82
  go_wp2_with fail
  go_loopg [3, 6] N (fun k v s wr => ∃ i : Nat, i + k = N ∧ s = .int .i64 i ∧ wr.ownsRow (w.heap.size + 1) 2 1 v (hs a b i).length (ints (hs a b i)) ∧ Bx wr w.heap.size #[.int .u64 (U a), .int .u64 (U b)] 33 ∧ Keep w wr)
  case atStart => exact ⟨0, Nat.zero_add _, rfl, by simpa [hs_zero, ints] using own_empty (w.alloc _) (w.heap.size + 1) 2 (by simp), (Bx.new _ _ _).alloc _, (by ((repeat (first | (with_reducible assumption) | ((with_reducible refine Keep.setCell ?_ ?_ _); rotate_left; focus (first | omega | (simp; done) | (simp; omega))) | (with_reducible refine Keep.alloc ?_ _) | (with_reducible refine Keep.drewN ?_ _) | (with_reducible refine Keep.drew ?_) | (with_reducible exact Keep.refl _) | refine Keep.trans ?_ (by with_reducible assumption) | exact Keep.refl _ | assumption))))⟩
  case round =>
    obtain ⟨i, hi, rfl, hown, hA, hk⟩ := hrel
    have hAs := hA.two
    have hlen := hs_len a b i
    have HI := Aside.mk hi
    clear hi
    by_cases hlt : i < 96
    · (go_wp2_with fail); (go_at_call 101); (refine (impl_has _ _ _ (by omega) (by omega) _).mono ?_); rintro e w1 ⟨rfl, hk1⟩
      have hA1 := hA.keep hk1
      have hown1 := own_keep hown hk1
      have k1 : Keep w w1 := (by ((repeat (first | (with_reducible assumption) | ((with_reducible refine Keep.setCell ?_ ?_ _); rotate_left; focus (first | omega | (simp; done) | (simp; omega))) | (with_reducible refine Keep.alloc ?_ _) | (with_reducible refine Keep.drewN ?_ _) | (with_reducible refine Keep.drew ?_) | (with_reducible exact Keep.refl _) | refine Keep.trans ?_ (by with_reducible assumption) | exact Keep.refl _ | assumption))))
      clear hAs hA hown hk1 hk
      cases hb : hasB a b i
      · have HO := Aside.mk hown1
        have HA := Aside.mk hA1
        have e := hs_no hb
        clear hown1 hA1
        go_wp2
        go_roundg (N - (i + 1))
        case measure => have := HI.out; have := HN.out; omega
        case rel => exact ⟨i + 1, by have := HN.out; omega, by go_num, by rw [e]; exact HO.out, HA.out, (by ((repeat (first | (with_reducible assumption) | ((with_reducible refine Keep.setCell ?_ ?_ _); rotate_left; focus (first | omega | (simp; done) | (simp; omega))) | (with_reducible refine Keep.alloc ?_ _) | (with_reducible refine Keep.drewN ?_ _) | (with_reducible refine Keep.drew ?_) | (with_reducible exact Keep.refl _) | refine Keep.trans ?_ (by with_reducible assumption) | exact Keep.refl _ | assumption))))⟩
      · have e := hs_yes hb
        go_wp2_with (at_builtin; refine wpList_append_own _ rfl _ _ 28 rfl (w.heap.size + 1) 2 i0 (.int .i64 0) 1 8 Tryd.underlying28 hi0 hz0 hz1 hz2 rfl (by decide) _ _ _ rfl (hown1.alloc _) ⟨w1.heap.size, 0, none⟩ 1 1 [.int .i64 i] rfl rfl ?c1 ?c2 ?c3 ?c4 ?c5 ?_)
        case c1 =>
          intro j u hj
          match j, hj with
          | 0, hj => simp at hj; subst hj; simp [Addr.add]
        case c2 => intro u hu; simp at hu; subst hu; rfl
        case c3 => unfold maxLen; omega
        case c4 => omega
        case c5 => have := hA1.lt; simp; omega
        · intro v' w2 hown2 hg _
          have hr : ∀ k, Value.ownBlock _ = some k → _ := hown1.lt
          have hA2 := (hA1.alloc (.cells #[.int .i64 i] 2)).grownBy hg (fun h => by have := hr _ h.symm; omega)
          have k2 : Keep w w2 := (k1.alloc _).grown hg (fun k hk => by have := hr _ hk; omega)
          have HO := Aside.mk hown2
          have HA := Aside.mk hA2
          have hz := k2.size
          clear hown1 hA1 hown2 hA2 hg hr
          go_wp2
          go_roundg (N - (i + 1))
          case measure => have := HI.out; have := HN.out; omega
          case rel => exact ⟨i + 1, by have := HN.out; omega, by go_num, by rw [e]; simpa [ints] using HO.out, HA.out, (by ((repeat (first | (with_reducible assumption) | ((with_reducible refine Keep.setCell ?_ ?_ _); rotate_left; focus (first | omega | (simp; done) | (simp; omega))) | (with_reducible refine Keep.alloc ?_ _) | (with_reducible refine Keep.drewN ?_ _) | (with_reducible refine Keep.drew ?_) | (with_reducible exact Keep.refl _) | refine Keep.trans ?_ (by with_reducible assumption) | exact Keep.refl _ | assumption))))⟩
    · have e2 : i = 96 := by have := HI.out; have := HN.out; omega
      subst e2
      have HO := Aside.mk hown
      clear hown
      go_wp2
      go_ret; exact ⟨_, rfl, own_base HO.out (by omega), (by ((repeat (first | (with_reducible assumption) | ((with_reducible refine Keep.setCell ?_ ?_ _); rotate_left; focus (first | omega | (simp; done) | (simp; omega))) | (with_reducible refine Keep.alloc ?_ _) | (with_reducible refine Keep.drewN ?_ _) | (with_reducible refine Keep.drew ?_) | (with_reducible exact Keep.refl _) | refine Keep.trans ?_ (by with_reducible assumption) | exact Keep.refl _ | assumption))))⟩
end Go.Proofs.YtpmilcfppcmodaaDoor

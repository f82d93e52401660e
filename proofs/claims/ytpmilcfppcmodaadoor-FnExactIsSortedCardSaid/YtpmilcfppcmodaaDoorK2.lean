/- The holes that sort by a field. -/
import Derived.Test.YtpmilcfppcmodaaDoorK1
import Derived.Test.YtpmilcfppcmodaaDoorN4
import Derived.Test.YtpmilcfppcmodaaDoorS3
import Derived.Ground.SlgnProg
import Derived.Shelf.SlicesE.Reverse
import Derived.Sort.OwnSortedInts
set_option linter.unusedVariables false
set_option linter.unusedSimpArgs false
namespace Go.Proofs.YtpmilcfppcmodaaDoor
open Go.RowKit Go.Shelf Go.Sort
set_option maxHeartbeats 4000000
set_option maxRecDepth 20000
/-- A row of the call's own, cut. -/
theorem own_cut {w : World} {base m n : Nat} {e : TypeId} {A : Option Addr} {c : Nat} {xs : List Value} (h : w.ownsRow base e 1 (.slice A n c) n xs) (hm : m ≤ n) (hn : 0 < n) : w.ownsRow base e 1 (.slice A m c) m (xs.take m) := by
  obtain ⟨h1, h2⟩ := h
  refine ⟨by simp; omega, ?_⟩
  rcases h2 with ⟨_, h0⟩ | ⟨g, cap, cur, hv, hb, hg, hc, hmx, hs, ht⟩
  · omega
  · cases hv
    exact .inr ⟨g, c, cur, rfl, hb, hg, by omega, hmx, hs, by rw [← ht, List.take_take]; congr 1; omega⟩
def revLays_ren : Go.Shelf.Ren := ⟨fun | 35 => 173 | n => n, fun | 22 => 28 | 23 => 2 | 3 => 3 | 4 => 4 | 0 => 0 | n => n, fun | n => n⟩
theorem revLays : Go.Proofs.SlLaysE.n35 Tryd.prog revLays_ren := {
  mixed := by kernel_rfl
  f35 := ⟨Tryd.f173.name, by decide, Tryd.func173.trans (congrArg some (by kernel_rfl))⟩
  t0 := Tryd.underlying0
  a0 := Tryd.isAgg0
  z0 := Tryd.sizeOf0
  v0 := Tryd.zeroValue0
  t3 := Tryd.underlying3
  a3 := Tryd.isAgg3
  z3 := Tryd.sizeOf3
  v3 := Tryd.zeroValue3
  t4 := Tryd.underlying4
  a4 := Tryd.isAgg4
  z4 := Tryd.sizeOf4
  v4 := Tryd.zeroValue4
  t22 := Tryd.underlying28
  a22 := Tryd.isAgg28
  z22 := Tryd.sizeOf28
  v22 := Tryd.zeroValue28
  a23 := Tryd.isAgg2
  z23 := Tryd.sizeOf2 }
theorem slices_Reverse (A : Option Addr) (l : List Int) (c base : Nat) (w : World) (hn : l.length ≤ 9223372036854775807) (hown : w.ownsRow base 2 1 (.slice A l.length c) l.length (ints l)) :
    Calls Tryd.prog 173 #[.slice A l.length c] w fun e w' => e = .returned (.tuple #[]) ∧ w'.ownsRow base 2 1 (.slice A l.length c) l.length (ints l.reverse) ∧ w.grownBy w' (Value.ownBlock (.slice A l.length c)) := by
  by_cases h0 : l.length = 0
  · have : l = [] := List.eq_nil_of_length_eq_zero h0
    subst this
    have h := AnyE.slices_Reverse_empty revLays A c w
    exact h.mono fun e w' ⟨h1, h2⟩ => ⟨h1, by subst h2; exact hown, by subst h2; exact grown_refl _ _⟩
  · have hown' := hown
    obtain ⟨h1, h2⟩ := hown
    rcases h2 with ⟨_, h3⟩ | ⟨g, cap, cur, hv, hb, hg, hc, hm, hs, ht⟩
    · omega
    · cases hv
      have hH := holds_of_blockI (ss := l) hg (by rw [Nat.mul_one] at ht; exact ht)
      have h := AnyE.slices_Reverse revLays (Value.int .i64) (fun _ => rfl) g 0 c l w hH hn
      refine h.mono fun e w' ⟨he, n, hw'⟩ => ?_
      subst hw'
      have eg : (putRow (Value.int .i64) (Sort.ahead w n) g 0 l.reverse.toArray) = grow (putRow (Value.int .i64) (Sort.ahead w n) g 0 l.reverse.toArray) #[] := (grow_empty _).symm
      refine ⟨he, ?_, ?_⟩
      · rw [eg]
        exact ownsRow_sortedI (ss := l) (ts := l.reverse) (by simp) hb hg hc hm hs
      · rw [eg]
        exact grownBy_sortedI _
end Go.Proofs.YtpmilcfppcmodaaDoor

/- Slices: a row of cells that is read, and a row of the call's own. -/
import Derived.Test.YtpmilcfppcmodaaDoorPure
import Derived.Deep.LoopGhost
import Derived.RegionTactic
import Derived.BigRegion
set_option linter.unusedVariables false
namespace Go.Proofs.YtpmilcfppcmodaaDoor
open Go.RowKit

theorem Aside.mk {p : Prop} (h : p) : Aside p := h
/-- Behind this address lie these cells (or there are none). -/
def Rd (w : World) (A : Option Addr) (cs : List Value) : Prop :=
  cs = [] ∨ ∃ b o, A = some ⟨b, o, none⟩ ∧ ∀ j v, cs[j]? = some v → w.cell? ⟨b, o + j, none⟩ = some v
theorem Rd.keep {w w' : World} {A : Option Addr} {cs : List Value} (h : Rd w A cs) (k : Keep w w') : Rd w' A cs := by
  rcases h with h | ⟨b, o, h, hc⟩
  · exact .inl h
  · exact .inr ⟨b, o, h, fun j v hj => k.cell (hc j v hj)⟩
theorem Rd.nil (w : World) (A : Option Addr) : Rd w A [] := .inl rfl
theorem Rd.at {w : World} {A : Option Addr} {cs : List Value} (h : Rd w A cs) {k : Nat} (hk : k < cs.length) :
    ∃ b o, A = some ⟨b, o, none⟩ ∧ (∀ j v, cs[j]? = some v → w.cell? ⟨b, o + j, none⟩ = some v) := by
  rcases h with h | h
  · subst h; simp at hk
  · exact h
theorem Rd.sub {w : World} {A : Option Addr} {cs ds : List Value} (h : Rd w A cs) (hs : ∀ (j : Nat) v, ds[j]? = some v → cs[j]? = some v) : Rd w A ds := by
  rcases h with h | ⟨b, o, h, hc⟩
  · subst h
    refine .inl ?_
    cases ds with
    | nil => rfl
    | cons x l => have := hs 0 x rfl; simp at this
  · exact .inr ⟨b, o, h, fun j v hj => hc j v (hs j v hj)⟩
theorem Rd.one (w : World) (T : TypeId) (cs : List Value) (w' : World) (k : Keep (w.alloc (.cells cs.toArray T)) w') : Rd w' (some ⟨w.heap.size, 0, none⟩) cs := by
  refine .inr ⟨w.heap.size, 0, rfl, fun j v hj => k.cell ?_⟩
  rw [cell_of_row _ w.heap.size (0 + j) cs.toArray T (0, 0) (heap_alloc_new w _)]
  simpa using hj

theorem own_row {w : World} {base : Nat} {e : TypeId} {size n : Nat} {v : Value} {xs : List Value} (h : w.ownsRow base e size v n xs) :
    ∃ A c, v = .slice A n c ∧ Rd w A xs ∧ (∀ k, v.ownBlock = some k → base ≤ k ∧ k < w.heap.size) := by
  have key : ∃ A c, v = .slice A n c ∧ Rd w A xs := by
    rcases h.2 with ⟨rfl, rfl⟩ | ⟨g, cap, cur, rfl, hg, hb, hn, hm, hs, ht⟩
    · exact ⟨none, 0, rfl, .inl (List.eq_nil_of_length_eq_zero (by simpa using h.1))⟩
    · refine ⟨some ⟨g, 0, none⟩, cap, rfl, .inr ⟨g, 0, rfl, fun j v hj => ?_⟩⟩
      have := h.cells (g := g) rfl j v hj
      rw [Addr.add_lit] at this
      exact this
  obtain ⟨A, c, h1, h2⟩ := key
  exact ⟨A, c, h1, h2, h.lt⟩
theorem own_keep {w w' : World} {base : Nat} {e : TypeId} {size n : Nat} {v : Value} {xs : List Value} (h : w.ownsRow base e size v n xs) (k : Keep w w') : w'.ownsRow base e size v n xs :=
  h.kept (⟨k.out.os, k.out.tape, k.out.output, k.out.size, fun i hi _ => k.out.block i hi⟩ : w.grownBy w' none) (by cases v.ownBlock <;> simp)
theorem own_base {w : World} {base base' : Nat} {e : TypeId} {size n : Nat} {v : Value} {xs : List Value} (h : w.ownsRow base e size v n xs) (hb : base' ≤ base) : w.ownsRow base' e size v n xs := by
  refine ⟨h.1, ?_⟩
  rcases h.2 with h2 | ⟨g, cap, cur, hv, hg, r⟩
  · exact .inl h2
  · exact .inr ⟨g, cap, cur, hv, Nat.le_trans hb hg, r⟩
/-- Behind a law on append or make: what was there below the row's own block is as it was. -/
theorem Keep.grown {w W W' : World} (h : Keep w W) {row : Option Nat} (hg : W.grownBy W' row) (hr : ∀ k, row = some k → w.heap.size ≤ k) : Keep w W' := ⟨h.out.grown hg h.out.size hr⟩

/-- A list's masks together. -/
def orLo (a : Wd) (l : List Int) : Wd := l.foldl (fun x h => x ||| bitLo h) a
def orHi (a : Wd) (l : List Int) : Wd := l.foldl (fun x h => x ||| bitHi h) a
theorem orLo_succ (a : Wd) (l : List Int) (i : Nat) (h : i < l.length) : orLo a (l.take (i + 1)) = orLo a (l.take i) ||| bitLo l[i] := by
  unfold orLo; rw [List.take_succ_eq_append_getElem h, List.foldl_append]; rfl
theorem orHi_succ (a : Wd) (l : List Int) (i : Nat) (h : i < l.length) : orHi a (l.take (i + 1)) = orHi a (l.take i) ||| bitHi l[i] := by
  unfold orHi; rw [List.take_succ_eq_append_getElem h, List.foldl_append]; rfl
def ints (l : List Int) : List Value := l.map (Value.int .i64)
theorem ints_at (l : List Int) (k : Nat) (h : k < l.length) : (ints l)[k]? = some (.int .i64 l[k]) := by simp [ints, h]
theorem ints_len (l : List Int) : (ints l).length = l.length := by simp [ints]
end Go.Proofs.YtpmilcfppcmodaaDoor

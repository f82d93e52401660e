/- The holes of a mask with a code. -/
import Derived.Test.YtpmilcfppcmodaaDoorS1
set_option linter.unusedVariables false
set_option linter.unusedSimpArgs false
namespace Go.Proofs.YtpmilcfppcmodaaDoor
open Go.RowKit
set_option maxHeartbeats 1000000
set_option maxRecDepth 20000
def holesL (a b : Wd) : List Int := cond (okB b) (hs a b 96) []
def holesE (b : Wd) : Int := cond (okB b) 0 1
theorem impl_HolesIn (a b : Wd) (w : World) :
    Calls Tryd.prog 23 #[.agg #[.int .u64 (U a), .int .u64 (U b)]] w fun e w' => ∃ v, e = .returned (.tuple #[v, .int .i64 (holesE b)]) ∧ w'.ownsRow w.heap.size 2 1 v (holesL a b).length (ints (holesL a b)) ∧ Keep w w' := by
  cases h1 : okB b <;> simp only [holesL, holesE, h1, cond_true, cond_false]
  · go_enter Tryd.func23, Tryd.ntmps23
    (go_wp2_with fail); (go_at_call 81); (refine (impl_isMask _ _ _).mono ?_); rintro e w1 ⟨rfl, hk1⟩
    rw [h1]
    go_wp2
    go_ret2; exact ⟨_, rfl, World.ownsRow_nil _ _ _ _, (by ((repeat (first | (with_reducible assumption) | ((with_reducible refine Keep.setCell ?_ ?_ _); rotate_left; focus (first | omega | (simp; done) | (simp; omega))) | (with_reducible refine Keep.alloc ?_ _) | (with_reducible refine Keep.drewN ?_ _) | (with_reducible refine Keep.drew ?_) | (with_reducible exact Keep.refl _) | refine Keep.trans ?_ (by with_reducible assumption) | exact Keep.refl _ | assumption))))⟩
  · go_enter Tryd.func23, Tryd.ntmps23
    (go_wp2_with fail); (go_at_call 81); (refine (impl_isMask _ _ _).mono ?_); rintro e w1 ⟨rfl, hk1⟩
    rw [h1]
    obtain ⟨hk1c, hk1f⟩ := hk1.cells; have hk1z0 : w.heap.size < w1.heap.size := (by have := hk1.size; (try simp at this); omega)
    go_wp2_with fail
    go_at_call 82
    refine (impl_Mask_holes _ _ _).mono ?_
    rintro e w2 ⟨v, rfl, hown, hk2⟩
    have HO := Aside.mk hown
    have hz := hk1.size
    clear hown
    go_wp2
    go_ret2; exact ⟨_, rfl, own_base HO.out (by simp at hz; omega), (by ((repeat (first | (with_reducible assumption) | ((with_reducible refine Keep.setCell ?_ ?_ _); rotate_left; focus (first | omega | (simp; done) | (simp; omega))) | (with_reducible refine Keep.alloc ?_ _) | (with_reducible refine Keep.drewN ?_ _) | (with_reducible refine Keep.drew ?_) | (with_reducible exact Keep.refl _) | refine Keep.trans ?_ (by with_reducible assumption) | exact Keep.refl _ | assumption))))⟩
def mOfLo (l : List Int) : Wd := cond (l.all holeB) (orLo 0#64 l) 0#64
def mOfHi (l : List Int) : Wd := cond (l.all holeB) (orHi 0#64 l) 0#64
def mOfE (l : List Int) : Int := cond (l.all holeB) 0 2
theorem all_take_succ {l : List Int} {i : Nat} (h : i < l.length) : (l.take (i + 1)).all holeB = ((l.take i).all holeB && holeB l[i]) := by
  rw [List.take_succ_eq_append_getElem h, List.all_append]; simp
theorem all_false_of {l : List Int} {i : Nat} (h : i < l.length) (hb : holeB l[i] = false) : l.all holeB = false := by
  rw [List.all_eq_false]; exact ⟨l[i], List.getElem_mem h, by simp [hb]⟩
structure CellAt (w : World) (b o : Nat) (v : Value) : Prop where
  out : w.cell? ⟨b, o, none⟩ = some v
theorem CellAt.keep {w w' : World} {b o : Nat} {v : Value} (h : CellAt w b o v) (k : Keep w w') : CellAt w' b o v := ⟨k.cell h.out⟩
theorem CellAt.at2 {w : World} {b o : Nat} {v : Value} (h : CellAt w b o v) : w.cell? ⟨b, o, none⟩ = some v ∧ b < w.heap.size := ⟨h.out, World.block_lt_of_cell? w _ h.out⟩
theorem CellAt.lt {w : World} {b o : Nat} {v : Value} (h : CellAt w b o v) : b < w.heap.size := h.at2.2
theorem impl_withz (A : Option Addr) (l : List Int) (c : Nat) (w : World) (hl : ∀ h ∈ l, 0 ≤ h ∧ h < 96) (hn : l.length ≤ 9223372036854775807) (hR : Rd w A (ints l)) :
    Calls Tryd.prog 74 #[.agg #[.int .u64 0, .int .u64 0], .slice A l.length c] w fun e w' => e = .returned (.agg #[.int .u64 (U (orLo 0#64 l)), .int .u64 (U (orHi 0#64 l))]) ∧ Keep w w' :=
  impl_with 0#64 0#64 A l c w hl hn hR
theorem all_iff {l : List Int} : l.all holeB = true ↔ ∀ h ∈ l, 0 ≤ h ∧ h < 96 := by
  rw [List.all_eq_true]
  exact ⟨fun h x hx => holeB_iff.1 (h x hx), fun h x hx => holeB_iff.2 (h x hx)⟩
end Go.Proofs.YtpmilcfppcmodaaDoor

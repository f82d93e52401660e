/- Words of this claim: what a call leaves of old memory, masks as pairs of 64-bit words, and how the walk spells their operations. -/
import Derived.Test.YtpmilcfppcmodaaDoorRows
import Derived.WalkKit
import Derived.WalkSpells
import Derived.WalkLawsBesides
import Derived.Handy
import Derived.Deep.QuietTactic
import Derived.BigQuiet
import Derived.KernelRfl
namespace Go.Proofs.YtpmilcfppcmodaaDoor
open Go.RowKit

/-- All that was there is as it was. -/
structure Keep (w w' : World) : Prop where
  out : Below w.heap.size w w'
theorem Keep.refl (w : World) : Keep w w := ⟨Below.refl _ _⟩
theorem Keep.trans {a b c : World} (h : Keep a b) (k : Keep b c) : Keep a c := ⟨h.out.trans (k.out.mono h.out.size)⟩
theorem Keep.size {w w' : World} (h : Keep w w') : w.heap.size ≤ w'.heap.size := h.out.size
theorem Keep.alloc {w W : World} (h : Keep w W) (o : Obj) : Keep w (W.alloc o) := ⟨h.out.alloc h.out.size o⟩
theorem Keep.drew {w W : World} (h : Keep w W) : Keep w W.drew := ⟨h.out.drew⟩
theorem Keep.drewN {w W : World} (h : Keep w W) (n : Nat) : Keep w (W.drewN n) := ⟨⟨h.out.os, h.out.tape, h.out.output, h.out.size, h.out.block⟩⟩
theorem Keep.setCell {w W : World} (h : Keep w W) {p : Addr} (hp : w.heap.size ≤ p.block) (u : Value) : Keep w (W.setCell p u) := ⟨h.out.setCell hp u⟩
theorem Keep.block {w w' : World} (h : Keep w w') {k : Nat} {o : Obj} (hk : w.heap[k]? = some o) : w'.heap[k]? = some o :=
  (h.out.block k (Array.getElem?_eq_some_iff.1 hk).1).trans hk
theorem Keep.cell {w w' : World} (h : Keep w w') {a : Addr} {v : Value} (hc : w.cell? a = some v) : w'.cell? a = some v :=
  (h.out.cell (World.block_lt_of_cell? w a hc)).trans hc
theorem Keep.frozen {w w' : World} (h : Keep w w') {a : Addr} (ha : a.block < w.heap.size) : w'.frozen? a = w.frozen? a := h.out.frozen ha
theorem Keep.cells {w w' : World} (h : Keep w w') : (∀ b o, b < w.heap.size → w'.cell? ⟨b, o, none⟩ = w.cell? ⟨b, o, none⟩) ∧ (∀ b o, b < w.heap.size → w'.frozen? ⟨b, o, none⟩ = w.frozen? ⟨b, o, none⟩) :=
  ⟨fun b o hb => h.out.cell (p := ⟨b, o, none⟩) hb, fun b o hb => h.out.frozen (p := ⟨b, o, none⟩) hb⟩

/-! ### 64-bit words -/
abbrev Wd := BitVec 64
/-- A word as the walk's number: a name of its own, so that simp leaves it alone. -/
def U (x : Wd) : Int := (x.toNat : Int)
theorem U_nonneg (x : Wd) : 0 ≤ U x := by unfold U; omega
theorem U_lt (x : Wd) : U x < 18446744073709551616 := by unfold U; have := x.isLt; omega
theorem ofInt_U (x : Wd) : BitVec.ofInt 64 (U x) = x := by
  unfold U; rw [BitVec.ofInt_natCast]; simp
theorem wrap_U (x : Wd) : IntKind.u64.wrap (U x) = U x := by
  rw [IntKind.wrap_u64]; have := U_nonneg x; have := U_lt x; omega
theorem U_ofInt {n : Int} (h0 : 0 ≤ n) (h1 : n < 18446744073709551616) : n = U (BitVec.ofInt 64 n) := by
  unfold U; rw [BitVec.toNat_ofInt]; omega
@[go_sem] theorem bits_and_U (x y : Wd) : bits .and .u64 (U x) (U y) = U (x &&& y) := by
  show IntKind.u64.wrap ((BitVec.ofInt 64 (U x) &&& BitVec.ofInt 64 (U y)).toNat : Int) = _
  rw [ofInt_U, ofInt_U]; exact wrap_U _
@[go_sem] theorem bits_or_U (x y : Wd) : bits .or .u64 (U x) (U y) = U (x ||| y) := by
  show IntKind.u64.wrap ((BitVec.ofInt 64 (U x) ||| BitVec.ofInt 64 (U y)).toNat : Int) = _
  rw [ofInt_U, ofInt_U]; exact wrap_U _
@[go_sem] theorem bits_andNot_U (x y : Wd) : bits .andNot .u64 (U x) (U y) = U (x &&& ~~~y) := by
  show IntKind.u64.wrap ((BitVec.ofInt 64 (U x) &&& ~~~ BitVec.ofInt 64 (U y)).toNat : Int) = _
  rw [ofInt_U, ofInt_U]; exact wrap_U _
theorem U_inj (x y : Wd) : U x = U y ↔ x = y := by
  unfold U; rw [BitVec.toNat_eq]; omega
@[go_sem] theorem beq_U (x y : Wd) : (U x == U y) = (x == y) := by
  rw [Bool.eq_iff_iff, beq_iff_eq, beq_iff_eq, U_inj]
@[go_sem] theorem bne_U (x y : Wd) : (U x != U y) = (x != y) := by
  unfold bne; rw [beq_U]
theorem U_zero : U 0#64 = 0 := rfl
@[go_sem] theorem beq_U0 (x : Wd) : (U x == 0) = (x == 0#64) := by
  rw [← U_zero, beq_U]

@[go_sem] theorem eqMaskIn (a b c d : Int) (w : World) : (Op.equalIn 10000 33 (.agg #[.int .u64 a, .int .u64 b]) (.agg #[.int .u64 c, .int .u64 d])).run Tryd.prog w = .ok (a == c && b == d) w := by
  have u3 := Tryd.underlying31
  have a3 := Tryd.isAgg31
  have z3 := Tryd.sizeOf31
  rw [show (10000 : Nat) = 9999 + 1 from rfl, Op.equalIn]
  simp only [Sem.run_bind, run_underlying Tryd.underlying33, Result.andThen_ok]
  simp only [Std.Legacy.Range.forIn_eq_forIn_range', Std.Legacy.Range.size, Nat.sub_zero, Nat.add_sub_cancel, Nat.div_one, List.range'_succ, List.range'_zero, List.forIn_cons, List.forIn_nil]
  go_simp
  by_cases h1 : a = c <;> by_cases h2 : b = d <;> simp [h1, h2]

/-- The words of the mask of one hole. -/
def bitLo (h : Int) : Wd := if h < 64 then 1#64 <<< h.toNat else 0#64
def bitHi (h : Int) : Wd := if h < 64 then 0#64 else 1#64 <<< (h - 64).toNat
def hasB (a b : Wd) (h : Int) : Bool := if h < 64 then a.getLsbD h.toNat else b.getLsbD (h - 64).toNat
def holeB (n : Int) : Bool := decide (0 ≤ n) && decide (n < 96)
def inB (n lo hi : Int) : Bool := decide (lo ≤ n) && decide (n ≤ hi)
theorem inB_hole (n : Int) : inB n 0 95 = holeB n := by unfold inB holeB; congr 1; simp; omega
/-- Is all of the one mask in the other one? -/
def withinB (a b c d : Wd) : Bool := (a &&& ~~~c) == 0#64 && (b &&& ~~~d) == 0#64
/-- Is the mask valid? -/
def okB (b : Wd) : Bool := b.toNat < 4294967296
end Go.Proofs.YtpmilcfppcmodaaDoor

/- Plain facts on 64-bit words, bits and masks: no program in sight. -/
import Derived.Test.YtpmilcfppcmodaaDoorBase
namespace Go.Proofs.YtpmilcfppcmodaaDoor
open Go.RowKit
theorem rb {a b : Bool} (h : a = b) : Ending.returned (.bool a) = Ending.returned (.bool b) := by rw [h]
def I16 (n : Int) : Prop := -32768 ≤ n ∧ n ≤ 32767
theorem wrapI64 {n : Int} (h : -9223372036854775808 ≤ n ∧ n ≤ 9223372036854775807) : IntKind.i64.wrap n = n := by
  simp [IntKind.wrap, IntKind.bits, IntKind.signed]; omega
theorem wrapI16 {n : Int} (h : -32768 ≤ n ∧ n ≤ 32767) : IntKind.i16.wrap n = n := by
  simp [IntKind.wrap, IntKind.bits, IntKind.signed]; omega
theorem ri {k : IntKind} {a b : Int} (h : a = b) : Ending.returned (.int k a) = Ending.returned (.int k b) := by rw [h]
theorem rm {a b c d : Int} (h : a = b) (k : c = d) : Ending.returned (.agg #[.int .u64 a, .int .u64 c]) = Ending.returned (.agg #[.int .u64 b, .int .u64 d]) := by rw [h, k]

theorem okB_div (b : Wd) : (U b / 4294967296 == 0) = okB b := by
  unfold okB U
  rw [Bool.eq_iff_iff]; simp; omega
theorem wrap_pow (n : Nat) (_h : n < 64) : IntKind.u64.wrap (2 ^ n) = U (1#64 <<< n) := by
  unfold U
  rw [IntKind.wrap_u64, BitVec.toNat_shiftLeft]
  simp [Nat.shiftLeft_eq]
theorem bitLo_lt {h : Int} (hh : h < 64) (h0 : 0 ≤ h) : IntKind.u64.wrap (2 ^ h.toNat) = U (bitLo h) := by
  unfold bitLo; rw [if_pos hh]; exact wrap_pow _ (by omega)
theorem bitHi_lt {h : Int} (hh : h < 64) : (0 : Int) = U (bitHi h) := by
  unfold bitHi; rw [if_pos hh]; rfl
theorem bitLo_ge {h : Int} (hh : ¬ h < 64) : (0 : Int) = U (bitLo h) := by
  unfold bitLo; rw [if_neg hh]; rfl
theorem bitHi_ge {h : Int} (hh : ¬ h < 64) (h1 : h < 96) : IntKind.u64.wrap (2 ^ (h - 64).toNat) = U (bitHi h) := by
  unfold bitHi; rw [if_neg hh]; exact wrap_pow _ (by omega)
theorem bit_of_div (a : Wd) (n : Nat) : U a / 2 ^ n % 2 = if a.getLsbD n then 1 else 0 := by
  unfold U
  have e : ((a.toNat : Int) / 2 ^ n % 2) = ((a.toNat / 2 ^ n % 2 : Nat) : Int) := by simp
  rw [e, BitVec.getLsbD, Nat.testBit_eq_decide_div_mod_eq]
  rcases Nat.mod_two_eq_zero_or_one (a.toNat / 2 ^ n) with h | h <;> simp [h]
theorem div_pow_nonneg (a : Wd) (n : Nat) : 0 ≤ U a / 2 ^ n := Int.ediv_nonneg (U_nonneg a) (Int.le_of_lt (Int.pow_pos (by decide)))
theorem has_tmod (a : Wd) (n : Nat) : ((U a / 2 ^ n).tmod 2 == 1) = a.getLsbD n := by
  rw [Int.tmod_eq_emod_of_nonneg (div_pow_nonneg a n), bit_of_div]
  cases a.getLsbD n <;> simp
theorem has_emod (a : Wd) (n : Nat) : (U a / 2 ^ n % 2 == 1) = a.getLsbD n := by
  rw [bit_of_div]
  cases a.getLsbD n <;> simp
theorem shr_U (a : Wd) (n : Nat) : U a / 2 ^ n = U (a >>> n) := by
  unfold U
  rw [BitVec.toNat_ushiftRight, Nat.shiftRight_eq_div_pow]; simp
theorem has_bits (a : Wd) (n : Nat) : (bits .and .u64 (U a / 2 ^ n) 1 == 1) = a.getLsbD n := by
  rw [shr_U, show (1 : Int) = U 1#64 from rfl, bits_and_U, beq_U]
  rw [Bool.eq_iff_iff, beq_iff_eq]
  constructor
  · intro h
    have := congrArg (fun x : Wd => x.getLsbD 0) h
    simpa using this
  · intro h
    apply BitVec.eq_of_getLsbD_eq
    intro i hi
    by_cases i0 : i = 0
    · subst i0; simpa using h
    · simp [i0]
theorem hasB_lt {a b : Wd} {h : Int} (hh : h < 64) : hasB a b h = a.getLsbD h.toNat := by unfold hasB; rw [if_pos hh]
theorem hasB_ge {a b : Wd} {h : Int} (hh : ¬ h < 64) : hasB a b h = b.getLsbD (h - 64).toNat := by unfold hasB; rw [if_neg hh]
/-- One more hole. -/
theorem or_lo_lt (x : Wd) {h : Int} (hh : h < 64) (h0 : 0 ≤ h) : bits .or .u64 (U x) (IntKind.u64.wrap (2 ^ h.toNat)) = U (x ||| bitLo h) := by
  rw [bitLo_lt hh h0, bits_or_U]
theorem or_hi_ge (x : Wd) {h : Int} (hh : ¬ h < 64) (h1 : h < 96) : bits .or .u64 (U x) (IntKind.u64.wrap (2 ^ (h - 64).toNat)) = U (x ||| bitHi h) := by
  rw [bitHi_ge hh h1, bits_or_U]
theorem or_hi_lt (x : Wd) {h : Int} (hh : h < 64) : x ||| bitHi h = x := by unfold bitHi; rw [if_pos hh]; simp
theorem or_lo_ge (x : Wd) {h : Int} (hh : ¬ h < 64) : x ||| bitLo h = x := by unfold bitLo; rw [if_neg hh]; simp
/-! A block of the call's own, known whole. -/
abbrev Bx (w : World) (g : Nat) (cs : Array Value) (T : TypeId) : Prop := w.heap[g]? = some (.cells cs T (0, 0))
theorem Bx.lt {w : World} {g : Nat} {cs : Array Value} {T : TypeId} (h : Bx w g cs T) : g < w.heap.size := (Array.getElem?_eq_some_iff.1 h).1
theorem Bx.cell {w : World} {g : Nat} {cs : Array Value} {T : TypeId} (h : Bx w g cs T) (j : Nat) : w.cell? ⟨g, j, none⟩ = cs[j]? := cell_of_row w g j cs T (0, 0) h
theorem Bx.free {w : World} {g : Nat} {cs : Array Value} {T : TypeId} (h : Bx w g cs T) (j : Nat) : w.frozen? ⟨g, j, none⟩ = false := frozen_of_row w g j cs T h
theorem Bx.alloc {w : World} {g : Nat} {cs : Array Value} {T : TypeId} (h : Bx w g cs T) (o : Obj) : Bx (w.alloc o) g cs T := (Below.heap_alloc w o g h.lt).trans h
theorem Bx.new (w : World) (cs : Array Value) (T : TypeId) : Bx (w.alloc (.cells cs T)) w.heap.size cs T := heap_alloc_new w _
theorem Bx.new1 (w : World) (o : Obj) (cs : Array Value) (T : TypeId) : Bx ((w.alloc o).alloc (.cells cs T)) (w.heap.size + 1) cs T := by simpa using Bx.new (w.alloc o) cs T
theorem Bx.new2 (w : World) (o p : Obj) (cs : Array Value) (T : TypeId) : Bx (((w.alloc o).alloc p).alloc (.cells cs T)) (w.heap.size + 1 + 1) cs T := by simpa using Bx.new ((w.alloc o).alloc p) cs T
theorem Bx.new3 (w : World) (o p q : Obj) (cs : Array Value) (T : TypeId) : Bx ((((w.alloc o).alloc p).alloc q).alloc (.cells cs T)) (w.heap.size + 1 + 1 + 1) cs T := by simpa using Bx.new (((w.alloc o).alloc p).alloc q) cs T
theorem Bx.drew {w : World} {g : Nat} {cs : Array Value} {T : TypeId} (h : Bx w g cs T) : Bx w.drew g cs T := h
theorem Bx.drewN {w : World} {g : Nat} {cs : Array Value} {T : TypeId} (h : Bx w g cs T) (n : Nat) : Bx (w.drewN n) g cs T := h
theorem Bx.set {w : World} {g i : Nat} {cs : Array Value} {T : TypeId} (h : Bx w g cs T) (v : Value) : Bx (w.setCell ⟨g, i, none⟩ v) g (cs.setIfInBounds i v) T := heap_setCell_same w g i cs T v h
theorem Bx.set' {w : World} {g : Nat} {cs : Array Value} {T : TypeId} (h : Bx w g cs T) {a : Addr} (hne : g ≠ a.block) (v : Value) : Bx (w.setCell a v) g cs T := (Below.heap_setCell w a v g hne).trans h
theorem Bx.keep {w w' : World} {g : Nat} {cs : Array Value} {T : TypeId} (h : Bx w g cs T) (k : Keep w w') : Bx w' g cs T := k.block h
theorem Bx.one {w : World} {g : Nat} {x : Value} {T : TypeId} (h : Bx w g #[x] T) : w.cell? ⟨g, 0, none⟩ = some x ∧ w.frozen? ⟨g, 0, none⟩ = false ∧ g < w.heap.size := ⟨h.cell 0, h.free 0, h.lt⟩
theorem Bx.two {w : World} {g : Nat} {x y : Value} {T : TypeId} (h : Bx w g #[x, y] T) :
    w.cell? ⟨g, 0, none⟩ = some x ∧ w.cell? ⟨g, 1, none⟩ = some y ∧ w.frozen? ⟨g, 0, none⟩ = false ∧ w.frozen? ⟨g, 1, none⟩ = false ∧ g < w.heap.size := ⟨h.cell 0, h.cell 1, h.free 0, h.free 1, h.lt⟩
theorem Bx.three {w : World} {g : Nat} {x y z : Value} {T : TypeId} (h : Bx w g #[x, y, z] T) :
    w.cell? ⟨g, 0, none⟩ = some x ∧ w.cell? ⟨g, 1, none⟩ = some y ∧ w.cell? ⟨g, 2, none⟩ = some z ∧ w.frozen? ⟨g, 0, none⟩ = false ∧ w.frozen? ⟨g, 1, none⟩ = false ∧ w.frozen? ⟨g, 2, none⟩ = false ∧ g < w.heap.size :=
  ⟨h.cell 0, h.cell 1, h.cell 2, h.free 0, h.free 1, h.free 2, h.lt⟩
theorem Bx.four {w : World} {g : Nat} {x y z u : Value} {T : TypeId} (h : Bx w g #[x, y, z, u] T) :
    w.cell? ⟨g, 0, none⟩ = some x ∧ w.cell? ⟨g, 1, none⟩ = some y ∧ w.cell? ⟨g, 2, none⟩ = some z ∧ w.cell? ⟨g, 3, none⟩ = some u ∧ w.frozen? ⟨g, 0, none⟩ = false ∧ w.frozen? ⟨g, 1, none⟩ = false ∧ w.frozen? ⟨g, 2, none⟩ = false ∧ w.frozen? ⟨g, 3, none⟩ = false ∧ g < w.heap.size :=
  ⟨h.cell 0, h.cell 1, h.cell 2, h.cell 3, h.free 0, h.free 1, h.free 2, h.free 3, h.lt⟩
end Go.Proofs.YtpmilcfppcmodaaDoor

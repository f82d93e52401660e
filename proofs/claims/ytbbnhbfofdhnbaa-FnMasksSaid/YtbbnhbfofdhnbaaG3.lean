/- Statements that draw their order and take one number out of a source. -/
import Derived.Test.YtbbnhbfofdhnbaaG2
set_option linter.unusedVariables false
set_option linter.unusedSimpArgs false
namespace Go.Proofs.Ytbbnhbfofdhnbaa
open Go.RowKit
set_option maxHeartbeats 1000000
set_option maxRecDepth 20000
theorem grown_setCell {a b : World} {row : Option Nat} (h : a.grownBy b row) {p : Addr} (hp : a.heap.size ≤ p.block) (v : Value) : a.grownBy (b.setCell p v) row :=
  ⟨h.os, h.tape, h.output, by simpa using h.size, fun i hi hne => (Below.heap_setCell b p v i (by omega)).trans (h.block i hi hne)⟩
theorem grown_alloc {a b : World} {row : Option Nat} (h : a.grownBy b row) (o : Obj) : a.grownBy (b.alloc o) row :=
  ⟨h.os, h.tape, h.output, by have := h.size; simp; omega, fun i hi hne => (Below.heap_alloc b o i (Nat.lt_of_lt_of_le hi h.size)).trans (h.block i hi hne)⟩
/-- A source of draws, whole: at most so many bytes on. -/
def Srcx (w : World) (g k : Nat) : Prop := ∃ (S : Option Addr) (l : List UInt8) (c : Nat), Src w g S l.length c k ∧ Rd w S (bys l) ∧ (l ≠ [] → ∀ b o, S = some ⟨b, o, none⟩ → b < g) ∧ l.length ≤ 9223372036854775807
theorem Srcx.keep {w w' : World} {g k : Nat} (h : Srcx w g k) (hk : Keep w w') : Srcx w' g k := by
  obtain ⟨S, l, c, h1, h2, h3, h4⟩ := h
  exact ⟨S, l, c, h1.keep hk, h2.keep hk, h3, h4⟩
theorem Srcx.more {w : World} {g k m : Nat} (h : Srcx w g k) (hm : k ≤ m) : Srcx w g m := by
  obtain ⟨S, l, c, h1, h2, h3, h4⟩ := h
  exact ⟨S, l, c, h1.more hm, h2, h3, h4⟩
theorem Srcx.lt {w : World} {g k : Nat} (h : Srcx w g k) : g < w.heap.size := by
  obtain ⟨S, l, c, ⟨i, sd, h1, h2⟩, _⟩ := h
  exact h2.lt
theorem rd_grown {w w' : World} {row : Option Nat} {S : Option Addr} {cs : List Value} (h : Rd w S cs) (hg : w.grownBy w' row) (hne : cs ≠ [] → ∀ b o, S = some ⟨b, o, none⟩ → some b ≠ row) : Rd w' S cs := by
  rcases h with h | ⟨b, o, h, hc⟩
  · exact .inl h
  · by_cases h0 : cs = []
    · exact .inl h0
    · exact .inr ⟨b, o, h, fun j v hj => hg.cell (hc j v hj) (hne h0 b o h)⟩
theorem Srcx.set {w : World} {g k : Nat} (h : Srcx w g k) {a : Addr} (ha : g < a.block) (v : Value) : Srcx (w.setCell a v) g k := by
  obtain ⟨S, l, c, ⟨i, sd, h1, h5⟩, h2, h3, h4⟩ := h
  refine ⟨S, l, c, ⟨i, sd, h1, h5.set' (by omega) v⟩, ?_, h3, h4⟩
  by_cases h0 : l = []
  · subst h0; exact .inl rfl
  · refine rd_grown (row := some a.block) h2 ⟨rfl, rfl, rfl, by simp, fun i hi hne => Below.heap_setCell w a v i (by simpa using hne)⟩ (fun _ b o hb => ?_)
    have := h3 h0 b o hb
    simp; omega
theorem srcx_pick (n : Int) (g k : Nat) (w : World) (hn : 1 ≤ n ∧ n ≤ 200) (hk : k ≤ 1000000) (h : Srcx w g k) :
    Calls Try.prog 34 #[.pointer (some ⟨g, 0, none⟩), .int .i64 n] w fun e w' => ∃ r : Int, e = .returned (.int .i64 r) ∧ 0 ≤ r ∧ r < n ∧ w.grownBy w' (some g) ∧ Srcx w' g (k + 1) := by
  by_cases h1 : n = 1
  · subst h1
    have H := Aside.mk (h.more (Nat.le_succ k))
    clear h
    go_enter Try.func34, Try.ntmps34
    go_wp2
    go_ret; exact ⟨0, rfl, by decide, by decide, grown_refl _ _, H.out⟩
  · obtain ⟨S, l, c, h1, h2, h3, h4⟩ := h
    refine (src_pick n l g S c k w ⟨by omega, hn.2⟩ hk h4 h2 (fun h0 b o hb => Nat.ne_of_lt (h3 h0 b o hb)) h1).mono ?_
    rintro e w' ⟨r, he, r0, r1, hg, hS⟩
    exact ⟨r, he, r0, r1, hg, S, l, c, hS, rd_grown h2 hg (fun h0 b o hb => by
      have := h3 (by rintro rfl; exact h0 rfl) b o hb
      simp; omega), h3, h4⟩
theorem srcx_from (S : Option Addr) (l : List UInt8) (c : Nat) (w : World) (hm : l.length ≤ 9223372036854775807) (hR : Rd w S (bys l)) :
    Calls Try.prog 22 #[.slice S l.length c] w fun e w' => ∃ g, e = .returned (.pointer (some ⟨g, 0, none⟩)) ∧ w.heap.size ≤ g ∧ Keep w w' ∧ Srcx w' g 0 := by
  refine (src_from S l.length c w).mono ?_
  rintro e w' ⟨g, he, h1, h2, h3⟩
  refine ⟨g, he, h1, h2, S, l, c, h3, hR.keep h2, fun h0 b o hb => ?_, hm⟩
  subst hb
  rcases hR with h | ⟨b', o', h, hc⟩
  · exact absurd (by simpa [bys] using h) h0
  · simp only [Option.some.injEq, Addr.mk.injEq, and_true] at h
    obtain ⟨rfl, rfl⟩ := h
    have hl : 0 < l.length := List.length_pos_iff.2 h0
    have := World.block_lt_of_cell? w _ (hc 0 _ (bys_at l 0 hl))
    simp at this
    omega
/-- A value of which something is known, whatever the world. -/
def Fp (p : Value → Prop) : Fact := fun v _ => p v
/-- A number that was drawn. -/
def Pk (n : Int) : Fact := Fp fun v => ∃ r : Int, v = .int .i64 r ∧ 0 ≤ r ∧ r < n
def GrowFact (g : Nat) (R : Fact) : Prop := ∀ v w w', R v w → w.grownBy w' (some g) → R v w'
def AllGrow (g : Nat) : List Fact → Prop
  | [] => True
  | R :: Rs => GrowFact g R ∧ AllGrow g Rs
theorem Fx.grow (g : Nat) (x : Value) : GrowFact g (Fx x) := fun _ _ _ h _ => h
theorem Fp.grow (g : Nat) (p : Value → Prop) : GrowFact g (Fp p) := fun _ _ _ h _ => h
theorem Al.grow {g B : Nat} (cs : Array Value) (T : TypeId) (h : g < B) : GrowFact g (Al B cs T) := fun _ _ _ ⟨i, h1, h2, h3⟩ hg => ⟨i, h1, h2.grownBy hg (by simp; omega), h3⟩
theorem grow_of {g : Nat} {Rs : List Fact} (h : AllGrow g Rs) : ∀ i v w w', factAt Rs i v w → w.grownBy w' (some g) → factAt Rs i v w' := by
  induction Rs with
  | nil => intro i v w w' _ _; simp [factAt]
  | cons R Rs ih =>
    intro i v w w' hf hk
    cases i with
    | zero => exact h.1 v w w' hf hk
    | succ i => exact ih h.2 i v w w' hf hk
def JS (W0 : World) (g k : Nat) (b : Bool) (w : World) : Prop := W0.grownBy w (some g) ∧ Srcx w g (if b then k + 1 else k)
theorem js_other {W0 w w' : World} {g k p0 i : Nat} (h : i ≠ p0) (hk : Keep w w') : StJ (JS W0 g k) p0 g i w w' := by
  unfold StJ; rw [if_neg h]; exact hk
theorem js_call {P : Program} {f : FuncId} {args : Array Value} {W0 w : World} {g k p0 i : Nat} {X : Value} (hi : i ≠ p0) (h : Calls P f args w fun e w' => e = .returned X ∧ Keep w w') :
    Calls P f args w fun e w' => ∃ u, e = .returned u ∧ StJ (JS W0 g k) p0 g i w w' ∧ Fx X u w' := h.mono fun e w' ⟨h1, h2⟩ => ⟨X, h1, js_other hi h2, rfl⟩
theorem js_callp {P : Program} {f : FuncId} {args : Array Value} {W0 w : World} {g k p0 i : Nat} {p : Value → Prop} {X : Value} (hi : i ≠ p0) (hp : p X) (h : Calls P f args w fun e w' => e = .returned X ∧ Keep w w') :
    Calls P f args w fun e w' => ∃ u, e = .returned u ∧ StJ (JS W0 g k) p0 g i w w' ∧ Fp p u w' := h.mono fun e w' ⟨h1, h2⟩ => ⟨X, h1, js_other hi h2, hp⟩
theorem js_pick {W0 w : World} {g k i : Nat} {n : Int} (hn : 1 ≤ n ∧ n ≤ 200) (hk : k ≤ 1000000) (h : JS W0 g k false w) :
    Calls Try.prog 34 #[.pointer (some ⟨g, 0, none⟩), .int .i64 n] w fun e w' => ∃ u, e = .returned u ∧ StJ (JS W0 g k) i g i w w' ∧ Pk n u w' := by
  refine (srcx_pick n g k w hn hk h.2).mono ?_
  rintro e w' ⟨r, he, r0, r1, hg, hS⟩
  refine ⟨_, he, ?_, r, rfl, r0, r1⟩
  unfold StJ
  rw [if_pos rfl]
  exact ⟨hg, grown_trans h.1 hg, hS⟩
section
variable {P : Program} {Q : Exit → Act → World → Prop}
theorem wp_region_src {id : Nat} {l : List Oper} {a : Act} {w : World} (n : Nat) (Rs : List Fact) (p0 g k : Nat) (hm : P.follows .mixedOrders = true) (hB : monoB a.tmps.size l.toArray n = true) (hR : AllGrow g Rs) (hp : p0 < n) (hS : Srcx w g k)
    (steps : StepsJ P (JS w g k) p0 g (fun v => putAll v 0 (l.take n) a) Rs 0 (l.take n))
    (tail : ∀ v w', w.grownBy w' (some g) → Srcx w' g (k + 1) → Held Rs v w' n → wpList P l.toArray Q (l.drop n) (putAll v 0 (l.take n) a) w') : (Code.region id l.toArray true).wp P Q a w :=
  wp_region_monoJ n Rs hm hB (grow_of hR) (fun b w1 w2 h hk => ⟨grown_trans h.1 (grown_keep hk _), h.2.keep hk⟩) hp ⟨grown_refl _ _, hS⟩ steps (fun v w' h hh => tail v w' h.1 h.2 hh)
end
end Go.Proofs.Ytbbnhbfofdhnbaa

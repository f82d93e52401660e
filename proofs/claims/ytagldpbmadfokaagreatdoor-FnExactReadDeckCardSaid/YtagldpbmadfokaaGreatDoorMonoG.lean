/- A statement that draws its order, with guards, and with one store into an old block that nothing else of it reads. -/
import Derived.Test.YtagldpbmadfokaaGreatDoorMonoJ
set_option linter.unusedVariables false
set_option linter.unusedSimpArgs false
namespace Go.Proofs.YtagldpbmadfokaaGreatDoor
open Go.RowKit
set_option maxHeartbeats 1000000
set_option maxRecDepth 20000
def bDstG (size : Nat) (ops : Array Oper) (p0 : Nat) : Bool := (List.range ops.size).all fun i => match ops[i]? with
  | some o => (match o.dst with
    | some d => decide (d < size) && (List.range ops.size).all (fun j => decide (j = i) || match ops[j]? with | some p => p.dst != some d | none => true)
    | none => decide (i = p0))
  | none => false
def storeB (size : Nat) (ops : Array Oper) (p0 : Nat) : Bool := decide (p0 < ops.size) && bEdges ops && bDstG size ops p0
theorem dstG_of {size p0 : Nat} {ops : Array Oper} (h : bDstG size ops p0 = true) {i : Nat} {o : Oper} (ho : ops[i]? = some o) {d : Tmp} (hd : o.dst = some d) :
    d < size ∧ ∀ j p, ops[j]? = some p → p.dst = some d → j = i := by
  have hi : i < ops.size := (Array.getElem?_eq_some_iff.1 ho).1
  have := List.all_eq_true.1 h i (List.mem_range.2 hi)
  rw [ho] at this
  simp only [hd, Bool.and_eq_true, decide_eq_true_eq, List.all_eq_true, List.mem_range, Bool.or_eq_true] at this
  refine ⟨this.1, fun j p hp hpd => ?_⟩
  rcases this.2 j (Array.getElem?_eq_some_iff.1 hp).1 with h1 | h1
  · exact h1
  · rw [hp] at h1
    simp [hpd] at h1
inductive StepsG (P : Program) (J : Bool → World → Prop) (p0 g0 : Nat) (ops : Array Oper) (A : (Nat → Value) → Act) (Rs : List Fact) : Nat → List Oper → Prop
  | nil (i : Nat) : StepsG P J p0 g0 ops A Rs i []
  | run (i : Nat) (o : Oper) (os : List Oper) (h : ∀ v w b, (i = p0 → b = false) → J b w → DepsOf Rs v w o → Region.wanted o (yielded ops (A v).tmps) = true ∧ Gives P o (A v) w (fun u w' => StJ J p0 g0 i w w' ∧ factAt Rs i u w')) (t : StepsG P J p0 g0 ops A Rs (i + 1) os) : StepsG P J p0 g0 ops A Rs i (o :: os)
  | skip (i : Nat) (o : Oper) (os : List Oper) (hi : i ≠ p0) (h : ∀ v w, DepsOf Rs v w o → Region.wanted o (yielded ops (A v).tmps) = false ∧ ∀ w', factAt Rs i undef w') (t : StepsG P J p0 g0 ops A Rs (i + 1) os) : StepsG P J p0 g0 ops A Rs i (o :: os)
theorem steps_atG {P : Program} {J : Bool → World → Prop} {p0 g0 : Nat} {ops : Array Oper} {A : (Nat → Value) → Act} {Rs : List Fact} : ∀ (l : List Oper) (i k : Nat) (o : Oper), StepsG P J p0 g0 ops A Rs i l → l[k]? = some o →
    ∀ v w b, (i + k = p0 → b = false) → J b w → DepsOf Rs v w o → (Region.wanted o (yielded ops (A v).tmps) = true ∧ Gives P o (A v) w (fun u w' => StJ J p0 g0 (i + k) w w' ∧ factAt Rs (i + k) u w')) ∨
      (i + k ≠ p0 ∧ Region.wanted o (yielded ops (A v).tmps) = false ∧ ∀ w', factAt Rs (i + k) undef w')
  | [], _, _, _, _, h => by simp at h
  | p :: os, i, 0, o, h, ho => by
    simp at ho; subst ho
    cases h with
    | run _ _ _ h1 h2 => exact fun v w b hb hJ hd => .inl (h1 v w b hb hJ hd)
    | skip _ _ _ hi h1 h2 => exact fun v w b hb hJ hd => .inr ⟨hi, h1 v w hd⟩
  | p :: os, i, k + 1, o, h, ho => by
    rw [show i + (k + 1) = i + 1 + k by omega]
    cases h with
    | run _ _ _ h1 h2 => exact steps_atG os (i + 1) k o h2 (by simpa using ho)
    | skip _ _ _ hi h1 h2 => exact steps_atG os (i + 1) k o h2 (by simpa using ho)
structure MonoInvG (ops : Array Oper) (J : Bool → World → Prop) (p0 : Nat) (a0 : Act) (Rs : List Fact) (listed : Array Bool) (a : Act) (w : World) : Prop where
  size : listed.size = ops.size
  frame : J (listed.getD p0 false) w
  defers : a.defers = a0.defers
  tsize : a.tmps.size = a0.tmps.size
  other : ∀ t, (∀ (j : Nat) (o : Oper), ops[j]? = some o → o.dst ≠ some t) → a.tmps[t]? = a0.tmps[t]?
  facts : ∀ (j : Nat) (o : Oper), ops[j]? = some o → listed.getD j false = true → factAt Rs j (valOf ops a j) w
section
variable {P : Program} {ops : Array Oper} {J : Bool → World → Prop} {p0 g0 : Nat} {a0 : Act} {Rs : List Fact} {Q : Exit → Act → World → Prop}
theorem act_of_invG {listed : Array Bool} {a : Act} {w : World} (hD : bDstG a0.tmps.size ops p0 = true)
    (I : MonoInvG ops J p0 a0 Rs listed a w) : a = putAll (valOf ops a) 0 ops.toList a0 := by
  have hs := putAll_size (valOf ops a) ops.toList 0 a0
  have hl : ∀ (j : Nat) (p : Oper), ops.toList[j]? = some p → ops[j]? = some p := fun j p h => by simpa using h
  have ht : a.tmps = (putAll (valOf ops a) 0 ops.toList a0).tmps := by
    apply Array.ext_getElem?
    intro t
    by_cases hx : ∃ (j : Nat) (o : Oper), ops[j]? = some o ∧ o.dst = some t
    · obtain ⟨j, o, ho, hd⟩ := hx
      obtain ⟨hlt, hu⟩ := dstG_of hD ho hd
      rw [putAll_hit (valOf ops a) t ops.toList 0 j a0 o (by simpa using ho) hd (fun k p hk hp => hu k p (hl k p hk) hp) hlt]
      have hlt' : t < a.tmps.size := by rw [I.tsize]; exact hlt
      simp [valOf, ho, hd, hlt']
    · rw [putAll_other _ t _ 0 a0 (fun o ho hd => by
        obtain ⟨j, hj⟩ := List.getElem?_of_mem ho
        exact hx ⟨j, o, hl j o hj, hd⟩)]
      exact I.other t fun j o ho hd => hx ⟨j, o, ho, hd⟩
  have hd : a.defers = (putAll (valOf ops a) 0 ops.toList a0).defers := by rw [hs.2]; exact I.defers
  exact (congr (congrArg Act.mk ht) hd : Act.mk a.tmps a.defers = Act.mk _ _)
theorem stJ_any {i : Nat} {w w' : World} {listed : Array Bool} (hJ : ∀ b w w', J b w → Keep w w' → J b w') (hf : J (listed.getD p0 false) w) (h : StJ J p0 g0 i w w') (hi : i < listed.size) : J ((listed.setIfInBounds i true).getD p0 false) w' := stJ_frame hJ hf h hi
/-- The value of an operation, behind another's. -/
theorem valOf_put {a : Act} {i j : Nat} {o p : Oper} {d0 : Option Tmp} {u : Value} (hD : bDstG a0.tmps.size ops p0 = true) (ht : a.tmps.size = a0.tmps.size) (ho : ops[i]? = some o) (hp : ops[j]? = some p) (hne : i ≠ j) : valOf ops (a.put o.dst u) j = valOf ops a j := by
  unfold valOf
  rw [hp]
  cases hpd : p.dst with
  | none => simp [hpd]
  | some d2 =>
    simp only [Option.bind_some, hpd]
    cases hd : o.dst with
    | none => rfl
    | some d =>
      have hne2 : d ≠ d2 := fun e => hne ((dstG_of hD hp hpd).2 i o ho (by rw [hd, e]))
      simp only [Act.put, Array.getD_eq_getD_getElem?, Array.getElem?_setIfInBounds_ne hne2]
theorem valOf_own {a : Act} {i : Nat} {o : Oper} {u : Value} (hD : bDstG a0.tmps.size ops p0 = true) (ht : a.tmps.size = a0.tmps.size) (ho : ops[i]? = some o) : valOf ops (a.put o.dst u) i = if o.dst = none then undef else u := by
  unfold valOf
  rw [ho]
  cases hd : o.dst with
  | none => simp [hd]
  | some d =>
    have hlt : d < a.tmps.size := by rw [ht]; exact (dstG_of hD ho hd).1
    simp only [Option.bind_some, hd, Act.put, Array.getD_eq_getD_getElem?, Array.getElem?_setIfInBounds_self_of_lt hlt, Option.getD_some]
    simp
theorem mono_headG (hp0 : p0 < ops.size) (hE : bEdges ops = true) (hD : bDstG a0.tmps.size ops p0 = true)
    (hmono : ∀ i v w w', factAt Rs i v w → w.grownBy w' (some g0) → factAt Rs i v w') (hJ : ∀ b w w', J b w → Keep w w' → J b w') (hR0 : ∀ w, factAt Rs p0 undef w)
    (steps : StepsG P J p0 g0 ops (fun v => putAll v 0 ops.toList a0) Rs 0 ops.toList)
    (fin : ∀ v w, J true w → (∀ j, j < ops.size → factAt Rs j (v j) w) → Q .normal (putAll v 0 ops.toList a0) w) :
    ∀ (fuel : Nat) (listed : Array Bool) (a : Act) (w : World), MonoInvG ops J p0 a0 Rs listed a w → ((List.range ops.size).filter fun j => !listed.getD j false).length ≤ fuel → wpAny P .any ops Q fuel listed a w := by
  intro fuel
  have hfin : ∀ (listed : Array Bool) (a : Act) (w : World), MonoInvG ops J p0 a0 Rs listed a w → (∀ j, j < ops.size → listed.getD j false = true) → Q .normal a w := by
    intro listed a w I hall
    rw [act_of_invG hD I]
    refine fin _ _ (by have := I.frame; rwa [hall p0 hp0] at this) fun j hj => ?_
    exact I.facts j ops[j] (by simp [hj]) (hall j hj)
  have hrdy : ∀ (listed : Array Bool), listed.size = ops.size → Region.ready .any ops listed = [] → ∀ j, j < ops.size → listed.getD j false = true := by
    intro listed hs hr j hj
    cases hb : listed.getD j false
    · exfalso
      obtain ⟨j0, ⟨hj0, hl0⟩, hmin⟩ := exists_least (p := fun j => j < ops.size ∧ listed.getD j false = false) ⟨j, hj, hb⟩
      have ho0 : ops[j0]? = some ops[j0] := by simp [hj0]
      have hready : j0 ∈ Region.ready .any ops listed := by
        rw [mem_ready]
        refine ⟨?_, ops[j0], ho0, fun e he hb => ?_⟩
        · have : j0 < listed.size := by rw [hs]; omega
          simp [this] at hl0 ⊢; exact hl0
        · have hlt := edges_of hE ho0 he hb
          cases hb2 : listed.getD e.on false
          · have := hmin e.on ⟨by omega, hb2⟩; omega
          · rfl
      rw [hr] at hready; cases hready
    · rfl
  induction fuel with
  | zero =>
    intro listed a w I hf
    have hfn : (List.range ops.size).filter (fun j => !listed.getD j false) = [] := List.eq_nil_of_length_eq_zero (by omega)
    have hall : ∀ j, j < ops.size → listed.getD j false = true := fun j hj => by
      have := List.filter_eq_nil_iff.1 hfn j (List.mem_range.2 hj)
      simpa using this
    refine ⟨?_, hfin listed a w I hall⟩
    apply List.eq_nil_iff_forall_not_mem.2
    intro i hi
    obtain ⟨h0, o, ho, _⟩ := mem_ready.1 hi
    have hi' : i < ops.size := (Array.getElem?_eq_some_iff.1 ho).1
    have := hall i hi'
    simp [I.size, hi'] at h0 this
    rw [h0] at this; cases this
  | succ fuel ih =>
    intro listed a w I hf
    refine ⟨fun h0 => hfin listed a w I (hrdy listed I.size h0), fun i hi => ?_⟩
    obtain ⟨h0, o, ho, hdeps⟩ := mem_ready.1 hi
    have hi' : i < ops.size := (Array.getElem?_eq_some_iff.1 ho).1
    have hil : i < listed.size := by rw [I.size]; exact hi'
    have hl : listed.getD i false = false := by simp [hil] at h0 ⊢; exact h0
    have e := act_of_invG hD I
    have hdepf : DepsOf Rs (valOf ops a) w o := fun ed hed hb => by
      have hed' : ed ∈ o.after := by simpa using hed
      have hlt := edges_of hE ho hed' hb
      exact I.facts ed.on ops[ed.on] (by simp [show ed.on < ops.size by omega]) (hdeps ed hed' hb)
    have hg := steps_atG ops.toList 0 i o steps (by simpa using ho) (valOf ops a) w (listed.getD p0 false) (fun e => by rw [Nat.zero_add] at e; rw [← e]; exact hl) I.frame hdepf
    rw [← e, Nat.zero_add] at hg
    have hlen : ((List.range ops.size).filter fun j => !(listed.setIfInBounds i true).getD j false).length + 1 ≤ ((List.range ops.size).filter fun j => !listed.getD j false).length :=
      filter_drop ops.size i hi' (fun j => !listed.getD j false) (fun j => !(listed.setIfInBounds i true).getD j false) (by rw [hl]; rfl) (by simp [hil]) (fun j hj => by rw [getD_set_ne false hj])
    have next : ∀ (u : Value) (w' : World), StJ J p0 g0 i w w' → factAt Rs i (valOf ops (a.put o.dst u) i) w' → wpAny P .any ops Q fuel (listed.setIfInBounds i true) (a.put o.dst u) w' := by
      intro u w' hk hfact
      refine ih _ _ _ ⟨by simpa using I.size, stJ_frame hJ I.frame hk hil, ?_, ?_, fun t htn => ?_, fun j p hp hlj => ?_⟩ (by omega)
      · cases hd : o.dst <;> simp [Act.put, I.defers]
      · cases hd : o.dst <;> simp [Act.put, I.tsize]
      · rw [← I.other t htn]
        cases hd : o.dst with
        | none => rfl
        | some d =>
          have : d ≠ t := fun e => htn i o ho (by rw [hd, e])
          simp [Act.put, Array.getElem?_setIfInBounds_ne this]
      · by_cases hji : i = j
        · subst hji; exact hfact
        · rw [getD_set_ne false hji] at hlj
          rw [valOf_put (d0 := none) hD I.tsize ho hp hji]
          exact hmono j _ w w' (I.facts j p hp hlj) hk.ext
    unfold wpOp
    simp only [ho]
    rcases hg with ⟨hw, hg⟩ | ⟨hne, hw, hg⟩
    · rw [if_pos hw]
      refine .inl (wp_of_gives hg fun u w' ⟨hk, hfact⟩ => next u w' hk ?_)
      rw [valOf_own hD I.tsize ho]
      by_cases hn : o.dst = none
      · rw [if_pos hn]
        have : i = p0 := by
          have := List.all_eq_true.1 hD i (List.mem_range.2 hi')
          rw [ho] at this
          simp only [hn] at this
          exact of_decide_eq_true this
        subst this; exact hR0 _
      · rw [if_neg hn]; exact hfact
    · rw [if_neg (by rw [hw]; decide)]
      refine next undef w ?_ ?_
      · unfold StJ; rw [if_neg hne]; exact Keep.refl _
      · rw [valOf_own hD I.tsize ho]
        split <;> exact hg _
theorem wp_region_store {id : Nat} {l : List Oper} {a : Act} {w : World} (Rs : List Fact) (p0 g0 : Nat) (J : Bool → World → Prop) (hm : P.follows .mixedOrders = true) (hB : storeB a.tmps.size l.toArray p0 = true)
    (hmono : ∀ i v w w', factAt Rs i v w → w.grownBy w' (some g0) → factAt Rs i v w') (hJ : ∀ b w w', J b w → Keep w w' → J b w') (hR0 : ∀ w, factAt Rs p0 undef w) (h0 : J false w)
    (steps : StepsG P J p0 g0 l.toArray (fun v => putAll v 0 l a) Rs 0 l)
    (fin : ∀ v w', J true w' → Held Rs v w' l.length → Q .normal (putAll v 0 l a) w') : (Code.region id l.toArray true).wp P Q a w := by
  simp only [storeB, Bool.and_eq_true, decide_eq_true_eq] at hB
  obtain ⟨⟨hp, hE⟩, hD⟩ := hB
  have kd : Keep w { w with drawn := w.drawn + 1 } := keep_tick w
  refine wp_region_any hm (mono_headG (J := J) (p0 := p0) (g0 := g0) (a0 := a) (Rs := Rs) hp hE hD hmono hJ hR0 (by simpa using steps) (fun v w' hk hf => by simpa using fin v w' hk (held_of (by simpa using hf))) _ _ _ _ ?_ ?_)
  · refine ⟨by simp, (by rw [getD_rep]; exact hJ _ _ _ h0 kd), rfl, rfl, fun _ _ => rfl, fun j o ho hl => ?_⟩
    rw [getD_rep] at hl; cases hl
  · have := List.length_filter_le (fun j => !(Array.replicate l.toArray.size false).getD j false) (List.range l.toArray.size)
    simpa using this
def GrowS (g : Nat) : List Fact → Prop
  | [] => True
  | R :: Rs => (∀ v w w', R v w → w.grownBy w' (some g) → R v w') ∧ GrowS g Rs
theorem fx_grow (g : Nat) (x : Value) : ∀ v w w', Fx x v w → w.grownBy w' (some g) → Fx x v w' := fun _ _ _ h _ => h
theorem growS_of {g : Nat} {Rs : List Fact} (h : GrowS g Rs) : ∀ i v w w', factAt Rs i v w → w.grownBy w' (some g) → factAt Rs i v w' := by
  induction Rs with
  | nil => intro i v w w' _ _; simp [factAt]
  | cons R Rs ih =>
    intro i v w w' hf hk
    cases i with
    | zero => exact h.1 v w w' hf hk
    | succ i => exact ih h.2 i v w w' hf hk
/-- The old block's cells: ahead of the store, and behind it. -/
def JB (W0 : World) (g : Nat) (T : TypeId) (old new : Array Value) (b : Bool) (w : World) : Prop := W0.grownBy w (some g) ∧ Bx w g (if b then new else old) T
theorem jb_keep {W0 : World} {g : Nat} {T : TypeId} {old new : Array Value} : ∀ b w w', JB W0 g T old new b w → Keep w w' → JB W0 g T old new b w' := fun b w w' h hk => ⟨grown_trans h.1 (grown_keep hk _), h.2.keep hk⟩
theorem jb_other {W0 w w' : World} {g p0 i : Nat} {T : TypeId} {old new : Array Value} (h : i ≠ p0) (hk : Keep w w') : StJ (JB W0 g T old new) p0 g i w w' := by
  unfold StJ; rw [if_neg h]; exact hk
theorem jb_call {P : Program} {f : FuncId} {args : Array Value} {W0 w : World} {g p0 i : Nat} {T : TypeId} {old new : Array Value} {X : Value} (hi : i ≠ p0) (h : Calls P f args w fun e w' => e = .returned X ∧ Keep w w') :
    Calls P f args w fun e w' => ∃ u, e = .returned u ∧ StJ (JB W0 g T old new) p0 g i w w' ∧ Fx X u w' := h.mono fun e w' ⟨h1, h2⟩ => ⟨X, h1, jb_other hi h2, rfl⟩
theorem jb_store {W0 w w' : World} {g p0 : Nat} {T : TypeId} {old new : Array Value} (h : W0.grownBy w (some g)) (hg : w.grownBy w' (some g)) (hn : Bx w' g new T) : StJ (JB W0 g T old new) p0 g p0 w w' := by
  unfold StJ; rw [if_pos rfl]; exact ⟨hg, grown_trans h hg, hn⟩
theorem grown_set1 (w : World) (g j : Nat) (v : Value) : w.grownBy (w.setCell ⟨g, j, none⟩ v) (some g) :=
  ⟨rfl, rfl, rfl, by simp, fun i hi hne => Below.heap_setCell w ⟨g, j, none⟩ v i (by simpa using hne)⟩
end
end Go.Proofs.YtagldpbmadfokaaGreatDoor

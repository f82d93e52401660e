/- A statement that draws its order, whose operations load what was there, lay new memory and call what leaves old memory alone: whatever order is drawn, each operation's value has its own fact. -/
import Derived.Test.YtpmilcfppcmodaaDoorRd
import Derived.Orders
import Derived.Deep.Quiet
import Derived.Deep.QuietTactic
set_option linter.unusedVariables false
set_option linter.unusedSimpArgs false
namespace Go.Proofs.YtpmilcfppcmodaaDoor
open Go.RowKit

abbrev Fact := Value → World → Prop
/-- The value is this one. -/
def Fx (x : Value) : Fact := fun v _ => v = x
/-- What is asked of an operation's value and of the world behind it. -/
def givesUpon (P : Program) (G : Value → World → Prop) : Result Next → Prop
  | .ok (.value u) w => G u w
  | .ok .skip w => G undef w
  | .ok (.enter f args) w => Calls P f args w fun e w' => ∃ u, e = .returned u ∧ G u w'
  | _ => False
@[go_sem] theorem givesUpon_value (P : Program) (G : Value → World → Prop) (u : Value) (w : World) : givesUpon P G (.ok (.value u) w) = G u w := rfl
@[go_sem] theorem givesUpon_skip (P : Program) (G : Value → World → Prop) (w : World) : givesUpon P G (.ok .skip w) = G undef w := rfl
@[go_sem] theorem givesUpon_enter (P : Program) (G : Value → World → Prop) (f : FuncId) (args : Array Value) (w : World) :
    givesUpon P G (.ok (.enter f args) w) = Calls P f args w fun e w' => ∃ u, e = .returned u ∧ G u w' := rfl
structure Gives (P : Program) (o : Oper) (a : Act) (w : World) (G : Value → World → Prop) : Prop where
  out : givesUpon P G ((execOp a.eval o).run P w)
theorem wp_of_gives {P : Program} {o : Oper} {a : Act} {w : World} {G : Value → World → Prop} {K : Act → World → Prop} {Q : Exit → Act → World → Prop}
    (h : Gives P o a w G) (hK : ∀ u w', G u w' → K (a.put o.dst u) w') : o.wp P a w K Q := by
  have h := h.out
  unfold Oper.wp
  generalize (execOp a.eval o).run P w = r at *
  cases r with
  | ok n w' =>
    cases n <;> simp only [givesUpon] at h <;> simp only [Oper.upon]
    case value u => exact hK _ _ h
    case skip => exact hK _ _ h
    case enter f args => exact h.mono fun e w'' ⟨u, he, hg⟩ => by subst he; exact hK _ _ hg
  | halt x w' => simp only [givesUpon] at h

/-- The frame with the values of the first operations. -/
def putAll (v : Nat → Value) : Nat → List Oper → Act → Act
  | _, [], a => a
  | i, o :: os, a => putAll v (i + 1) os (a.put o.dst (v i))
def factAt (Rs : List Fact) (i : Nat) : Fact := Rs.getD i (fun _ _ => True)
/-- What is known of what the operation waits for. -/
def DepsOf (Rs : List Fact) (v : Nat → Value) (w : World) (o : Oper) : Prop := ∀ e ∈ o.after.toList, Region.binds .any e = true → factAt Rs e.on (v e.on) w
inductive Steps1 (P : Program) (W0 : World) (A : (Nat → Value) → Act) (Rs : List Fact) : Nat → List Oper → Prop
  | nil (i : Nat) : Steps1 P W0 A Rs i []
  | cons (i : Nat) (o : Oper) (os : List Oper) (h : ∀ v w, Keep W0 w → DepsOf Rs v w o → Gives P o (A v) w (fun u w' => Keep w w' ∧ factAt Rs i u w')) (t : Steps1 P W0 A Rs (i + 1) os) : Steps1 P W0 A Rs i (o :: os)
theorem steps_nil {P : Program} {W0 : World} {A : (Nat → Value) → Act} {Rs : List Fact} {i : Nat} : Steps1 P W0 A Rs i [] := .nil i
theorem steps_cons {P : Program} {W0 : World} {A : (Nat → Value) → Act} {Rs : List Fact} {i : Nat} {o : Oper} {os : List Oper}
    (h : ∀ v w, Keep W0 w → DepsOf Rs v w o → Gives P o (A v) w (fun u w' => Keep w w' ∧ factAt Rs i u w')) (t : Steps1 P W0 A Rs (i + 1) os) : Steps1 P W0 A Rs i (o :: os) := .cons i o os h t
def Held (Rs : List Fact) (v : Nat → Value) (w : World) : Nat → Prop
  | 0 => True
  | n + 1 => Held Rs v w n ∧ factAt Rs n (v n) w

def waitsB (o : Oper) (j : Nat) : Bool := o.after.any fun e => Region.binds .any e && e.on == j
def reads1 (o : Oper) : List Tmp := o.op.operands.toList.filterMap fun | .tmp t => some t | _ => none
/-! What is asked of the region's text (by the kernel): n operations ahead of a tail. -/
def bGuard (ops : Array Oper) : Bool := (List.range ops.size).all fun i => match ops[i]? with | some o => o.guard.isNone | none => true
def bEdges (ops : Array Oper) : Bool := (List.range ops.size).all fun i => match ops[i]? with | some o => o.after.all (fun e => !Region.binds .any e || decide (e.on < i)) | none => true
def bDst (size : Nat) (ops : Array Oper) (n : Nat) : Bool := (List.range n).all fun i => match ops[i]? with
  | some o => (match o.dst with
    | some d => decide (d < size) && (List.range n).all (fun j => decide (j = i) || match ops[j]? with | some p => p.dst != some d | none => true)
    | none => false)
  | none => false
def bReads (ops : Array Oper) (n : Nat) : Bool := (List.range n).all fun i => match ops[i]? with
  | some o => (reads1 o).all fun t => (List.range n).all fun j => match ops[j]? with | some p => p.dst != some t || waitsB o j | none => true
  | none => true
def bSink (ops : Array Oper) (n : Nat) : Bool := decide (n = ops.size) || (List.range n).all fun i => (List.range (n + 1)).any fun j => decide (i < j) && match ops[j]? with | some o => waitsB o i | none => false
def bChain (ops : Array Oper) (n : Nat) : Bool := (List.range ops.size).all fun t => decide (t ≤ n) || match ops[t]? with | some o => waitsB o (t - 1) | none => true
def monoB (size : Nat) (ops : Array Oper) (n : Nat) : Bool :=
  decide (n ≤ ops.size) && Region.noSelect ops && bGuard ops && bEdges ops && bDst size ops n && bReads ops n && bSink ops n && bChain ops n

theorem waitsB_spec {o : Oper} {j : Nat} (h : waitsB o j = true) : ∃ e ∈ o.after, Region.binds .any e = true ∧ e.on = j := by
  obtain ⟨e, he, hb⟩ := Array.any_eq_true'.1 h
  simp only [Bool.and_eq_true, beq_iff_eq] at hb
  exact ⟨e, he, hb.1, hb.2⟩
theorem guard_of {ops : Array Oper} (h : bGuard ops = true) {i : Nat} {o : Oper} (ho : ops[i]? = some o) : o.guard = none := by
  have hi : i < ops.size := (Array.getElem?_eq_some_iff.1 ho).1
  have := List.all_eq_true.1 h i (List.mem_range.2 hi)
  rw [ho] at this
  simpa using this
theorem edges_of {ops : Array Oper} (h : bEdges ops = true) {i : Nat} {o : Oper} (ho : ops[i]? = some o) {e : Edge} (he : e ∈ o.after) (hb : Region.binds .any e = true) : e.on < i := by
  have hi : i < ops.size := (Array.getElem?_eq_some_iff.1 ho).1
  have := List.all_eq_true.1 h i (List.mem_range.2 hi)
  rw [ho] at this
  have := Array.all_eq_true_iff_forall_mem.1 this e he
  simpa [hb] using this
theorem dst_of {size n : Nat} {ops : Array Oper} (h : bDst size ops n = true) {i : Nat} {o : Oper} (hin : i < n) (ho : ops[i]? = some o) :
    ∃ d, o.dst = some d ∧ d < size ∧ ∀ j p, j < n → ops[j]? = some p → p.dst = some d → j = i := by
  have := List.all_eq_true.1 h i (List.mem_range.2 hin)
  rw [ho] at this
  cases hd : o.dst with
  | none => simp [hd] at this
  | some d =>
    simp only [hd, Bool.and_eq_true, decide_eq_true_eq, List.all_eq_true, List.mem_range, Bool.or_eq_true] at this
    refine ⟨d, rfl, this.1, fun j p hj hp hpd => ?_⟩
    rcases this.2 j hj with h1 | h1
    · exact h1
    · rw [hp] at h1
      simp [hpd] at h1
theorem reads_of {n : Nat} {ops : Array Oper} (h : bReads ops n = true) {i j : Nat} {o p : Oper} (hin : i < n) (ho : ops[i]? = some o) (hjn : j < n) (hp : ops[j]? = some p) {t : Tmp} (ht : t ∈ reads1 o) (hd : p.dst = some t) : waitsB o j = true := by
  have := List.all_eq_true.1 h i (List.mem_range.2 hin)
  rw [ho] at this
  have := List.all_eq_true.1 (List.all_eq_true.1 this t ht) j (List.mem_range.2 hjn)
  rw [hp] at this
  simpa [hd] using this
theorem sink_of {n : Nat} {ops : Array Oper} (h : bSink ops n = true) (hn : n ≠ ops.size) {i : Nat} (hin : i < n) : ∃ j o, i < j ∧ j ≤ n ∧ ops[j]? = some o ∧ waitsB o i = true := by
  unfold bSink at h
  simp only [hn, decide_false, Bool.false_or, List.all_eq_true, List.mem_range, List.any_eq_true, Bool.and_eq_true, decide_eq_true_eq] at h
  obtain ⟨j, hj, hij, hw⟩ := h i hin
  cases ho : ops[j]? with
  | none => simp [ho] at hw
  | some o => exact ⟨j, o, hij, by omega, ho, by simpa [ho] using hw⟩
theorem chain_of {n : Nat} {ops : Array Oper} (h : bChain ops n = true) {t : Nat} {o : Oper} (ho : ops[t]? = some o) (hnt : n < t) : waitsB o (t - 1) = true := by
  have hi : t < ops.size := (Array.getElem?_eq_some_iff.1 ho).1
  have := List.all_eq_true.1 h t (List.mem_range.2 hi)
  rw [ho] at this
  simpa [show ¬ t ≤ n by omega] using this

theorem putAll_size (v : Nat → Value) : ∀ (l : List Oper) (i : Nat) (a : Act), (putAll v i l a).tmps.size = a.tmps.size ∧ (putAll v i l a).defers = a.defers
  | [], _, _ => ⟨rfl, rfl⟩
  | o :: os, i, a => by
    have h := putAll_size v os (i + 1) (a.put o.dst (v i))
    cases hd : o.dst <;> simpa [putAll, Act.put, hd] using h
theorem putAll_other (v : Nat → Value) (t : Nat) : ∀ (l : List Oper) (i : Nat) (a : Act), (∀ o ∈ l, o.dst ≠ some t) → (putAll v i l a).tmps[t]? = a.tmps[t]?
  | [], _, _, _ => rfl
  | o :: os, i, a, h => by
    rw [putAll, putAll_other v t os (i + 1) _ (fun p hp => h p (List.mem_cons_of_mem _ hp))]
    have ho := h o (List.mem_cons_self ..)
    cases hd : o.dst with
    | none => rfl
    | some d =>
      rw [hd] at ho
      have : d ≠ t := fun e => ho (by rw [e])
      simp [Act.put, Array.getElem?_setIfInBounds_ne this]
theorem putAll_hit (v : Nat → Value) (t : Nat) : ∀ (l : List Oper) (i k : Nat) (a : Act) (o : Oper), l[k]? = some o → o.dst = some t → (∀ j p, l[j]? = some p → p.dst = some t → j = k) → t < a.tmps.size →
    (putAll v i l a).tmps[t]? = some (v (i + k))
  | [], _, _, _, _, h, _, _, _ => by simp at h
  | p :: os, i, 0, a, o, h, hd, hu, ht => by
    simp at h
    subst h
    rw [putAll, putAll_other v t os (i + 1) _ (fun q hq hqd => by
      obtain ⟨j, hj⟩ := List.getElem?_of_mem hq
      have := hu (j + 1) q (by simpa using hj) hqd
      omega)]
    simp [Act.put, hd, Array.getElem?_setIfInBounds_self_of_lt ht]
  | p :: os, i, k + 1, a, o, h, hd, hu, ht => by
    rw [putAll, putAll_hit v t os (i + 1) k _ o (by simpa using h) hd (fun j q hj hq => by
      have := hu (j + 1) q (by simpa using hj) hq
      omega) (by cases hp : p.dst <;> simpa [Act.put, hp] using ht)]
    congr 2; omega

theorem filter_drop (n i : Nat) (hi : i < n) (p q : Nat → Bool) (hp : p i = true) (hq : q i = false) (h : ∀ j, i ≠ j → q j = p j) : ((List.range n).filter q).length + 1 ≤ ((List.range n).filter p).length := by
  induction n with
  | zero => omega
  | succ n ih =>
    rw [List.range_succ, List.filter_append, List.filter_append, List.length_append, List.length_append]
    by_cases hin : i = n
    · subst hin
      have : (List.range i).filter q = (List.range i).filter p := List.filter_congr fun j hj => h j (by have := List.mem_range.1 hj; omega)
      rw [this]
      simp [List.filter_cons, hp, hq]
    · have := ih (by omega)
      have e : (List.filter q [n]).length = (List.filter p [n]).length := by simp [List.filter_cons, h n hin]
      omega
theorem getD_rep (m t : Nat) : (Array.replicate m false).getD t false = false := by
  by_cases h : t < m <;> simp [h]
theorem held_of {Rs : List Fact} {v : Nat → Value} {w : World} : ∀ {n : Nat}, (∀ j, j < n → factAt Rs j (v j) w) → Held Rs v w n
  | 0, _ => trivial
  | n + 1, h => ⟨held_of fun j hj => h j (by omega), h n (by omega)⟩

/-- What holds while the first operations come up in some order. -/
structure MonoInv (ops : Array Oper) (n : Nat) (W0 : World) (a0 : Act) (Rs : List Fact) (listed : Array Bool) (a : Act) (w : World) : Prop where
  size : listed.size = ops.size
  tail : ∀ t, n ≤ t → listed.getD t false = false
  keep : Keep W0 w
  defers : a.defers = a0.defers
  tsize : a.tmps.size = a0.tmps.size
  other : ∀ t, (∀ j o, j < n → ops[j]? = some o → o.dst ≠ some t) → a.tmps[t]? = a0.tmps[t]?
  facts : ∀ j o d, j < n → ops[j]? = some o → o.dst = some d → listed.getD j false = true → factAt Rs j (a.tmps.getD d undef) w
  closed : ∀ k p, k < n → ops[k]? = some p → listed.getD k false = true → ∀ e ∈ p.after, Region.binds .any e = true → listed.getD e.on false = true

def valOf (ops : Array Oper) (a : Act) (j : Nat) : Value := match (ops[j]?).bind (·.dst) with | some d => a.tmps.getD d undef | none => undef

theorem act_of_inv {ops : Array Oper} {n : Nat} {W0 : World} {a0 : Act} {Rs : List Fact} {listed : Array Bool} {a : Act} {w : World} (hn : n ≤ ops.size) (hD : bDst a0.tmps.size ops n = true)
    (I : MonoInv ops n W0 a0 Rs listed a w) : a = putAll (valOf ops a) 0 (ops.toList.take n) a0 := by
  have hs := putAll_size (valOf ops a) (ops.toList.take n) 0 a0
  have hl : ∀ j p, (ops.toList.take n)[j]? = some p → j < n ∧ ops[j]? = some p := fun j p h => by
    rw [List.getElem?_take] at h
    split at h
    · exact ⟨‹_›, by simpa using h⟩
    · cases h
  have ht : a.tmps = (putAll (valOf ops a) 0 (ops.toList.take n) a0).tmps := by
    apply Array.ext_getElem?
    intro t
    by_cases hx : ∃ j o, j < n ∧ ops[j]? = some o ∧ o.dst = some t
    · obtain ⟨j, o, hj, ho, hd⟩ := hx
      obtain ⟨d, hd', hlt, hu⟩ := dst_of hD hj ho
      have : d = t := by rw [hd] at hd'; exact (Option.some.inj hd').symm
      subst this
      rw [putAll_hit (valOf ops a) d (ops.toList.take n) 0 j a0 o (by rw [List.getElem?_take, if_pos hj]; simpa using ho) hd (fun k p hk hp => hu k p (hl k p hk).1 (hl k p hk).2 hp) hlt]
      have hlt' : d < a.tmps.size := by rw [I.tsize]; exact hlt
      simp [valOf, ho, hd, hlt']
    · rw [putAll_other _ t _ 0 a0 (fun o ho hd => by
        obtain ⟨j, hj⟩ := List.getElem?_of_mem ho
        exact hx ⟨j, o, (hl j o hj).1, (hl j o hj).2, hd⟩)]
      exact I.other t fun j o hj ho hd => hx ⟨j, o, hj, ho, hd⟩
  have hd : a.defers = (putAll (valOf ops a) 0 (ops.toList.take n) a0).defers := by rw [hs.2]; exact I.defers
  exact (congr (congrArg Act.mk ht) hd : Act.mk a.tmps a.defers = Act.mk _ _)

theorem steps_at {P : Program} {W0 : World} {A : (Nat → Value) → Act} {Rs : List Fact} : ∀ (l : List Oper) (i k : Nat) (o : Oper), Steps1 P W0 A Rs i l → l[k]? = some o →
    ∀ v w, Keep W0 w → DepsOf Rs v w o → Gives P o (A v) w (fun u w' => Keep w w' ∧ factAt Rs (i + k) u w')
  | [], _, _, _, _, h => by simp at h
  | p :: os, i, 0, o, h, ho => by cases h with | cons _ _ _ h1 h2 => simp at ho; subst ho; exact h1
  | p :: os, i, k + 1, o, h, ho => by
    cases h with
    | cons _ _ _ h1 h2 =>
      have := steps_at os (i + 1) k o h2 (by simpa using ho)
      rw [show i + (k + 1) = i + 1 + k by omega]; exact this

section
variable {P : Program} {ops : Array Oper} {n : Nat} {W0 : World} {a0 : Act} {Rs : List Fact} {Q : Exit → Act → World → Prop}
theorem mono_tail (hE : bEdges ops = true) (hC : bChain ops n = true) : ∀ (m t0 fuel : Nat) (listed : Array Bool) (a : Act) (w : World), ops.size - t0 = m → n ≤ t0 → t0 ≤ ops.size → m ≤ fuel → listed.size = ops.size →
    (∀ j, j < ops.size → listed.getD j false = decide (j < t0)) → wpList P ops Q (ops.toList.drop t0) a w → wpAny P .any ops Q fuel listed a w := by
  intro m
  induction m with
  | zero =>
    intro t0 fuel listed a w hm hn ht hf hs hl h
    have e : t0 = ops.size := by omega
    have hr : Region.ready .any ops listed = [] := by
      apply List.eq_nil_iff_forall_not_mem.2
      intro i hi
      obtain ⟨h0, o, ho, _⟩ := mem_ready.1 hi
      have hi' : i < ops.size := (Array.getElem?_eq_some_iff.1 ho).1
      have := hl i hi'
      simp [hs, hi', show i < t0 by omega] at h0 this
      rw [h0] at this; cases this
    have hq : Q .normal a w := by rw [e, List.drop_of_length_le (by simp)] at h; exact h
    cases fuel with
    | zero => exact ⟨hr, hq⟩
    | succ f => exact ⟨fun _ => hq, fun i hi => (by rw [hr] at hi; cases hi)⟩
  | succ m ih =>
    intro t0 fuel listed a w hm hn ht hf hs hl h
    obtain ⟨f, rfl⟩ : ∃ f, fuel = f + 1 := ⟨fuel - 1, by omega⟩
    have hlt : t0 < ops.size := by omega
    have ho : ops[t0]? = some ops[t0] := by simp [hlt]
    have hready : t0 ∈ Region.ready .any ops listed := by
      rw [mem_ready]
      refine ⟨?_, ops[t0], ho, fun e he hb => ?_⟩
      · have := hl t0 hlt; simp [hs, hlt] at this ⊢; exact this
      · have := edges_of hE ho he hb
        rw [hl e.on (by omega)]; simpa using this
    refine ⟨fun h0 => (by rw [h0] at hready; cases hready), fun i hi => ?_⟩
    obtain ⟨h0, o, hoi, hall⟩ := mem_ready.1 hi
    have hi' : i < ops.size := (Array.getElem?_eq_some_iff.1 hoi).1
    have hge : t0 ≤ i := by
      rcases Nat.lt_or_ge i t0 with hlt' | hge
      · have := hl i hi'
        simp [hs, hi', hlt'] at h0 this
        rw [h0] at this; cases this
      · exact hge
    have hie : i = t0 := by
      rcases Nat.lt_or_ge t0 i with hgt | hle
      · obtain ⟨e, he, hb, hon⟩ := waitsB_spec (chain_of hC hoi (by omega))
        have := hall e he hb
        rw [hon, hl (i - 1) (by omega)] at this
        simp at this; omega
      · omega
    subst hie
    have hd : ops.toList.drop i = ops[i] :: ops.toList.drop (i + 1) := by
      rw [List.drop_eq_getElem_cons (by simpa using hlt)]; simp
    rw [hd] at h
    have hoo : o = ops[i] := by rw [ho] at hoi; exact (Option.some.inj hoi).symm
    subst hoo
    have h2 : wpOp P ops Q i (wpList P ops Q (ops.toList.drop (i + 1))) a w := by
      unfold wpOp
      simp only [hoi]
      exact h
    refine wpOp_mono (fun a' w' h3 => ih (i + 1) f _ a' w' (by omega) (by omega) (by omega) (by omega) (by simpa using hs) (fun j hj => ?_) h3) h2
    by_cases hji : i = j
    · subst hji; simp [hs, hlt]
    · rw [getD_set_ne false hji, hl j hj]
      simp; omega

theorem mono_head (hn : n ≤ ops.size) (hS : Region.noSelect ops = true) (hG : bGuard ops = true) (hE : bEdges ops = true) (hD : bDst a0.tmps.size ops n = true) (hR : bReads ops n = true) (hK : bSink ops n = true) (hC : bChain ops n = true)
    (hmono : ∀ i v w w', factAt Rs i v w → Keep w w' → factAt Rs i v w')
    (steps : Steps1 P W0 (fun v => putAll v 0 (ops.toList.take n) a0) Rs 0 (ops.toList.take n))
    (tail : ∀ v w, Keep W0 w → (∀ j, j < n → factAt Rs j (v j) w) → wpList P ops Q (ops.toList.drop n) (putAll v 0 (ops.toList.take n) a0) w) :
    ∀ (fuel : Nat) (listed : Array Bool) (a : Act) (w : World), MonoInv ops n W0 a0 Rs listed a w → ((List.range n).filter fun j => !listed.getD j false).length + (ops.size - n) ≤ fuel → wpAny P .any ops Q fuel listed a w := by
  intro fuel
  induction fuel with
  | zero =>
    intro listed a w I hf
    have hfn : (List.range n).filter (fun j => !listed.getD j false) = [] := List.eq_nil_of_length_eq_zero (by omega)
    have hall : ∀ j, j < n → listed.getD j false = true := fun j hj => by
      have := List.filter_eq_nil_iff.1 hfn j (List.mem_range.2 hj)
      simpa using this
    refine mono_tail hE hC (ops.size - n) n 0 listed a w rfl (Nat.le_refl _) hn (by omega) I.size (fun j hj => ?_) ?_
    · by_cases hj' : j < n
      · rw [hall j hj']; simp [hj']
      · rw [I.tail j (by omega)]; simp [hj']
    · have e := act_of_inv hn hD I
      rw [e]
      refine tail _ _ I.keep fun j hj => ?_
      have ho : ops[j]? = some ops[j] := by simp [show j < ops.size by omega]
      obtain ⟨d, hd, _⟩ := dst_of hD hj ho
      have := I.facts j _ d hj ho hd (hall j hj)
      have ev : valOf ops a j = a.tmps.getD d undef := by unfold valOf; rw [ho]; simp only [Option.bind_some, hd]
      rw [ev]; exact this
  | succ fuel ih =>
    intro listed a w I hf
    by_cases hall : ∀ j, j < n → listed.getD j false = true
    · refine mono_tail hE hC (ops.size - n) n (fuel + 1) listed a w rfl (Nat.le_refl _) hn (by omega) I.size (fun j hj => ?_) ?_
      · by_cases hj' : j < n
        · rw [hall j hj']; simp [hj']
        · rw [I.tail j (by omega)]; simp [hj']
      · have e := act_of_inv hn hD I
        rw [e]
        refine tail _ _ I.keep fun j hj => ?_
        have ho : ops[j]? = some ops[j] := by simp [show j < ops.size by omega]
        obtain ⟨d, hd, _⟩ := dst_of hD hj ho
        have := I.facts j _ d hj ho hd (hall j hj)
        have ev : valOf ops a j = a.tmps.getD d undef := by unfold valOf; rw [ho]; simp only [Option.bind_some, hd]
        rw [ev]; exact this
    · have hex : ∃ j, j < n ∧ listed.getD j false = false := by
        apply Classical.byContradiction
        intro hno
        exact hall fun j hj => by
          cases hb : listed.getD j false
          · exact absurd ⟨j, hj, hb⟩ hno
          · rfl
      obtain ⟨j0, ⟨hj0, hl0⟩, hmin⟩ := exists_least hex
      have ho0 : ops[j0]? = some ops[j0] := by simp [show j0 < ops.size by omega]
      have hready : j0 ∈ Region.ready .any ops listed := by
        rw [mem_ready]
        refine ⟨?_, ops[j0], ho0, fun e he hb => ?_⟩
        · have : j0 < listed.size := by rw [I.size]; omega
          simp [this] at hl0 ⊢; exact hl0
        · have hlt := edges_of hE ho0 he hb
          cases hb2 : listed.getD e.on false
          · have := hmin e.on ⟨by omega, hb2⟩; omega
          · rfl
      refine ⟨fun h0 => (by rw [h0] at hready; cases hready), fun i hi => ?_⟩
      obtain ⟨h0, o, ho, hdeps⟩ := mem_ready.1 hi
      have hi' : i < ops.size := (Array.getElem?_eq_some_iff.1 ho).1
      have hl : listed.getD i false = false := by
        have : i < listed.size := by rw [I.size]; exact hi'
        simp [this] at h0 ⊢; exact h0
      have hin : i < n := by
        rcases Nat.lt_or_ge i n with h1 | h1
        · exact h1
        · exfalso
          rcases Nat.lt_or_ge n i with h2 | h2
          · obtain ⟨e, he, hb, hon⟩ := waitsB_spec (chain_of hC ho h2)
            have := hdeps e he hb
            rw [hon, I.tail (i - 1) (by omega)] at this
            cases this
          · have hie : i = n := by omega
            subst hie
            apply hall
            have key : ∀ m j, i - j = m → j < i → listed.getD j false = true := by
              intro m
              induction m using Nat.strongRecOn with
              | _ m ihm =>
                intro j hm hj
                obtain ⟨k, p, hjk, hk, hp, hw⟩ := sink_of hK (by omega) hj
                obtain ⟨e, he, hb, hon⟩ := waitsB_spec hw
                rcases Nat.lt_or_ge k i with hki | hki
                · have hlk := ihm (i - k) (by omega) k rfl hki
                  -- k is listed: so what it waits for is: by contradiction on the least unlisted
                  cases hb2 : listed.getD j false
                  · exact absurd hlk (by
                      have := I.closed k p hki hp hlk e he hb
                      rw [hon, hb2] at this; cases this)
                  · rfl
                · have : k = i := by omega
                  subst this
                  have : p = o := by rw [hp] at ho; exact Option.some.inj ho
                  subst this
                  have := hdeps e he hb
                  rw [hon] at this; exact this
            exact fun j hj => key (i - j) j rfl hj
      obtain ⟨d, hd, hdl, hdu⟩ := dst_of hD hin ho
      have e := act_of_inv hn hD I
      have ht : (ops.toList.take n)[i]? = some o := by rw [List.getElem?_take, if_pos hin]; simpa using ho
      have hdepf : DepsOf Rs (valOf ops a) w o := fun ed hed hb => by
        have hed' : ed ∈ o.after := by simpa using hed
        have hlt := edges_of hE ho hed' hb
        have hoe : ops[ed.on]? = some ops[ed.on] := by simp [show ed.on < ops.size by omega]
        obtain ⟨d2, hd2, _⟩ := dst_of hD (show ed.on < n by omega) hoe
        have := I.facts ed.on _ d2 (by omega) hoe hd2 (hdeps ed hed' hb)
        have ev : valOf ops a ed.on = a.tmps.getD d2 undef := by unfold valOf; rw [hoe]; simp only [Option.bind_some, hd2]
        rw [ev]; exact this
      have hg := steps_at (ops.toList.take n) 0 i o steps ht (valOf ops a) w I.keep hdepf
      rw [← e, Nat.zero_add] at hg
      unfold wpOp
      simp only [ho]
      rw [if_pos (by simp [Region.wanted, guard_of hG ho])]
      refine .inl (wp_of_gives hg fun u w' ⟨hk, hfact⟩ => ih _ _ _ ?_ ?_)
      · refine ⟨by simpa using I.size, fun t htn => ?_, I.keep.trans hk, ?_, ?_, fun t htn => ?_, fun j p d2 hj hp hpd hlj => ?_, ?_⟩
        · rw [getD_set_ne false (by omega)]; exact I.tail t htn
        · simp [Act.put, hd, I.defers]
        · simp [Act.put, hd, I.tsize]
        · rw [← I.other t htn]
          have : d ≠ t := fun e => htn i o hin ho (by rw [hd, e])
          simp [Act.put, hd, Array.getElem?_setIfInBounds_ne this]
        · by_cases hji : i = j
          · subst hji
            have : p = o := by rw [hp] at ho; exact Option.some.inj ho
            subst this
            have : d2 = d := by rw [hd] at hpd; exact (Option.some.inj hpd).symm
            subst this
            have hlt' : d2 < a.tmps.size := by rw [I.tsize]; exact hdl
            simp only [Act.put, hd, Array.getD_eq_getD_getElem?, Array.getElem?_setIfInBounds_self_of_lt hlt', Option.getD_some]
            exact hfact
          · rw [getD_set_ne false hji] at hlj
            have hne : d ≠ d2 := fun e2 => hji (hdu j p hj hp (by rw [hpd, e2])).symm
            have := hmono j _ w w' (I.facts j p d2 hj hp hpd hlj) hk
            simpa only [Act.put, hd, Array.getD_eq_getD_getElem?, Array.getElem?_setIfInBounds_ne hne] using this
        · intro k p hk2 hp hlk ed hed hb
          by_cases hik : i = k
          · subst hik
            have : p = o := by rw [hp] at ho; exact Option.some.inj ho
            subst this
            exact getD_set_true (hdeps ed hed hb)
          · rw [getD_set_ne false hik] at hlk
            exact getD_set_true (I.closed k p hk2 hp hlk ed hed hb)
      · have hlen : ((List.range n).filter fun j => !(listed.setIfInBounds i true).getD j false).length + 1 ≤ ((List.range n).filter fun j => !listed.getD j false).length := by
          have hil : i < listed.size := by rw [I.size]; exact hi'
          exact filter_drop n i hin (fun j => !listed.getD j false) (fun j => !(listed.setIfInBounds i true).getD j false) (by rw [hl]; rfl) (by simp [hil]) (fun j hj => by rw [getD_set_ne false hj])
        omega
theorem wp_region_mono {id : Nat} {l : List Oper} {a : Act} {w : World} (n : Nat) (Rs : List Fact) (hm : P.follows .mixedOrders = true) (hB : monoB a.tmps.size l.toArray n = true)
    (hmono : ∀ i v w w', factAt Rs i v w → Keep w w' → factAt Rs i v w')
    (steps : Steps1 P w (fun v => putAll v 0 (l.take n) a) Rs 0 (l.take n))
    (tail : ∀ v w', Keep w w' → Held Rs v w' n → wpList P l.toArray Q (l.drop n) (putAll v 0 (l.take n) a) w') : (Code.region id l.toArray true).wp P Q a w := by
  simp only [monoB, Bool.and_eq_true, decide_eq_true_eq] at hB
  obtain ⟨⟨⟨⟨⟨⟨⟨hn, hS⟩, hG⟩, hE⟩, hD⟩, hR⟩, hK⟩, hC⟩ := hB
  have kd : Keep w { w with drawn := w.drawn + 1 } := ⟨⟨rfl, rfl, rfl, Nat.le_refl _, fun _ _ => rfl⟩⟩
  refine wp_region_any hm (mono_head (W0 := w) (a0 := a) (Rs := Rs) hn hS hG hE hD hR hK hC hmono steps (fun v w' hk hf => tail v w' hk (held_of hf)) _ _ _ _ ?_ ?_)
  · refine ⟨by simp, fun t _ => ?_, kd, rfl, rfl, fun _ _ => rfl, fun j o d hj ho hd hl => ?_, fun k p hk hp hl => ?_⟩
    · exact getD_rep _ t
    · rw [getD_rep] at hl; cases hl
    · rw [getD_rep] at hl; cases hl
  · have := List.length_filter_le (fun j => !(Array.replicate l.toArray.size false).getD j false) (List.range n)
    simp at this ⊢ hn
    omega
end

/-! A region that draws and only reads and calls what leaves old memory alone: each operation's value is fixed; it is walked once, in the order of the text. -/
theorem keep_tick (w : World) : Keep w { w with drawn := w.drawn + 1 } := ⟨⟨rfl, rfl, rfl, Nat.le_refl _, fun _ _ => rfl⟩⟩
theorem quiet_call {P : Program} {f : FuncId} {args : Array Value} {W w : World} {v : Value} (hk : Keep W w) (h : Calls P f args w fun e w' => e = .returned v ∧ Keep w w') :
    Calls P f args w fun e w'' => e = .returned v ∧ Keep W w'' := h.mono fun _ _ ⟨he, k⟩ => ⟨he, hk.trans k⟩
structure QAt (P : Program) (o : Oper) (a : Act) (W w : World) (v : Value) : Prop where
  out : Oper.quietAt P o a (Keep W) w v
inductive QuietL (P : Program) (ops : Array Oper) (W : World) (Fin : Act → Prop) : List Oper → Act → Prop
  | nil (a : Act) (h : Fin a) : QuietL P ops W Fin [] a
  | run (o : Oper) (os : List Oper) (a : Act) (v : Value) (hw : Region.wanted o (yielded ops a.tmps) = true) (h : ∀ w, Keep W w → QAt P o a W w v) (t : QuietL P ops W Fin os (a.put o.dst v)) : QuietL P ops W Fin (o :: os) a
  | skip (o : Oper) (os : List Oper) (a : Act) (hw : Region.wanted o (yielded ops a.tmps) = false) (t : QuietL P ops W Fin os (a.put o.dst undef)) : QuietL P ops W Fin (o :: os) a
theorem wpQuiet_of {P : Program} {ops : Array Oper} {W : World} {Fin : Act → Prop} {l : List Oper} {a : Act} (h : QuietL P ops W Fin l a) : wpQuiet P ops (Keep W) Fin l a := by
  induction h with
  | nil a h => exact wpQuiet_nil h
  | run o os a v hw h t ih =>
    unfold wpQuiet
    rw [if_pos hw]
    exact ⟨v, fun w hk => (h w hk).out, ih⟩
  | skip o os a hw t ih =>
    unfold wpQuiet
    rw [if_neg (by rw [hw]; decide)]
    exact ih
theorem wp_region_keep {P : Program} {id : Nat} {Q : Exit → Act → World → Prop} {a : Act} {W : World} {l : List Oper} (hm : P.follows .mixedOrders = true) (hB : Region.lexB .any l.toArray = true)
    (h : QuietL P l.toArray W (fun a' => ∀ w', Keep W w' → Q .normal a' w') l a) : (Code.region id l.toArray true).wp P Q a W :=
  wp_region_quiet (C := Keep W) hm hB (keep_tick W) (by simpa using wpQuiet_of h)
/-- The world behind a name: what is known of it is said. -/
theorem wp_gen {P : Program} {c : Code} {Q : Exit → Act → World → Prop} {a : Act} {w : World} (I : World → Prop) (h0 : I w) (h : ∀ w', I w' → c.wp P Q a w') : c.wp P Q a w := h w h0
/-! Facts that old memory's staying keeps. -/
def MonoFact (R : Fact) : Prop := ∀ v w w', R v w → Keep w w' → R v w'
def AllMono : List Fact → Prop
  | [] => True
  | R :: Rs => MonoFact R ∧ AllMono Rs
theorem mono_of {Rs : List Fact} (h : AllMono Rs) : ∀ i v w w', factAt Rs i v w → Keep w w' → factAt Rs i v w' := by
  induction Rs with
  | nil => intro i v w w' _ _; simp [factAt]
  | cons R Rs ih =>
    intro i v w w' hf hk
    cases i with
    | zero => exact h.1 v w w' hf hk
    | succ i => exact ih h.2 i v w w' hf hk
theorem Fx.mono (x : Value) : MonoFact (Fx x) := fun _ _ _ h _ => h
/-- A pointer to a new block (from block B on) with these cells. -/
def Al (B : Nat) (cs : Array Value) (T : TypeId) : Fact := fun v w => ∃ g, v = .pointer (some ⟨g, 0, none⟩) ∧ Bx w g cs T ∧ B ≤ g
theorem Al.mono (B : Nat) (cs : Array Value) (T : TypeId) : MonoFact (Al B cs T) := fun _ _ _ ⟨g, h1, h2, h3⟩ k => ⟨g, h1, h2.keep k, h3⟩
/-- A new slice (from block B on) of n elements, these its cells. -/
def Sl (B n : Nat) (cs : Array Value) (T : TypeId) : Fact := fun v w => ∃ g, v = .slice (some ⟨g, 0, none⟩) n n ∧ Bx w g cs T ∧ B ≤ g
theorem Sl.mono (B n : Nat) (cs : Array Value) (T : TypeId) : MonoFact (Sl B n cs T) := fun _ _ _ ⟨g, h1, h2, h3⟩ k => ⟨g, h1, h2.keep k, h3⟩
/-- A slice of the call's own (from block B on) with these cells. -/
def Ow (B : Nat) (T : TypeId) (sz n : Nat) (cs : List Value) : Fact := fun v w => w.ownsRow B T sz v n cs
theorem Ow.mono (B : Nat) (T : TypeId) (sz n : Nat) (cs : List Value) : MonoFact (Ow B T sz n cs) := fun _ _ _ h k => own_keep h k
end Go.Proofs.YtpmilcfppcmodaaDoor

/- A statement that draws its order, one of whose operations (a call) changes one old block: as Mono, in two modes: ahead of that call, and behind it. -/
import Derived.Test.YtagldpbmadfokaaGreatDoorAu
import Derived.Test.YtagldpbmadfokaaGreatDoorS3
set_option linter.unusedVariables false
set_option linter.unusedSimpArgs false
namespace Go.Proofs.YtagldpbmadfokaaGreatDoor
open Go.RowKit
/-- What operation i does to the world: the one with the number p0 may change block g0. -/
def StJ (J : Bool → World → Prop) (p0 g0 i : Nat) (w w' : World) : Prop := if i = p0 then w.grownBy w' (some g0) ∧ J true w' else Keep w w'
theorem StJ.ext {J : Bool → World → Prop} {p0 g0 i : Nat} {w w' : World} (h : StJ J p0 g0 i w w') : w.grownBy w' (some g0) := by
  unfold StJ at h
  split at h
  · exact h.1
  · exact grown_keep h _
theorem stJ_frame {J : Bool → World → Prop} {p0 g0 i : Nat} {w w' : World} {listed : Array Bool} (hJ : ∀ b w w', J b w → Keep w w' → J b w') (hf : J (listed.getD p0 false) w) (h : StJ J p0 g0 i w w') (hi : i < listed.size) : J ((listed.setIfInBounds i true).getD p0 false) w' := by
  unfold StJ at h
  split at h
  case isTrue e => subst e; have : (listed.setIfInBounds i true).getD i false = true := by simp [hi]
                   rw [this]; exact h.2
  case isFalse e => rw [getD_set_ne false e]; exact hJ _ _ _ hf h
inductive StepsJ (P : Program) (J : Bool → World → Prop) (p0 g0 : Nat) (A : (Nat → Value) → Act) (Rs : List Fact) : Nat → List Oper → Prop
  | nil (i : Nat) : StepsJ P J p0 g0 A Rs i []
  | cons (i : Nat) (o : Oper) (os : List Oper) (h : ∀ v w b, (i = p0 → b = false) → J b w → DepsOf Rs v w o → Gives P o (A v) w (fun u w' => StJ J p0 g0 i w w' ∧ factAt Rs i u w')) (t : StepsJ P J p0 g0 A Rs (i + 1) os) : StepsJ P J p0 g0 A Rs i (o :: os)
structure MonoInvJ (ops : Array Oper) (n : Nat) (J : Bool → World → Prop) (p0 : Nat) (a0 : Act) (Rs : List Fact) (listed : Array Bool) (a : Act) (w : World) : Prop where
  size : listed.size = ops.size
  tail : ∀ t, n ≤ t → listed.getD t false = false
  frame : J (listed.getD p0 false) w
  defers : a.defers = a0.defers
  tsize : a.tmps.size = a0.tmps.size
  other : ∀ t, (∀ j o, j < n → ops[j]? = some o → o.dst ≠ some t) → a.tmps[t]? = a0.tmps[t]?
  facts : ∀ j o d, j < n → ops[j]? = some o → o.dst = some d → listed.getD j false = true → factAt Rs j (a.tmps.getD d undef) w
  closed : ∀ k p, k < n → ops[k]? = some p → listed.getD k false = true → ∀ e ∈ p.after, Region.binds .any e = true → listed.getD e.on false = true

theorem act_of_invJ {ops : Array Oper} {n : Nat} {J : Bool → World → Prop} {p0 : Nat} {a0 : Act} {Rs : List Fact} {listed : Array Bool} {a : Act} {w : World} (hn : n ≤ ops.size) (hD : bDst a0.tmps.size ops n = true)
    (I : MonoInvJ ops n J p0 a0 Rs listed a w) : a = putAll (valOf ops a) 0 (ops.toList.take n) a0 := by
  have hs := putAll_size (valOf ops a) (ops.toList.take n) 0 a0
  have hl : ∀ j p, (ops.toList.take n)[j]? = some p → j < n ∧ ops[j]? = some p := fun j p h => by
    rw [List.getElem?_take] at h
    split at h
    · exact ⟨‹_›, by simpa using h⟩
    · cases h
  have ht : a.tmps = (putAll (valOf ops a) 0 (ops.toList.take n) a0).tmps := by
    apply Array.ext_getElem?
    intro t
    by_cases hx : ∃ j o, j < n ∧ ops[j]? = some o ∧ o.dst = some t
    · obtain ⟨j, o, hj, ho, hd⟩ := hx
      obtain ⟨d, hd', hlt, hu⟩ := dst_of hD hj ho
      have : d = t := by rw [hd] at hd'; exact (Option.some.inj hd').symm
      subst this
      rw [putAll_hit (valOf ops a) d (ops.toList.take n) 0 j a0 o (by rw [List.getElem?_take, if_pos hj]; simpa using ho) hd (fun k p hk hp => hu k p (hl k p hk).1 (hl k p hk).2 hp) hlt]
      have hlt' : d < a.tmps.size := by rw [I.tsize]; exact hlt
      simp [valOf, ho, hd, hlt']
    · rw [putAll_other _ t _ 0 a0 (fun o ho hd => by
        obtain ⟨j, hj⟩ := List.getElem?_of_mem ho
        exact hx ⟨j, o, (hl j o hj).1, (hl j o hj).2, hd⟩)]
      exact I.other t fun j o hj ho hd => hx ⟨j, o, hj, ho, hd⟩
  have hd : a.defers = (putAll (valOf ops a) 0 (ops.toList.take n) a0).defers := by rw [hs.2]; exact I.defers
  exact (congr (congrArg Act.mk ht) hd : Act.mk a.tmps a.defers = Act.mk _ _)

theorem steps_atJ {P : Program} {J : Bool → World → Prop} {p0 g0 : Nat} {A : (Nat → Value) → Act} {Rs : List Fact} : ∀ (l : List Oper) (i k : Nat) (o : Oper), StepsJ P J p0 g0 A Rs i l → l[k]? = some o →
    ∀ v w b, (i + k = p0 → b = false) → J b w → DepsOf Rs v w o → Gives P o (A v) w (fun u w' => StJ J p0 g0 (i + k) w w' ∧ factAt Rs (i + k) u w')
  | [], _, _, _, _, h => by simp at h
  | p :: os, i, 0, o, h, ho => by cases h with | cons _ _ _ h1 h2 => simp at ho; subst ho; exact h1
  | p :: os, i, k + 1, o, h, ho => by
    cases h with
    | cons _ _ _ h1 h2 =>
      have := steps_atJ os (i + 1) k o h2 (by simpa using ho)
      rw [show i + (k + 1) = i + 1 + k by omega]; exact this

section
variable {P : Program} {ops : Array Oper} {n : Nat} {J : Bool → World → Prop} {p0 g0 : Nat} {a0 : Act} {Rs : List Fact} {Q : Exit → Act → World → Prop}
theorem mono_headJ (hn : n ≤ ops.size) (hS : Region.noSelect ops = true) (hG : bGuard ops = true) (hE : bEdges ops = true) (hD : bDst a0.tmps.size ops n = true) (hR : bReads ops n = true) (hK : bSink ops n = true) (hC : bChain ops n = true)
    (hmono : ∀ i v w w', factAt Rs i v w → w.grownBy w' (some g0) → factAt Rs i v w') (hJ : ∀ b w w', J b w → Keep w w' → J b w') (hp : p0 < n)
    (steps : StepsJ P J p0 g0 (fun v => putAll v 0 (ops.toList.take n) a0) Rs 0 (ops.toList.take n))
    (tail : ∀ v w, J true w → (∀ j, j < n → factAt Rs j (v j) w) → wpList P ops Q (ops.toList.drop n) (putAll v 0 (ops.toList.take n) a0) w) :
    ∀ (fuel : Nat) (listed : Array Bool) (a : Act) (w : World), MonoInvJ ops n J p0 a0 Rs listed a w → ((List.range n).filter fun j => !listed.getD j false).length + (ops.size - n) ≤ fuel → wpAny P .any ops Q fuel listed a w := by
  intro fuel
  induction fuel with
  | zero =>
    intro listed a w I hf
    have hfn : (List.range n).filter (fun j => !listed.getD j false) = [] := List.eq_nil_of_length_eq_zero (by omega)
    have hall : ∀ j, j < n → listed.getD j false = true := fun j hj => by
      have := List.filter_eq_nil_iff.1 hfn j (List.mem_range.2 hj)
      simpa using this
    refine mono_tail hE hC (ops.size - n) n 0 listed a w rfl (Nat.le_refl _) hn (by omega) I.size (fun j hj => ?_) ?_
    · by_cases hj' : j < n
      · rw [hall j hj']; simp [hj']
      · rw [I.tail j (by omega)]; simp [hj']
    · have e := act_of_invJ hn hD I
      rw [e]
      refine tail _ _ (by have := I.frame; rwa [hall p0 hp] at this) fun j hj => ?_
      have ho : ops[j]? = some ops[j] := by simp [show j < ops.size by omega]
      obtain ⟨d, hd, _⟩ := dst_of hD hj ho
      have := I.facts j _ d hj ho hd (hall j hj)
      have ev : valOf ops a j = a.tmps.getD d undef := by unfold valOf; rw [ho]; simp only [Option.bind_some, hd]
      rw [ev]; exact this
  | succ fuel ih =>
    intro listed a w I hf
    by_cases hall : ∀ j, j < n → listed.getD j false = true
    · refine mono_tail hE hC (ops.size - n) n (fuel + 1) listed a w rfl (Nat.le_refl _) hn (by omega) I.size (fun j hj => ?_) ?_
      · by_cases hj' : j < n
        · rw [hall j hj']; simp [hj']
        · rw [I.tail j (by omega)]; simp [hj']
      · have e := act_of_invJ hn hD I
        rw [e]
        refine tail _ _ (by have := I.frame; rwa [hall p0 hp] at this) fun j hj => ?_
        have ho : ops[j]? = some ops[j] := by simp [show j < ops.size by omega]
        obtain ⟨d, hd, _⟩ := dst_of hD hj ho
        have := I.facts j _ d hj ho hd (hall j hj)
        have ev : valOf ops a j = a.tmps.getD d undef := by unfold valOf; rw [ho]; simp only [Option.bind_some, hd]
        rw [ev]; exact this
    · have hex : ∃ j, j < n ∧ listed.getD j false = false := by
        apply Classical.byContradiction
        intro hno
        exact hall fun j hj => by
          cases hb : listed.getD j false
          · exact absurd ⟨j, hj, hb⟩ hno
          · rfl
      obtain ⟨j0, ⟨hj0, hl0⟩, hmin⟩ := exists_least hex
      have ho0 : ops[j0]? = some ops[j0] := by simp [show j0 < ops.size by omega]
      have hready : j0 ∈ Region.ready .any ops listed := by
        rw [mem_ready]
        refine ⟨?_, ops[j0], ho0, fun e he hb => ?_⟩
        · have : j0 < listed.size := by rw [I.size]; omega
          simp [this] at hl0 ⊢; exact hl0
        · have hlt := edges_of hE ho0 he hb
          cases hb2 : listed.getD e.on false
          · have := hmin e.on ⟨by omega, hb2⟩; omega
          · rfl
      refine ⟨fun h0 => (by rw [h0] at hready; cases hready), fun i hi => ?_⟩
      obtain ⟨h0, o, ho, hdeps⟩ := mem_ready.1 hi
      have hi' : i < ops.size := (Array.getElem?_eq_some_iff.1 ho).1
      have hl : listed.getD i false = false := by
        have : i < listed.size := by rw [I.size]; exact hi'
        simp [this] at h0 ⊢; exact h0
      have hin : i < n := by
        rcases Nat.lt_or_ge i n with h1 | h1
        · exact h1
        · exfalso
          rcases Nat.lt_or_ge n i with h2 | h2
          · obtain ⟨e, he, hb, hon⟩ := waitsB_spec (chain_of hC ho h2)
            have := hdeps e he hb
            rw [hon, I.tail (i - 1) (by omega)] at this
            cases this
          · have hie : i = n := by omega
            subst hie
            apply hall
            have key : ∀ m j, i - j = m → j < i → listed.getD j false = true := by
              intro m
              induction m using Nat.strongRecOn with
              | _ m ihm =>
                intro j hm hj
                obtain ⟨k, p, hjk, hk, hpk, hw⟩ := sink_of hK (by omega) hj
                obtain ⟨e, he, hb, hon⟩ := waitsB_spec hw
                rcases Nat.lt_or_ge k i with hki | hki
                · have hlk := ihm (i - k) (by omega) k rfl hki
                  -- k is listed: so what it waits for is: by contradiction on the least unlisted
                  cases hb2 : listed.getD j false
                  · exact absurd hlk (by
                      have := I.closed k p hki hpk hlk e he hb
                      rw [hon, hb2] at this; cases this)
                  · rfl
                · have : k = i := by omega
                  subst this
                  have : p = o := by rw [hpk] at ho; exact Option.some.inj ho
                  subst this
                  have := hdeps e he hb
                  rw [hon] at this; exact this
            exact fun j hj => key (i - j) j rfl hj
      obtain ⟨d, hd, hdl, hdu⟩ := dst_of hD hin ho
      have e := act_of_invJ hn hD I
      have ht : (ops.toList.take n)[i]? = some o := by rw [List.getElem?_take, if_pos hin]; simpa using ho
      have hdepf : DepsOf Rs (valOf ops a) w o := fun ed hed hb => by
        have hed' : ed ∈ o.after := by simpa using hed
        have hlt := edges_of hE ho hed' hb
        have hoe : ops[ed.on]? = some ops[ed.on] := by simp [show ed.on < ops.size by omega]
        obtain ⟨d2, hd2, _⟩ := dst_of hD (show ed.on < n by omega) hoe
        have := I.facts ed.on _ d2 (by omega) hoe hd2 (hdeps ed hed' hb)
        have ev : valOf ops a ed.on = a.tmps.getD d2 undef := by unfold valOf; rw [hoe]; simp only [Option.bind_some, hd2]
        rw [ev]; exact this
      have hg := steps_atJ (ops.toList.take n) 0 i o steps ht (valOf ops a) w (listed.getD p0 false) (fun e => by rw [Nat.zero_add] at e; rw [← e]; exact hl) I.frame hdepf
      rw [← e, Nat.zero_add] at hg
      unfold wpOp
      simp only [ho]
      rw [if_pos (by simp [Region.wanted, guard_of hG ho])]
      refine .inl (wp_of_gives hg fun u w' ⟨hk, hfact⟩ => ih _ _ _ ?_ ?_)
      · refine ⟨by simpa using I.size, fun t htn => ?_, stJ_frame hJ I.frame hk (by rw [I.size]; exact hi'), ?_, ?_, fun t htn => ?_, fun j p d2 hj hp hpd hlj => ?_, ?_⟩
        · rw [getD_set_ne false (by omega)]; exact I.tail t htn
        · simp [Act.put, hd, I.defers]
        · simp [Act.put, hd, I.tsize]
        · rw [← I.other t htn]
          have : d ≠ t := fun e => htn i o hin ho (by rw [hd, e])
          simp [Act.put, hd, Array.getElem?_setIfInBounds_ne this]
        · by_cases hji : i = j
          · subst hji
            have : p = o := by rw [hp] at ho; exact Option.some.inj ho
            subst this
            have : d2 = d := by rw [hd] at hpd; exact (Option.some.inj hpd).symm
            subst this
            have hlt' : d2 < a.tmps.size := by rw [I.tsize]; exact hdl
            simp only [Act.put, hd, Array.getD_eq_getD_getElem?, Array.getElem?_setIfInBounds_self_of_lt hlt', Option.getD_some]
            exact hfact
          · rw [getD_set_ne false hji] at hlj
            have hne : d ≠ d2 := fun e2 => hji (hdu j p hj hp (by rw [hpd, e2])).symm
            have := hmono j _ w w' (I.facts j p d2 hj hp hpd hlj) hk.ext
            simpa only [Act.put, hd, Array.getD_eq_getD_getElem?, Array.getElem?_setIfInBounds_ne hne] using this
        · intro k p hk2 hp hlk ed hed hb
          by_cases hik : i = k
          · subst hik
            have : p = o := by rw [hp] at ho; exact Option.some.inj ho
            subst this
            exact getD_set_true (hdeps ed hed hb)
          · rw [getD_set_ne false hik] at hlk
            exact getD_set_true (I.closed k p hk2 hp hlk ed hed hb)
      · have hlen : ((List.range n).filter fun j => !(listed.setIfInBounds i true).getD j false).length + 1 ≤ ((List.range n).filter fun j => !listed.getD j false).length := by
          have hil : i < listed.size := by rw [I.size]; exact hi'
          exact filter_drop n i hin (fun j => !listed.getD j false) (fun j => !(listed.setIfInBounds i true).getD j false) (by rw [hl]; rfl) (by simp [hil]) (fun j hj => by rw [getD_set_ne false hj])
        omega
theorem wp_region_monoJ {id : Nat} {l : List Oper} {a : Act} {w : World} (n : Nat) (Rs : List Fact) (hm : P.follows .mixedOrders = true) (hB : monoB a.tmps.size l.toArray n = true)
    (hmono : ∀ i v w w', factAt Rs i v w → w.grownBy w' (some g0) → factAt Rs i v w') (hJ : ∀ b w w', J b w → Keep w w' → J b w') (hp : p0 < n)
    (h0 : J false w) (steps : StepsJ P J p0 g0 (fun v => putAll v 0 (l.take n) a) Rs 0 (l.take n))
    (tail : ∀ v w', J true w' → Held Rs v w' n → wpList P l.toArray Q (l.drop n) (putAll v 0 (l.take n) a) w') : (Code.region id l.toArray true).wp P Q a w := by
  simp only [monoB, Bool.and_eq_true, decide_eq_true_eq] at hB
  obtain ⟨⟨⟨⟨⟨⟨⟨hn, hS⟩, hG⟩, hE⟩, hD⟩, hR⟩, hK⟩, hC⟩ := hB
  have kd : Keep w { w with drawn := w.drawn + 1 } := ⟨⟨rfl, rfl, rfl, Nat.le_refl _, fun _ _ => rfl⟩⟩
  refine wp_region_any hm (mono_headJ (J := J) (p0 := p0) (g0 := g0) (a0 := a) (Rs := Rs) hn hS hG hE hD hR hK hC hmono hJ hp steps (fun v w' hk hf => tail v w' hk (held_of hf)) _ _ _ _ ?_ ?_)
  · refine ⟨by simp, fun t _ => ?_, (by rw [getD_rep]; exact hJ _ _ _ h0 kd), rfl, rfl, fun _ _ => rfl, fun j o d hj ho hd hl => ?_, fun k p hk hp hl => ?_⟩
    · exact getD_rep _ t
    · rw [getD_rep] at hl; cases hl
    · rw [getD_rep] at hl; cases hl
  · have := List.length_filter_le (fun j => !(Array.replicate l.toArray.size false).getD j false) (List.range n)
    simp at this ⊢ hn
    omega
end
end Go.Proofs.YtagldpbmadfokaaGreatDoor

/- A statement that draws its order and ends by a store, where one operation (the last part of a tuple) may come behind the store. -/
import Derived.Test.YtpmilcfppcmodaaDoorMono
set_option linter.unusedVariables false
set_option linter.unusedSimpArgs false
namespace Go.Proofs.YtpmilcfppcmodaaDoor
open Go.RowKit
def bSinkBut (ops : Array Oper) (n late : Nat) : Bool := (List.range n).all fun i => decide (i = late) || (List.range (n + 1)).any fun j => decide (i < j) && decide (j ≠ late) && match ops[j]? with | some o => waitsB o i | none => false
def lateB (size : Nat) (ops : Array Oper) (n late : Nat) : Bool :=
  decide (late < n) && decide (n + 1 < ops.size) && Region.noSelect ops && bGuard ops && bEdges ops && bDst size ops n && bSinkBut ops n late && bChain ops n &&
    (match ops[n]? with | some o => o.dst.isNone | none => false) && (match ops[n + 1]? with | some o => waitsB o late | none => false)
theorem sinkBut_of {ops : Array Oper} {n late : Nat} (h : bSinkBut ops n late = true) {i : Nat} (hin : i < n) (hl : i ≠ late) : ∃ j o, i < j ∧ j ≤ n ∧ j ≠ late ∧ ops[j]? = some o ∧ waitsB o i = true := by
  unfold bSinkBut at h
  simp only [List.all_eq_true, List.mem_range, List.any_eq_true, Bool.and_eq_true, Bool.or_eq_true, decide_eq_true_eq] at h
  rcases h i hin with h1 | ⟨j, hj, ⟨hij, hjl⟩, hw⟩
  · exact absurd h1 hl
  · cases ho : ops[j]? with
    | none => simp [ho] at hw
    | some o => exact ⟨j, o, hij, by omega, hjl, ho, by simpa [ho] using hw⟩
section
variable {P : Program} {ops : Array Oper} {n late : Nat} {W0 : World} {a0 : Act} {Rs Rt : List Fact} {Q : Exit → Act → World → Prop}
theorem inv_none {a : Act} {w : World} (hk : Keep W0 w) (hd : a.defers = a0.defers) (ht : a.tmps.size = a0.tmps.size) (ho : ∀ t, (∀ j o, j < n → ops[j]? = some o → o.dst ≠ some t) → a.tmps[t]? = a0.tmps[t]?) :
    MonoInv ops n W0 a0 Rs (Array.replicate ops.size false) a w :=
  ⟨by simp, fun t _ => getD_rep _ t, hk, hd, ht, ho, fun j o d hj hoj hdj hl => (by rw [getD_rep] at hl; cases hl), fun k p hk hp hl => (by rw [getD_rep] at hl; cases hl)⟩
theorem valOf_eq {a : Act} {j d : Nat} {o : Oper} (ho : ops[j]? = some o) (hd : o.dst = some d) : valOf ops a j = a.tmps.getD d undef := by
  unfold valOf; rw [ho]; simp only [Option.bind_some, hd]
/-- Behind the store, with all listed but the late one. -/
theorem late_after (hE : bEdges ops = true) (hG : bGuard ops = true) (hD : bDst a0.tmps.size ops n = true) (hC : bChain ops n = true) (hln : late < n) (hn1 : n + 1 < ops.size) {o1 : Oper} (ho1 : ops[n + 1]? = some o1) (hw1 : waitsB o1 late = true)
    (hmono : ∀ i v w w', factAt Rt i v w → Keep w w' → factAt Rt i v w')
    (hlate : ∀ v w, Keep W0 w → (∀ j, j < n → j ≠ late → factAt Rt j (v j) w) → ∀ o, ops[late]? = some o → Gives P o (putAll v 0 (ops.toList.take n) a0) w (fun u w' => Keep w w' ∧ factAt Rt late u w'))
    (tail : ∀ v w, Keep W0 w → (∀ j, j < n → factAt Rt j (v j) w) → wpList P ops Q (ops.toList.drop (n + 1)) (putAll v 0 (ops.toList.take n) a0) w)
    (fuel : Nat) (listed : Array Bool) (a : Act) (w : World) (hf : ops.size - n ≤ fuel) (hs : listed.size = ops.size) (hl : ∀ j, j < ops.size → listed.getD j false = decide (j ≤ n ∧ j ≠ late))
    (I : MonoInv ops n W0 a0 Rs (Array.replicate ops.size false) a w) (hfacts : ∀ j, j < n → j ≠ late → factAt Rt j (valOf ops a j) w) : wpAny P .any ops Q fuel listed a w := by
  obtain ⟨f, rfl⟩ : ∃ f, fuel = f + 1 := ⟨fuel - 1, by omega⟩
  have hlt : late < ops.size := by omega
  have ho : ops[late]? = some ops[late] := by simp [hlt]
  have hready : late ∈ Region.ready .any ops listed := by
    rw [mem_ready]
    refine ⟨?_, ops[late], ho, fun e he hb => ?_⟩
    · have := hl late hlt; simp [hs, hlt] at this ⊢; exact this
    · have := edges_of hE ho he hb
      rw [hl e.on (by omega)]; simp; omega
  refine ⟨fun h0 => (by rw [h0] at hready; cases hready), fun i hi => ?_⟩
  obtain ⟨h0, o, hoi, hall⟩ := mem_ready.1 hi
  have hi' : i < ops.size := (Array.getElem?_eq_some_iff.1 hoi).1
  have hie : i = late := by
    have hli := hl i hi'
    have hlf : listed.getD i false = false := by simp [hs, hi'] at h0 ⊢; exact h0
    rw [hlf] at hli
    have hli : ¬ (i ≤ n ∧ i ≠ late) := by simpa using hli.symm
    apply Classical.byContradiction
    intro hne
    have hgt : n < i := by omega
    rcases Nat.lt_or_ge (n + 1) i with h2 | h2
    · obtain ⟨e, he, hb, hon⟩ := waitsB_spec (chain_of hC hoi hgt)
      have := hall e he hb
      rw [hon, hl (i - 1) (by omega)] at this
      simp at this; omega
    · have : i = n + 1 := by omega
      subst this
      have : o = o1 := by rw [ho1] at hoi; exact (Option.some.inj hoi).symm
      subst this
      obtain ⟨e, he, hb, hon⟩ := waitsB_spec hw1
      have := hall e he hb
      rw [hon, hl late hlt] at this
      simp at this
  subst hie
  obtain ⟨d, hd, hdl, hdu⟩ := dst_of hD hln hoi
  have e := act_of_inv (by omega : n ≤ ops.size) hD I
  have hg := hlate (valOf ops a) w I.keep hfacts o hoi
  rw [← e] at hg
  unfold wpOp
  simp only [hoi]
  rw [if_pos (by simp [Region.wanted, guard_of hG hoi])]
  refine .inl (wp_of_gives hg fun u w' ⟨hk, hfact⟩ => ?_)
  have hdl' : d < a.tmps.size := by rw [I.tsize]; exact hdl
  have I' : MonoInv ops n W0 a0 Rs (Array.replicate ops.size false) (a.put o.dst u) w' := inv_none (I.keep.trans hk) (by simp [Act.put, hd, I.defers]) (by simp [Act.put, hd, I.tsize]) (fun t htn => by
    rw [← I.other t htn]
    have : d ≠ t := fun e => htn i o hln hoi (by rw [hd, e])
    simp [Act.put, hd, Array.getElem?_setIfInBounds_ne this])
  refine mono_tail hE hC (ops.size - (n + 1)) (n + 1) f _ _ w' rfl (by omega) (by omega) (by omega) (by simpa using hs) (fun j hj => ?_) ?_
  · by_cases hji : i = j
    · subst hji; simp [hs, hlt]; omega
    · rw [getD_set_ne false hji, hl j hj]
      have : (j ≤ n ∧ j ≠ i) ↔ j < n + 1 := ⟨fun h => by omega, fun h => ⟨by omega, fun h2 => hji h2.symm⟩⟩
      simp only [this]
  · rw [act_of_inv (by omega : n ≤ ops.size) hD I']
    refine tail _ _ (I.keep.trans hk) fun j hj => ?_
    have hoj : ops[j]? = some ops[j] := by simp [show j < ops.size by omega]
    obtain ⟨d2, hd2, _⟩ := dst_of hD hj hoj
    rw [valOf_eq hoj hd2]
    by_cases hji : j = i
    · subst hji
      have : ops[j] = o := by rw [hoj] at hoi; exact Option.some.inj hoi
      have : d2 = d := by rw [this, hd] at hd2; exact (Option.some.inj hd2).symm
      subst this
      simp only [Act.put, hd, Array.getD_eq_getD_getElem?, Array.getElem?_setIfInBounds_self_of_lt hdl', Option.getD_some]
      exact hfact
    · have hne : d ≠ d2 := fun e2 => hji (hdu j _ hj hoj (by rw [hd2, e2]))
      have h3 := hmono j _ w w' (hfacts j hj hji) hk
      rw [valOf_eq hoj hd2] at h3
      simpa only [Act.put, hd, Array.getD_eq_getD_getElem?, Array.getElem?_setIfInBounds_ne hne] using h3
theorem late_head (hn1 : n + 1 < ops.size) (hln : late < n) (hS : Region.noSelect ops = true) (hG : bGuard ops = true) (hE : bEdges ops = true) (hD : bDst a0.tmps.size ops n = true) (hK : bSinkBut ops n late = true) (hC : bChain ops n = true)
    {on o1 : Oper} (hon : ops[n]? = some on) (hnd : on.dst = none) (ho1 : ops[n + 1]? = some o1) (hw1 : waitsB o1 late = true)
    (hmono : ∀ i v w w', factAt Rs i v w → Keep w w' → factAt Rs i v w') (hmono2 : ∀ i v w w', factAt Rt i v w → Keep w w' → factAt Rt i v w')
    (steps : Steps1 P W0 (fun v => putAll v 0 (ops.toList.take n) a0) Rs 0 (ops.toList.take n))
    (hstore : ∀ v w, Keep W0 w → (∀ j, j < n → j ≠ late → factAt Rs j (v j) w) → Gives P on (putAll v 0 (ops.toList.take n) a0) w (fun _ w' => Keep W0 w' ∧ ∀ j, j < n → j ≠ late → factAt Rt j (v j) w'))
    (hlate : ∀ v w, Keep W0 w → (∀ j, j < n → j ≠ late → factAt Rt j (v j) w) → ∀ o, ops[late]? = some o → Gives P o (putAll v 0 (ops.toList.take n) a0) w (fun u w' => Keep w w' ∧ factAt Rt late u w'))
    (hsame : ∀ u w w', factAt Rs late u w → factAt Rt late u w')
    (tail : ∀ v w, Keep W0 w → (∀ j, j < n → factAt Rt j (v j) w) → wpList P ops Q (ops.toList.drop (n + 1)) (putAll v 0 (ops.toList.take n) a0) w) :
    ∀ (fuel : Nat) (listed : Array Bool) (a : Act) (w : World), MonoInv ops n W0 a0 Rs listed a w → ((List.range n).filter fun j => !listed.getD j false).length + (ops.size - n) ≤ fuel → wpAny P .any ops Q fuel listed a w := by
  have hn : n ≤ ops.size := by omega
  have factsOf : ∀ (listed : Array Bool) (a : Act) (w : World), MonoInv ops n W0 a0 Rs listed a w → ∀ j, j < n → listed.getD j false = true → factAt Rs j (valOf ops a j) w := fun listed a w I j hj hlj => by
    have ho : ops[j]? = some ops[j] := by simp [show j < ops.size by omega]
    obtain ⟨d, hd, _⟩ := dst_of hD hj ho
    rw [valOf_eq ho hd]
    exact I.facts j _ d hj ho hd hlj
  intro fuel
  induction fuel with
  | zero => intro listed a w I hf; omega
  | succ fuel ih =>
    intro listed a w I hf
    by_cases hall : ∀ j, j < n → listed.getD j false = true
    · refine mono_tail hE hC (ops.size - n) n (fuel + 1) listed a w rfl (Nat.le_refl _) hn (by omega) I.size (fun j hj => ?_) ?_
      · by_cases hj' : j < n
        · rw [hall j hj']; simp [hj']
        · rw [I.tail j (by omega)]; simp [hj']
      · have e := act_of_inv hn hD I
        have hdr : ops.toList.drop n = on :: ops.toList.drop (n + 1) := by
          rw [List.drop_eq_getElem_cons (by simpa using (by omega : n < ops.size))]
          have : ops[n]? = some ops[n] := by simp [show n < ops.size by omega]
          rw [this] at hon
          simp [Option.some.inj hon]
        rw [hdr]
        unfold wpList
        rw [if_pos (by simp [Region.wanted, guard_of hG hon])]
        have hg := hstore (valOf ops a) w I.keep (fun j hj _ => factsOf listed a w I j hj (hall j hj))
        rw [← e] at hg
        refine .inl (wp_of_gives hg fun u w' ⟨hk, hfact⟩ => ?_)
        rw [hnd]
        show wpList P ops Q (ops.toList.drop (n + 1)) a w'
        rw [e]
        refine tail _ _ hk fun j hj => ?_
        by_cases hjl : j = late
        · subst hjl; exact hsame _ _ _ (factsOf listed a w I j hj (hall j hj))
        · exact hfact j hj hjl
    · have hex : ∃ j, j < n ∧ listed.getD j false = false := by
        apply Classical.byContradiction
        intro hno
        exact hall fun j hj => by
          cases hb : listed.getD j false
          · exact absurd ⟨j, hj, hb⟩ hno
          · rfl
      obtain ⟨j0, ⟨hj0, hl0⟩, hmin⟩ := exists_least hex
      have ho0 : ops[j0]? = some ops[j0] := by simp [show j0 < ops.size by omega]
      have hready : j0 ∈ Region.ready .any ops listed := by
        rw [mem_ready]
        refine ⟨?_, ops[j0], ho0, fun e he hb => ?_⟩
        · have : j0 < listed.size := by rw [I.size]; omega
          simp [this] at hl0 ⊢; exact hl0
        · have hlt := edges_of hE ho0 he hb
          cases hb2 : listed.getD e.on false
          · have := hmin e.on ⟨by omega, hb2⟩; omega
          · rfl
      refine ⟨fun h0 => (by rw [h0] at hready; cases hready), fun i hi => ?_⟩
      obtain ⟨h0, o, ho, hdeps⟩ := mem_ready.1 hi
      have hi' : i < ops.size := (Array.getElem?_eq_some_iff.1 ho).1
      have hl : listed.getD i false = false := by
        have : i < listed.size := by rw [I.size]; exact hi'
        simp [this] at h0 ⊢; exact h0
      rcases Nat.lt_or_ge i n with hin | hin
      · obtain ⟨d, hd, hdl, hdu⟩ := dst_of hD hin ho
        have e := act_of_inv hn hD I
        have ht : (ops.toList.take n)[i]? = some o := by rw [List.getElem?_take, if_pos hin]; simpa using ho
        have hdepf : DepsOf Rs (valOf ops a) w o := fun ed hed hb => by
          have hed' : ed ∈ o.after := by simpa using hed
          have hlt := edges_of hE ho hed' hb
          exact factsOf listed a w I ed.on (by omega) (hdeps ed hed' hb)
        have hg := steps_at (ops.toList.take n) 0 i o steps ht (valOf ops a) w I.keep hdepf
        rw [← e, Nat.zero_add] at hg
        unfold wpOp
        simp only [ho]
        rw [if_pos (by simp [Region.wanted, guard_of hG ho])]
        refine .inl (wp_of_gives hg fun u w' ⟨hk, hfact⟩ => ih _ _ _ ?_ ?_)
        · refine ⟨by simpa using I.size, fun t htn => ?_, I.keep.trans hk, ?_, ?_, fun t htn => ?_, fun j p d2 hj hp hpd hlj => ?_, ?_⟩
          · rw [getD_set_ne false (by omega)]; exact I.tail t htn
          · simp [Act.put, hd, I.defers]
          · simp [Act.put, hd, I.tsize]
          · rw [← I.other t htn]
            have : d ≠ t := fun e => htn i o hin ho (by rw [hd, e])
            simp [Act.put, hd, Array.getElem?_setIfInBounds_ne this]
          · by_cases hji : i = j
            · subst hji
              have : p = o := by rw [hp] at ho; exact Option.some.inj ho
              subst this
              have : d2 = d := by rw [hd] at hpd; exact (Option.some.inj hpd).symm
              subst this
              have hlt' : d2 < a.tmps.size := by rw [I.tsize]; exact hdl
              simp only [Act.put, hd, Array.getD_eq_getD_getElem?, Array.getElem?_setIfInBounds_self_of_lt hlt', Option.getD_some]
              exact hfact
            · rw [getD_set_ne false hji] at hlj
              have hne : d ≠ d2 := fun e2 => hji (hdu j p hj hp (by rw [hpd, e2])).symm
              have := hmono j _ w w' (I.facts j p d2 hj hp hpd hlj) hk
              simpa only [Act.put, hd, Array.getD_eq_getD_getElem?, Array.getElem?_setIfInBounds_ne hne] using this
          · intro k p hk2 hp hlk ed hed hb
            by_cases hik : i = k
            · subst hik
              have : p = o := by rw [hp] at ho; exact Option.some.inj ho
              subst this
              exact getD_set_true (hdeps ed hed hb)
            · rw [getD_set_ne false hik] at hlk
              exact getD_set_true (I.closed k p hk2 hp hlk ed hed hb)
        · have hlen : ((List.range n).filter fun j => !(listed.setIfInBounds i true).getD j false).length + 1 ≤ ((List.range n).filter fun j => !listed.getD j false).length := by
            have hil : i < listed.size := by rw [I.size]; exact hi'
            exact filter_drop n i hin (fun j => !listed.getD j false) (fun j => !(listed.setIfInBounds i true).getD j false) (by rw [hl]; rfl) (by simp [hil]) (fun j hj => by rw [getD_set_ne false hj])
          omega
      · have hie : i = n := by
          rcases Nat.lt_or_ge n i with h2 | h2
          · obtain ⟨e, he, hb, hon2⟩ := waitsB_spec (chain_of hC ho h2)
            have := hdeps e he hb
            rw [hon2, I.tail (i - 1) (by omega)] at this
            cases this
          · omega
        subst hie
        have hoo : o = on := by rw [ho] at hon; exact Option.some.inj hon
        subst hoo
        have key : ∀ m j, i - j = m → j < i → j ≠ late → listed.getD j false = true := by
          intro m
          induction m using Nat.strongRecOn with
          | _ m ihm =>
            intro j hm hj hjl
            obtain ⟨k, p, hjk, hk, hkl, hp, hw⟩ := sinkBut_of hK hj hjl
            obtain ⟨e, he, hb, hon2⟩ := waitsB_spec hw
            rcases Nat.lt_or_ge k i with hki | hki
            · have hlk := ihm (i - k) (by omega) k rfl hki hkl
              have := I.closed k p hki hp hlk e he hb
              rw [hon2] at this; exact this
            · have : k = i := by omega
              subst this
              have : p = o := by rw [hp] at ho; exact Option.some.inj ho
              subst this
              have := hdeps e he hb
              rw [hon2] at this; exact this
        have hlf : listed.getD late false = false := by
          cases hb : listed.getD late false
          · rfl
          · exact absurd (fun j hj => by
              by_cases hjl : j = late
              · rw [hjl]; exact hb
              · exact key (i - j) j rfl hj hjl) hall
        have e := act_of_inv hn hD I
        have hg := hstore (valOf ops a) w I.keep (fun j hj hjl => factsOf listed a w I j hj (key (i - j) j rfl hj hjl))
        rw [← e] at hg
        unfold wpOp
        simp only [ho]
        rw [if_pos (by simp [Region.wanted, guard_of hG ho])]
        refine .inl (wp_of_gives hg fun u w' ⟨hk, hfact⟩ => ?_)
        rw [hnd]
        refine late_after (Rs := Rs) hE hG hD hC hln hn1 ho1 hw1 hmono2 hlate tail fuel _ a w' (by
          have hm : late ∈ (List.range i).filter (fun j => !listed.getD j false) := List.mem_filter.2 ⟨List.mem_range.2 hln, by rw [hlf]; rfl⟩
          have := List.length_pos_of_mem hm
          omega) (by simpa using I.size) (fun j hj => ?_) (inv_none hk I.defers I.tsize I.other) (fun j hj hjl => hfact j hj hjl)
        by_cases hji : i = j
        · subst hji
          have : i < listed.size := by rw [I.size]; exact hi'
          simp [this]; omega
        · rw [getD_set_ne false hji]
          by_cases hjn : j < i
          · by_cases hjl : j = late
            · subst hjl; rw [hlf]; simp
            · rw [key (i - j) j rfl hjn hjl]; simp [hjl]; omega
          · rw [I.tail j (by omega)]
            have : ¬ (j ≤ i ∧ j ≠ late) := by omega
            simp only [this, decide_false]
end
def FreeFact (R : Fact) : Prop := ∀ v w w', R v w → R v w'
theorem Fx.free (x : Value) : FreeFact (Fx x) := fun _ _ _ h => h
def AllFree : List Fact → Prop
  | [] => True
  | R :: Rs => FreeFact R ∧ AllFree Rs
theorem free_at {L : List Fact} (h : AllFree L) (x y : Fact) : ∀ j, j < L.length → ∀ v w w', factAt (L ++ [x]) j v w → factAt (L ++ [y]) j v w' := by
  induction L with
  | nil => intro j hj; simp at hj
  | cons R L ih =>
    intro j hj v w w' hf
    cases j with
    | zero => exact h.1 _ _ _ hf
    | succ j => exact ih h.2 j (by simpa using hj) v w w' hf
theorem free_mono {L : List Fact} (h : AllFree L) {x : Fact} (hx : MonoFact x) : ∀ j v w w', factAt (L ++ [x]) j v w → Keep w w' → factAt (L ++ [x]) j v w' := by
  induction L with
  | nil =>
    intro j v w w' hf hk
    cases j with
    | zero => exact hx _ _ _ hf hk
    | succ j => simp [factAt]
  | cons R L ih =>
    intro j v w w' hf hk
    cases j with
    | zero => exact h.1 _ _ _ hf
    | succ j => exact ih h.2 j v w w' hf hk
theorem wp_region_late {P : Program} {id : Nat} {l : List Oper} {a : Act} {w : World} {Q : Exit → Act → World → Prop} (n late : Nat) (L : List Fact) (x y : Fact) (hm : P.follows .mixedOrders = true) (hB : lateB a.tmps.size l.toArray n late = true)
    (hlen : L.length + 1 = n) (hlate0 : late < L.length) (hL : AllFree L) (hx : MonoFact x) (hy : MonoFact y)
    (steps : Steps1 P w (fun v => putAll v 0 (l.take n) a) (L ++ [x]) 0 (l.take n))
    (hstore : ∀ v w', Keep w w' → (∀ j, j < n → j ≠ late → factAt (L ++ [x]) j (v j) w') → ∀ o, l[n]? = some o → Gives P o (putAll v 0 (l.take n) a) w' (fun _ w'' => Keep w w'' ∧ y (v L.length) w''))
    (hlate : ∀ v w', Keep w w' → (∀ j, j < n → j ≠ late → factAt (L ++ [y]) j (v j) w') → ∀ o, l[late]? = some o → Gives P o (putAll v 0 (l.take n) a) w' (fun u w'' => Keep w' w'' ∧ factAt (L ++ [y]) late u w''))
    (tail : ∀ v w', Keep w w' → Held (L ++ [y]) v w' n → wpList P l.toArray Q (l.drop (n + 1)) (putAll v 0 (l.take n) a) w') : (Code.region id l.toArray true).wp P Q a w := by
  simp only [lateB, Bool.and_eq_true, decide_eq_true_eq] at hB
  obtain ⟨⟨⟨⟨⟨⟨⟨⟨⟨hln, hn1⟩, hS⟩, hG⟩, hE⟩, hD⟩, hK⟩, hC⟩, hN⟩, hO⟩ := hB
  have kd : Keep w { w with drawn := w.drawn + 1 } := ⟨⟨rfl, rfl, rfl, Nat.le_refl _, fun _ _ => rfl⟩⟩
  have ho : l.toArray[n]? = some l.toArray[n] := by simp [show n < l.toArray.size by omega]
  have ho1 : l.toArray[n + 1]? = some l.toArray[n + 1] := by simp [hn1]
  rw [ho] at hN
  rw [ho1] at hO
  have hnd : l.toArray[n].dst = none := by simpa using hN
  have hfree := free_at hL x y
  refine wp_region_any hm (late_head (W0 := w) (a0 := a) (Rs := L ++ [x]) (Rt := L ++ [y]) hn1 hln hS hG hE hD hK hC ho hnd ho1 hO (free_mono hL hx) (free_mono hL hy) steps ?_ ?_ ?_ (fun v w' hk hf => tail v w' hk (held_of hf)) _ _ _ _ ?_ ?_)
  · intro v w' hk hf
    have h := hstore v w' hk hf _ (by rw [← List.getElem?_toArray]; exact ho)
    refine ⟨?_⟩
    have h := h.out
    revert h
    generalize (execOp (Act.eval (putAll v 0 (l.toArray.toList.take n) a)) l.toArray[n]).run P w' = r
    intro h
    have up : ∀ w'', Keep w w'' ∧ y (v L.length) w'' → Keep w w'' ∧ ∀ j, j < n → j ≠ late → factAt (L ++ [y]) j (v j) w'' := fun w'' ⟨h1, h2⟩ => ⟨h1, fun j hj hjl => by
      rcases Nat.lt_or_ge j L.length with h3 | h3
      · exact hfree j h3 _ _ _ (hf j hj hjl)
      · have : j = L.length := by omega
        subst this
        simpa [factAt] using h2⟩
    cases r with
    | ok nx w'' =>
      cases nx <;> simp only [givesUpon] at h ⊢
      case value u => exact up _ h
      case skip => exact up _ h
      case enter f args => exact h.mono fun e w3 ⟨u, he, hg⟩ => ⟨u, he, up _ hg⟩
    | halt x w' => simp only [givesUpon] at h
  · intro v w' hk hf o ho2
    exact hlate v w' hk hf o (by rw [← List.getElem?_toArray]; simpa using ho2)
  · exact fun u w w' h => hfree late hlate0 u w w' h
  · refine ⟨by simp, fun t _ => ?_, kd, rfl, rfl, fun _ _ => rfl, fun j o d hj ho hd hl => ?_, fun k p hk hp hl => ?_⟩
    · exact getD_rep _ t
    · rw [getD_rep] at hl; cases hl
    · rw [getD_rep] at hl; cases hl
  · have := List.length_filter_le (fun j => !(Array.replicate l.toArray.size false).getD j false) (List.range n)
    simp at this hn1 ⊢
    omega
end Go.Proofs.YtpmilcfppcmodaaDoor

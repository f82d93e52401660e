/- A statement that draws its order, one of whose operations (a call) changes one old block: as Mono, in two modes: ahead of that call, and behind it. -/
import Derived.Test.YtpmilcfppcmodaaDoorAu
import Derived.Test.YtpmilcfppcmodaaDoorS3
import Derived.Test.YtpmilcfppcmodaaDoorRd
import Derived.Test.YtpmilcfppcmodaaDoorM4
set_option linter.unusedVariables false
set_option linter.unusedSimpArgs false
namespace Go.Proofs.YtpmilcfppcmodaaDoor
open Go.RowKit
/-- What operation i does to the world: the one with the number p0 may change block g0. -/
def StJ (J : Bool → World → Prop) (p0 g0 i : Nat) (w w' : World) : Prop := if i = p0 then w.grownBy w' (some g0) ∧ J true w' else Keep w w'
theorem StJ.ext {J : Bool → World → Prop} {p0 g0 i : Nat} {w w' : World} (h : StJ J p0 g0 i w w') : w.grownBy w' (some g0) := by
  unfold StJ at h
  split at h
  · exact h.1
  · exact grown_keep h _
theorem stJ_frame {J : Bool → World → Prop} {p0 g0 i : Nat} {w w' : World} {listed : Array Bool} (hJ : ∀ b w w', J b w → Keep w w' → J b w') (hf : J (listed.getD p0 false) w) (h : StJ J p0 g0 i w w') (hi : i < listed.size) : J ((listed.setIfInBounds i true).getD p0 false) w' := by
  unfold StJ at h
  split at h
  case isTrue e => subst e; have : (listed.setIfInBounds i true).getD i false = true := by simp [hi]
                   rw [this]; exact h.2
  case isFalse e => rw [getD_set_ne false e]; exact hJ _ _ _ hf h
inductive StepsJ (P : Program) (J : Bool → World → Prop) (p0 g0 : Nat) (A : (Nat → Value) → Act) (Rs : List Fact) : Nat → List Oper → Prop
  | nil (i : Nat) : StepsJ P J p0 g0 A Rs i []
  | cons (i : Nat) (o : Oper) (os : List Oper) (h : ∀ v w b, (i = p0 → b = false) → J b w → DepsOf Rs v w o → Gives P o (A v) w (fun u w' => StJ J p0 g0 i w w' ∧ factAt Rs i u w')) (t : StepsJ P J p0 g0 A Rs (i + 1) os) : StepsJ P J p0 g0 A Rs i (o :: os)
structure MonoInvJ (ops : Array Oper) (n : Nat) (J : Bool → World → Prop) (p0 : Nat) (a0 : Act) (Rs : List Fact) (listed : Array Bool) (a : Act) (w : World) : Prop where
  size : listed.size = ops.size
  tail : ∀ t, n ≤ t → listed.getD t false = false
  frame : J (listed.getD p0 false) w
  defers : a.defers = a0.defers
  tsize : a.tmps.size = a0.tmps.size
  other : ∀ t, (∀ j o, j < n → ops[j]? = some o → o.dst ≠ some t) → a.tmps[t]? = a0.tmps[t]?
  facts : ∀ j o d, j < n → ops[j]? = some o → o.dst = some d → listed.getD j false = true → factAt Rs j (a.tmps.getD d undef) w
  closed : ∀ k p, k < n → ops[k]? = some p → listed.getD k false = true → ∀ e ∈ p.after, Region.binds .any e = true → listed.getD e.on false = true

theorem act_of_invJ {ops : Array Oper} {n : Nat} {J : Bool → World → Prop} {p0 : Nat} {a0 : Act} {Rs : List Fact} {listed : Array Bool} {a : Act} {w : World} (hn : n ≤ ops.size) (hD : bDst a0.tmps.size ops n = true)
    (I : MonoInvJ ops n J p0 a0 Rs listed a w) : a = putAll (valOf ops a) 0 (ops.toList.take n) a0 := by
  have hs := putAll_size (valOf ops a) (ops.toList.take n) 0 a0
  have hl : ∀ j p, (ops.toList.take n)[j]? = some p → j < n ∧ ops[j]? = some p := fun j p h => by
    rw [List.getElem?_take] at h
    split at h
    · exact ⟨‹_›, by simpa using h⟩
    · cases h
  have ht : a.tmps = (putAll (valOf ops a) 0 (ops.toList.take n) a0).tmps := by
    apply Array.ext_getElem?
    intro t
    by_cases hx : ∃ j o, j < n ∧ ops[j]? = some o ∧ o.dst = some t
    · obtain ⟨j, o, hj, ho, hd⟩ := hx
      obtain ⟨d, hd', hlt, hu⟩ := dst_of hD hj ho
      have : d = t := by rw [hd] at hd'; exact (Option.some.inj hd').symm
      subst this
      rw [putAll_hit (valOf ops a) d (ops.toList.take n) 0 j a0 o (by rw [List.getElem?_take, if_pos hj]; simpa using ho) hd (fun k p hk hp => hu k p (hl k p hk).1 (hl k p hk).2 hp) hlt]
      have hlt' : d < a.tmps.size := by rw [I.tsize]; exact hlt
      simp [valOf, ho, hd, hlt']
    · rw [putAll_other _ t _ 0 a0 (fun o ho hd => by
        obtain ⟨j, hj⟩ := List.getElem?_of_mem ho
        exact hx ⟨j, o, (hl j o hj).1, (hl j o hj).2, hd⟩)]
      exact I.other t fun j o hj ho hd => hx ⟨j, o, hj, ho, hd⟩
  have hd : a.defers = (putAll (valOf ops a) 0 (ops.toList.take n) a0).defers := by rw [hs.2]; exact I.defers
  exact (congr (congrArg Act.mk ht) hd : Act.mk a.tmps a.defers = Act.mk _ _)

theorem steps_atJ {P : Program} {J : Bool → World → Prop} {p0 g0 : Nat} {A : (Nat → Value) → Act} {Rs : List Fact} : ∀ (l : List Oper) (i k : Nat) (o : Oper), StepsJ P J p0 g0 A Rs i l → l[k]? = some o →
    ∀ v w b, (i + k = p0 → b = false) → J b w → DepsOf Rs v w o → Gives P o (A v) w (fun u w' => StJ J p0 g0 (i + k) w w' ∧ factAt Rs (i + k) u w')
  | [], _, _, _, _, h => by simp at h
  | p :: os, i, 0, o, h, ho => by cases h with | cons _ _ _ h1 h2 => simp at ho; subst ho; exact h1
  | p :: os, i, k + 1, o, h, ho => by
    cases h with
    | cons _ _ _ h1 h2 =>
      have := steps_atJ os (i + 1) k o h2 (by simpa using ho)
      rw [show i + (k + 1) = i + 1 + k by omega]; exact this

section
variable {P : Program} {ops : Array Oper} {n : Nat} {J : Bool → World → Prop} {p0 g0 : Nat} {a0 : Act} {Rs : List Fact} {Q : Exit → Act → World → Prop}
theorem mono_headJ (hn : n ≤ ops.size) (hS : Region.noSelect ops = true) (hG : bGuard ops = true) (hE : bEdges ops = true) (hD : bDst a0.tmps.size ops n = true) (hR : bReads ops n = true) (hK : bSink ops n = true) (hC : bChain ops n = true)
    (hmono : ∀ i v w w', factAt Rs i v w → w.grownBy w' (some g0) → factAt Rs i v w') (hJ : ∀ b w w', J b w → Keep w w' → J b w') (hp : p0 < n)
    (steps : StepsJ P J p0 g0 (fun v => putAll v 0 (ops.toList.take n) a0) Rs 0 (ops.toList.take n))
    (tail : ∀ v w, J true w → (∀ j, j < n → factAt Rs j (v j) w) → wpList P ops Q (ops.toList.drop n) (putAll v 0 (ops.toList.take n) a0) w) :
    ∀ (fuel : Nat) (listed : Array Bool) (a : Act) (w : World), MonoInvJ ops n J p0 a0 Rs listed a w → ((List.range n).filter fun j => !listed.getD j false).length + (ops.size - n) ≤ fuel → wpAny P .any ops Q fuel listed a w := by
  intro fuel
  induction fuel with
  | zero =>
    intro listed a w I hf
    have hfn : (List.range n).filter (fun j => !listed.getD j false) = [] := List.eq_nil_of_length_eq_zero (by omega)
    have hall : ∀ j, j < n → listed.getD j false = true := fun j hj => by
      have := List.filter_eq_nil_iff.1 hfn j (List.mem_range.2 hj)
      simpa using this
    refine mono_tail hE hC (ops.size - n) n 0 listed a w rfl (Nat.le_refl _) hn (by omega) I.size (fun j hj => ?_) ?_
    · by_cases hj' : j < n
      · rw [hall j hj']; simp [hj']
      · rw [I.tail j (by omega)]; simp [hj']
    · have e := act_of_invJ hn hD I
      rw [e]
      refine tail _ _ (by have := I.frame; rwa [hall p0 hp] at this) fun j hj => ?_
      have ho : ops[j]? = some ops[j] := by simp [show j < ops.size by omega]
      obtain ⟨d, hd, _⟩ := dst_of hD hj ho
      have := I.facts j _ d hj ho hd (hall j hj)
      have ev : valOf ops a j = a.tmps.getD d undef := by unfold valOf; rw [ho]; simp only [Option.bind_some, hd]
      rw [ev]; exact this
  | succ fuel ih =>
    intro listed a w I hf
    by_cases hall : ∀ j, j < n → listed.getD j false = true
    · refine mono_tail hE hC (ops.size - n) n (fuel + 1) listed a w rfl (Nat.le_refl _) hn (by omega) I.size (fun j hj => ?_) ?_
      · by_cases hj' : j < n
        · rw [hall j hj']; simp [hj']
        · rw [I.tail j (by omega)]; simp [hj']
      · have e := act_of_invJ hn hD I
        rw [e]
        refine tail _ _ (by have := I.frame; rwa [hall p0 hp] at this) fun j hj => ?_
        have ho : ops[j]? = some ops[j] := by simp [show j < ops.size by omega]
        obtain ⟨d, hd, _⟩ := dst_of hD hj ho
        have := I.facts j _ d hj ho hd (hall j hj)
        have ev : valOf ops a j = a.tmps.getD d undef := by unfold valOf; rw [ho]; simp only [Option.bind_some, hd]
        rw [ev]; exact this
    · have hex : ∃ j, j < n ∧ listed.getD j false = false := by
        apply Classical.byContradiction
        intro hno
        exact hall fun j hj => by
          cases hb : listed.getD j false
          · exact absurd ⟨j, hj, hb⟩ hno
          · rfl
      obtain ⟨j0, ⟨hj0, hl0⟩, hmin⟩ := exists_least hex
      have ho0 : ops[j0]? = some ops[j0] := by simp [show j0 < ops.size by omega]
      have hready : j0 ∈ Region.ready .any ops listed := by
        rw [mem_ready]
        refine ⟨?_, ops[j0], ho0, fun e he hb => ?_⟩
        · have : j0 < listed.size := by rw [I.size]; omega
          simp [this] at hl0 ⊢; exact hl0
        · have hlt := edges_of hE ho0 he hb
          cases hb2 : listed.getD e.on false
          · have := hmin e.on ⟨by omega, hb2⟩; omega
          · rfl
      refine ⟨fun h0 => (by rw [h0] at hready; cases hready), fun i hi => ?_⟩
      obtain ⟨h0, o, ho, hdeps⟩ := mem_ready.1 hi
      have hi' : i < ops.size := (Array.getElem?_eq_some_iff.1 ho).1
      have hl : listed.getD i false = false := by
        have : i < listed.size := by rw [I.size]; exact hi'
        simp [this] at h0 ⊢; exact h0
      have hin : i < n := by
        rcases Nat.lt_or_ge i n with h1 | h1
        · exact h1
        · exfalso
          rcases Nat.lt_or_ge n i with h2 | h2
          · obtain ⟨e, he, hb, hon⟩ := waitsB_spec (chain_of hC ho h2)
            have := hdeps e he hb
            rw [hon, I.tail (i - 1) (by omega)] at this
            cases this
          · have hie : i = n := by omega
            subst hie
            apply hall
            have key : ∀ m j, i - j = m → j < i → listed.getD j false = true := by
              intro m
              induction m using Nat.strongRecOn with
              | _ m ihm =>
                intro j hm hj
                obtain ⟨k, p, hjk, hk, hpk, hw⟩ := sink_of hK (by omega) hj
                obtain ⟨e, he, hb, hon⟩ := waitsB_spec hw
                rcases Nat.lt_or_ge k i with hki | hki
                · have hlk := ihm (i - k) (by omega) k rfl hki
                  -- k is listed: so what it waits for is: by contradiction on the least unlisted
                  cases hb2 : listed.getD j false
                  · exact absurd hlk (by
                      have := I.closed k p hki hpk hlk e he hb
                      rw [hon, hb2] at this; cases this)
                  · rfl
                · have : k = i := by omega
                  subst this
                  have : p = o := by rw [hpk] at ho; exact Option.some.inj ho
                  subst this
                  have := hdeps e he hb
                  rw [hon] at this; exact this
            exact fun j hj => key (i - j) j rfl hj
      obtain ⟨d, hd, hdl, hdu⟩ := dst_of hD hin ho
      have e := act_of_invJ hn hD I
      have ht : (ops.toList.take n)[i]? = some o := by rw [List.getElem?_take, if_pos hin]; simpa using ho
      have hdepf : DepsOf Rs (valOf ops a) w o := fun ed hed hb => by
        have hed' : ed ∈ o.after := by simpa using hed
        have hlt := edges_of hE ho hed' hb
        have hoe : ops[ed.on]? = some ops[ed.on] := by simp [show ed.on < ops.size by omega]
        obtain ⟨d2, hd2, _⟩ := dst_of hD (show ed.on < n by omega) hoe
        have := I.facts ed.on _ d2 (by omega) hoe hd2 (hdeps ed hed' hb)
        have ev : valOf ops a ed.on = a.tmps.getD d2 undef := by unfold valOf; rw [hoe]; simp only [Option.bind_some, hd2]
        rw [ev]; exact this
      have hg := steps_atJ (ops.toList.take n) 0 i o steps ht (valOf ops a) w (listed.getD p0 false) (fun e => by rw [Nat.zero_add] at e; rw [← e]; exact hl) I.frame hdepf
      rw [← e, Nat.zero_add] at hg
      unfold wpOp
      simp only [ho]
      rw [if_pos (by simp [Region.wanted, guard_of hG ho])]
      refine .inl (wp_of_gives hg fun u w' ⟨hk, hfact⟩ => ih _ _ _ ?_ ?_)
      · refine ⟨by simpa using I.size, fun t htn => ?_, stJ_frame hJ I.frame hk (by rw [I.size]; exact hi'), ?_, ?_, fun t htn => ?_, fun j p d2 hj hp hpd hlj => ?_, ?_⟩
        · rw [getD_set_ne false (by omega)]; exact I.tail t htn
        · simp [Act.put, hd, I.defers]
        · simp [Act.put, hd, I.tsize]
        · rw [← I.other t htn]
          have : d ≠ t := fun e => htn i o hin ho (by rw [hd, e])
          simp [Act.put, hd, Array.getElem?_setIfInBounds_ne this]
        · by_cases hji : i = j
          · subst hji
            have : p = o := by rw [hp] at ho; exact Option.some.inj ho
            subst this
            have : d2 = d := by rw [hd] at hpd; exact (Option.some.inj hpd).symm
            subst this
            have hlt' : d2 < a.tmps.size := by rw [I.tsize]; exact hdl
            simp only [Act.put, hd, Array.getD_eq_getD_getElem?, Array.getElem?_setIfInBounds_self_of_lt hlt', Option.getD_some]
            exact hfact
          · rw [getD_set_ne false hji] at hlj
            have hne : d ≠ d2 := fun e2 => hji (hdu j p hj hp (by rw [hpd, e2])).symm
            have := hmono j _ w w' (I.facts j p d2 hj hp hpd hlj) hk.ext
            simpa only [Act.put, hd, Array.getD_eq_getD_getElem?, Array.getElem?_setIfInBounds_ne hne] using this
        · intro k p hk2 hp hlk ed hed hb
          by_cases hik : i = k
          · subst hik
            have : p = o := by rw [hp] at ho; exact Option.some.inj ho
            subst this
            exact getD_set_true (hdeps ed hed hb)
          · rw [getD_set_ne false hik] at hlk
            exact getD_set_true (I.closed k p hk2 hp hlk ed hed hb)
      · have hlen : ((List.range n).filter fun j => !(listed.setIfInBounds i true).getD j false).length + 1 ≤ ((List.range n).filter fun j => !listed.getD j false).length := by
          have hil : i < listed.size := by rw [I.size]; exact hi'
          exact filter_drop n i hin (fun j => !listed.getD j false) (fun j => !(listed.setIfInBounds i true).getD j false) (by rw [hl]; rfl) (by simp [hil]) (fun j hj => by rw [getD_set_ne false hj])
        omega
theorem wp_region_monoJ {id : Nat} {l : List Oper} {a : Act} {w : World} (n : Nat) (Rs : List Fact) (hm : P.follows .mixedOrders = true) (hB : monoB a.tmps.size l.toArray n = true)
    (hmono : ∀ i v w w', factAt Rs i v w → w.grownBy w' (some g0) → factAt Rs i v w') (hJ : ∀ b w w', J b w → Keep w w' → J b w') (hp : p0 < n)
    (h0 : J false w) (steps : StepsJ P J p0 g0 (fun v => putAll v 0 (l.take n) a) Rs 0 (l.take n))
    (tail : ∀ v w', J true w' → Held Rs v w' n → wpList P l.toArray Q (l.drop n) (putAll v 0 (l.take n) a) w') : (Code.region id l.toArray true).wp P Q a w := by
  simp only [monoB, Bool.and_eq_true, decide_eq_true_eq] at hB
  obtain ⟨⟨⟨⟨⟨⟨⟨hn, hS⟩, hG⟩, hE⟩, hD⟩, hR⟩, hK⟩, hC⟩ := hB
  have kd : Keep w { w with drawn := w.drawn + 1 } := ⟨⟨rfl, rfl, rfl, Nat.le_refl _, fun _ _ => rfl⟩⟩
  refine wp_region_any hm (mono_headJ (J := J) (p0 := p0) (g0 := g0) (a0 := a) (Rs := Rs) hn hS hG hE hD hR hK hC hmono hJ hp steps (fun v w' hk hf => tail v w' hk (held_of hf)) _ _ _ _ ?_ ?_)
  · refine ⟨by simp, fun t _ => ?_, (by rw [getD_rep]; exact hJ _ _ _ h0 kd), rfl, rfl, fun _ _ => rfl, fun j o d hj ho hd hl => ?_, fun k p hk hp hl => ?_⟩
    · exact getD_rep _ t
    · rw [getD_rep] at hl; cases hl
    · rw [getD_rep] at hl; cases hl
  · have := List.length_filter_le (fun j => !(Array.replicate l.toArray.size false).getD j false) (List.range n)
    simp at this ⊢ hn
    omega
end
end Go.Proofs.YtpmilcfppcmodaaDoor

set_option linter.unusedVariables false
set_option linter.unusedSimpArgs false
namespace Go.Proofs.YtpmilcfppcmodaaDoor
open Go.RowKit
set_option maxHeartbeats 1000000
set_option maxRecDepth 20000
/-- The cells of bytes in a row. -/
def bys (l : List UInt8) : List Value := l.map fun b => .int .u8 b.toNat
theorem bys_len (l : List UInt8) : (bys l).length = l.length := by simp [bys]
theorem bys_at (l : List UInt8) (i : Nat) (h : i < l.length) : (bys l)[i]? = some (.int .u8 l[i].toNat) := by simp [bys, h]
/-- A source of draws, at most so many bytes on. -/
def Src (w : World) (g : Nat) (S : Option Addr) (n c k : Nat) : Prop := ∃ (i : Nat) (sd : Wd), i ≤ k ∧ Bx w g #[.slice S n c, .int .i64 i, .int .u64 (U sd)] 146
theorem Src.keep {w w' : World} {g : Nat} {S : Option Addr} {n c k : Nat} (h : Src w g S n c k) (hk : Keep w w') : Src w' g S n c k := by
  obtain ⟨i, sd, h1, h2⟩ := h
  exact ⟨i, sd, h1, h2.keep hk⟩
theorem Src.more {w : World} {g : Nat} {S : Option Addr} {n c k m : Nat} (h : Src w g S n c k) (hm : k ≤ m) : Src w g S n c m := by
  obtain ⟨i, sd, h1, h2⟩ := h
  exact ⟨i, sd, by omega, h2⟩
theorem u64_wd (n : Int) : ∃ x : Wd, IntKind.u64.wrap n = U x := by
  refine ⟨BitVec.ofInt 64 n, ?_⟩
  unfold U
  rw [IntKind.wrap_u64, BitVec.toNat_ofInt]
  have := Int.emod_nonneg n (show (18446744073709551616 : Int) ≠ 0 by decide)
  simp
  omega
theorem grown_set (w : World) (g j : Nat) (v : Value) : w.grownBy (w.setCell ⟨g, j, none⟩ v) (some g) :=
  ⟨rfl, rfl, rfl, by simp, fun i hi hne => Below.heap_setCell w ⟨g, j, none⟩ v i (by simpa using hne)⟩
theorem byte_of (x : Wd) : 0 ≤ bits .and .u64 (U x / 1099511627776) 255 ∧ bits .and .u64 (U x / 1099511627776) 255 ≤ 255 := by
  rw [show (1099511627776 : Int) = 2 ^ 40 from rfl, shr_U, show (255 : Int) = U 255#64 from rfl, bits_and_U]
  unfold U
  rw [BitVec.toNat_and]
  have := Nat.and_le_right (n := (x >>> 40).toNat) (m := (255#64 : Wd).toNat)
  simp at this ⊢
  omega
theorem src_next (l : List UInt8) (g : Nat) (S : Option Addr) (c k : Nat) (w : World) (hk : k ≤ 1000000) (hn : l.length ≤ 9223372036854775807) (hR : Rd w S (bys l)) (hne : l ≠ [] → ∀ b o, S = some ⟨b, o, none⟩ → b ≠ g) (hS : Src w g S l.length c k) :
    Calls Tryd.prog 152 #[.pointer (some ⟨g, 0, none⟩)] w fun e w' => ∃ r : Int, e = .returned (.int .i64 r) ∧ 0 ≤ r ∧ r ≤ 255 ∧ w.grownBy w' (some g) ∧ Src w' g S l.length c (k + 1) := by
  obtain ⟨i, sd, hi, hB⟩ := hS
  obtain ⟨c0, c1, c2, f0, f1, f2, gz⟩ := hB.three
  by_cases hlt : i < l.length
  · obtain ⟨bb, o, rfl, hc⟩ := hR.at (k := i) (by rw [bys_len]; exact hlt)
    have hcell := hc _ _ (bys_at l i hlt)
    have hb := l[i].toNat_lt
    generalize l[i].toNat = b at *
    have eb : IntKind.i64.wrap (b : Int) = b := wrapI64 ⟨by omega, by omega⟩
    have hbg := hne (by intro h; rw [h] at hlt; simp at hlt) bb o rfl
    clear c0 c1 c2 f0 f1 f2 gz hc
    have gz := hB.lt
    go_enter Tryd.func152, Tryd.ntmps152
    have hBs := hB.three
    go_wp2_with fail
    clear hBs
    refine wp_region_keep (by kernel_rfl) (by kernel_rfl) ?_
    repeat
      first
        | (apply QuietL.run
           focus go_simp
           focus
             intro w2 hk
             have hcell' := hk.cell hcell
             obtain ⟨hB_0, hB_1, hB_2, hB_3, hB_4, hB_5, hB_6⟩ := (hB.keep hk).three
             apply QAt.mk
             go_simp
             first
               | done
               | exact rfl
           simp only [Act.put, List.setIfInBounds_toArray, List.set_cons_succ, List.set_cons_zero])
        | (apply QuietL.skip
           focus go_simp
           simp only [Act.put, List.setIfInBounds_toArray, List.set_cons_succ, List.set_cons_zero])
    apply QuietL.nil
    intro w2 hk
    have hcell' := hk.cell hcell
    have hB := hB.keep hk
    obtain ⟨hB_0, hB_1, hB_2, hB_3, hB_4, hB_5, hB_6⟩ := hB.three
    go_wp2_with fail
    clear hB_0 hB_1 hB_2 hB_3 hB_4 hB_5 hB_6 hcell
    have k2 := hk
    refine wp_region_keep (by kernel_rfl) (by kernel_rfl) ?_
    repeat
      first
        | (apply QuietL.run
           focus go_simp
           focus
             intro w2 hk
             have hcell'' := hk.cell hcell'
             obtain ⟨hB_0, hB_1, hB_2, hB_3, hB_4, hB_5, hB_6⟩ := (hB.keep hk).three
             apply QAt.mk
             go_simp
             first
               | done
               | exact rfl
           simp only [Act.put, List.setIfInBounds_toArray, List.set_cons_succ, List.set_cons_zero])
        | (apply QuietL.skip
           focus go_simp
           simp only [Act.put, List.setIfInBounds_toArray, List.set_cons_succ, List.set_cons_zero])
    apply QuietL.nil
    intro w2 hk
    have hcell'' := hk.cell hcell'
    have hB := hB.keep hk
    obtain ⟨hB_0, hB_1, hB_2, hB_3, hB_4, hB_5, hB_6⟩ := hB.three
    have k3 := Keep.trans k2 hk
    go_wp2_with fail
    obtain ⟨sd2, hsd⟩ := u64_wd (IntKind.u64.wrap (IntKind.u64.wrap (U sd * 6364136223846793005) + (b : Int)) + 1442695040888963407)
    simp only [hsd]
    refine wp_gen (fun W => Bx W g #[.slice (some ⟨bb, o, none⟩) l.length c, .int .i64 ((i + 1 : Nat) : Int), .int .u64 (U sd2)] 146 ∧ w.grownBy W (some g)) ⟨by first | exact (hB.set (i := 1) _).set (i := 2) _, grown_trans (grown_keep k3 _) (grown_trans (grown_set _ _ _ _) (grown_set _ _ _ _))⟩ ?_
    rintro W ⟨hB2, hG⟩
    clear hB hB_0 hB_1 hB_2 hB_3 hB_4 hB_5 hB_6 hsd
    refine wp_region_keep (by kernel_rfl) (by kernel_rfl) ?_
    repeat
      first
        | (apply QuietL.run
           focus go_simp
           focus
             intro w2 hk
             obtain ⟨hB2_0, hB2_1, hB2_2, hB2_3, hB2_4, hB2_5, hB2_6⟩ := (hB2.keep hk).three
             apply QAt.mk
             go_simp
             first
               | done
               | exact rfl
           simp only [Act.put, List.setIfInBounds_toArray, List.set_cons_succ, List.set_cons_zero])
        | (apply QuietL.skip
           focus go_simp
           simp only [Act.put, List.setIfInBounds_toArray, List.set_cons_succ, List.set_cons_zero])
    apply QuietL.nil
    intro w2 hk
    have hB2 := hB2.keep hk
    obtain ⟨hB2_0, hB2_1, hB2_2, hB2_3, hB2_4, hB2_5, hB2_6⟩ := hB2.three
    have hG2 := grown_trans hG (grown_keep hk _)
    have HS := Aside.mk (show Src w2 g (some ⟨bb, o, none⟩) l.length c (k + 1) from ⟨i + 1, sd2, by omega, hB2⟩)
    have hle : (i : Int) + 1 ≤ l.length := by omega
    go_wp2
    go_ret; exact ⟨_, rfl, by omega, by omega, hG2, HS.out⟩
  · clear c0 c1 c2 f0 f1 f2 gz
    go_enter Tryd.func152, Tryd.ntmps152
    have hBs := hB.three
    go_wp2_with fail
    clear hBs
    refine wp_region_keep (by kernel_rfl) (by kernel_rfl) ?_
    repeat
      first
        | (apply QuietL.run
           focus go_simp
           focus
             intro w2 hk
             obtain ⟨hB_0, hB_1, hB_2, hB_3, hB_4, hB_5, hB_6⟩ := (hB.keep hk).three
             apply QAt.mk
             go_simp
             first
               | done
               | exact rfl
           simp only [Act.put, List.setIfInBounds_toArray, List.set_cons_succ, List.set_cons_zero])
        | (apply QuietL.skip
           focus go_simp
           simp only [Act.put, List.setIfInBounds_toArray, List.set_cons_succ, List.set_cons_zero])
    apply QuietL.nil
    intro w2 hk
    have hB := hB.keep hk
    obtain ⟨hB_0, hB_1, hB_2, hB_3, hB_4, hB_5, hB_6⟩ := hB.three
    have k3 := hk
    go_wp2_with fail
    obtain ⟨sd2, hsd⟩ := u64_wd (IntKind.u64.wrap (IntKind.u64.wrap (U sd * 6364136223846793005)) + 1442695040888963407)
    simp only [hsd]
    refine wp_gen (fun W => Bx W g #[.slice S l.length c, .int .i64 ((i + 1 : Nat) : Int), .int .u64 (U sd2)] 146 ∧ w.grownBy W (some g)) ⟨by first | exact (hB.set (i := 1) _).set (i := 2) _, grown_trans (grown_keep k3 _) (grown_trans (grown_set _ _ _ _) (grown_set _ _ _ _))⟩ ?_
    rintro W ⟨hB2, hG⟩
    clear hB hB_0 hB_1 hB_2 hB_3 hB_4 hB_5 hB_6 hsd
    refine wp_region_keep (by kernel_rfl) (by kernel_rfl) ?_
    repeat
      first
        | (apply QuietL.run
           focus go_simp
           focus
             intro w2 hk
             obtain ⟨hB2_0, hB2_1, hB2_2, hB2_3, hB2_4, hB2_5, hB2_6⟩ := (hB2.keep hk).three
             apply QAt.mk
             go_simp
             first
               | done
               | exact rfl
           simp only [Act.put, List.setIfInBounds_toArray, List.set_cons_succ, List.set_cons_zero])
        | (apply QuietL.skip
           focus go_simp
           simp only [Act.put, List.setIfInBounds_toArray, List.set_cons_succ, List.set_cons_zero])
    apply QuietL.nil
    intro w2 hk
    have hB2 := hB2.keep hk
    obtain ⟨hB2_0, hB2_1, hB2_2, hB2_3, hB2_4, hB2_5, hB2_6⟩ := hB2.three
    have hG2 := grown_trans hG (grown_keep hk _)
    have HS := Aside.mk (show Src w2 g S l.length c (k + 1) from ⟨i + 1, sd2, by omega, hB2⟩)
    have hle : ¬ (i : Int) + 1 ≤ l.length := by omega
    obtain ⟨y1, y2⟩ := byte_of sd2
    go_wp2
    go_ret; refine ⟨_, rfl, ?_, ?_, hG2, HS.out⟩
    all_goals omega
end Go.Proofs.YtpmilcfppcmodaaDoor

set_option linter.unusedVariables false
set_option linter.unusedSimpArgs false
namespace Go.Proofs.YtpmilcfppcmodaaDoor
open Go.RowKit
set_option maxHeartbeats 1000000
set_option maxRecDepth 20000
theorem src_pick (n : Int) (l : List UInt8) (g : Nat) (S : Option Addr) (c k : Nat) (w : World) (hn2 : 2 ≤ n ∧ n ≤ 200) (hk : k ≤ 1000000) (hn : l.length ≤ 9223372036854775807) (hR : Rd w S (bys l)) (hne : l ≠ [] → ∀ b o, S = some ⟨b, o, none⟩ → b ≠ g) (hS : Src w g S l.length c k) :
    Calls Tryd.prog 114 #[.pointer (some ⟨g, 0, none⟩), .int .i64 n] w fun e w' => ∃ r : Int, e = .returned (.int .i64 r) ∧ 0 ≤ r ∧ r < n ∧ w.grownBy w' (some g) ∧ Src w' g S l.length c (k + 1) := by
  obtain ⟨n2, n3⟩ := hn2
  have h := src_next l g S c k w hk hn hR hne hS
  have hnz : ¬ n = 0 := by omega
  go_enter Tryd.func114, Tryd.ntmps114
  (go_wp2_with fail); (go_at_call 152); refine h.mono ?_; rintro e w1 ⟨r, rfl, h0, h1, hg, hS1⟩
  have hm1 := Int.emod_nonneg r (show n ≠ 0 by omega)
  have hm2 := Int.emod_lt_of_pos r (show 0 < n by omega)
  have ht : r.tmod n = r % n := Int.tmod_eq_emod_of_nonneg h0
  have HS := Aside.mk hS1
  clear hS1 hS hR hne
  go_wp2
  go_ret; exact ⟨_, rfl, hm1, hm2, hg, HS.out⟩
theorem src_from (S : Option Addr) (n c : Nat) (w : World) :
    Calls Tryd.prog 65 #[.slice S n c] w fun e w' => ∃ g, e = .returned (.pointer (some ⟨g, 0, none⟩)) ∧ w.heap.size ≤ g ∧ Keep w w' ∧ Src w' g S n c 0 := by
  have HB := Aside.mk (Bx.new w #[.slice S n c, .int .i64 ((0 : Nat) : Int), .int .u64 (U 0#64)] 146)
  go_enter Tryd.func65, Tryd.ntmps65
  go_wp2
  go_ret; exact ⟨_, rfl, Nat.le_refl _, (by ((repeat (first | (with_reducible assumption) | ((with_reducible refine Keep.setCell ?_ ?_ _); rotate_left; focus (first | omega | (simp; done) | (simp; omega))) | (with_reducible refine Keep.alloc ?_ _) | (with_reducible refine Keep.drewN ?_ _) | (with_reducible refine Keep.drew ?_) | (with_reducible exact Keep.refl _) | refine Keep.trans ?_ (by with_reducible assumption) | exact Keep.refl _ | assumption)))), 0, 0#64, Nat.le_refl _, HB.out⟩
end Go.Proofs.YtpmilcfppcmodaaDoor

set_option linter.unusedVariables false
set_option linter.unusedSimpArgs false
namespace Go.Proofs.YtpmilcfppcmodaaDoor
open Go.RowKit
set_option maxHeartbeats 1000000
set_option maxRecDepth 20000
theorem grown_setCell {a b : World} {row : Option Nat} (h : a.grownBy b row) {p : Addr} (hp : a.heap.size ≤ p.block) (v : Value) : a.grownBy (b.setCell p v) row :=
  ⟨h.os, h.tape, h.output, by simpa using h.size, fun i hi hne => (Below.heap_setCell b p v i (by omega)).trans (h.block i hi hne)⟩
theorem grown_alloc {a b : World} {row : Option Nat} (h : a.grownBy b row) (o : Obj) : a.grownBy (b.alloc o) row :=
  ⟨h.os, h.tape, h.output, by have := h.size; simp; omega, fun i hi hne => (Below.heap_alloc b o i (Nat.lt_of_lt_of_le hi h.size)).trans (h.block i hi hne)⟩
/-- A source of draws, whole: at most so many bytes on. -/
def Srcx (w : World) (g k : Nat) : Prop := ∃ (S : Option Addr) (l : List UInt8) (c : Nat), Src w g S l.length c k ∧ Rd w S (bys l) ∧ (l ≠ [] → ∀ b o, S = some ⟨b, o, none⟩ → b < g) ∧ l.length ≤ 9223372036854775807
theorem Srcx.keep {w w' : World} {g k : Nat} (h : Srcx w g k) (hk : Keep w w') : Srcx w' g k := by
  obtain ⟨S, l, c, h1, h2, h3, h4⟩ := h
  exact ⟨S, l, c, h1.keep hk, h2.keep hk, h3, h4⟩
theorem Srcx.more {w : World} {g k m : Nat} (h : Srcx w g k) (hm : k ≤ m) : Srcx w g m := by
  obtain ⟨S, l, c, h1, h2, h3, h4⟩ := h
  exact ⟨S, l, c, h1.more hm, h2, h3, h4⟩
theorem Srcx.lt {w : World} {g k : Nat} (h : Srcx w g k) : g < w.heap.size := by
  obtain ⟨S, l, c, ⟨i, sd, h1, h2⟩, _⟩ := h
  exact h2.lt
theorem rd_grown {w w' : World} {row : Option Nat} {S : Option Addr} {cs : List Value} (h : Rd w S cs) (hg : w.grownBy w' row) (hne : cs ≠ [] → ∀ b o, S = some ⟨b, o, none⟩ → some b ≠ row) : Rd w' S cs := by
  rcases h with h | ⟨b, o, h, hc⟩
  · exact .inl h
  · by_cases h0 : cs = []
    · exact .inl h0
    · exact .inr ⟨b, o, h, fun j v hj => hg.cell (hc j v hj) (hne h0 b o h)⟩
theorem Srcx.set {w : World} {g k : Nat} (h : Srcx w g k) {a : Addr} (ha : g < a.block) (v : Value) : Srcx (w.setCell a v) g k := by
  obtain ⟨S, l, c, ⟨i, sd, h1, h5⟩, h2, h3, h4⟩ := h
  refine ⟨S, l, c, ⟨i, sd, h1, h5.set' (by omega) v⟩, ?_, h3, h4⟩
  by_cases h0 : l = []
  · subst h0; exact .inl rfl
  · refine rd_grown (row := some a.block) h2 ⟨rfl, rfl, rfl, by simp, fun i hi hne => Below.heap_setCell w a v i (by simpa using hne)⟩ (fun _ b o hb => ?_)
    have := h3 h0 b o hb
    simp; omega
theorem srcx_pick (n : Int) (g k : Nat) (w : World) (hn : 1 ≤ n ∧ n ≤ 200) (hk : k ≤ 1000000) (h : Srcx w g k) :
    Calls Tryd.prog 114 #[.pointer (some ⟨g, 0, none⟩), .int .i64 n] w fun e w' => ∃ r : Int, e = .returned (.int .i64 r) ∧ 0 ≤ r ∧ r < n ∧ w.grownBy w' (some g) ∧ Srcx w' g (k + 1) := by
  by_cases h1 : n = 1
  · subst h1
    have H := Aside.mk (h.more (Nat.le_succ k))
    clear h
    go_enter Tryd.func114, Tryd.ntmps114
    go_wp2
    go_ret; exact ⟨0, rfl, by decide, by decide, grown_refl _ _, H.out⟩
  · obtain ⟨S, l, c, h1, h2, h3, h4⟩ := h
    refine (src_pick n l g S c k w ⟨by omega, hn.2⟩ hk h4 h2 (fun h0 b o hb => Nat.ne_of_lt (h3 h0 b o hb)) h1).mono ?_
    rintro e w' ⟨r, he, r0, r1, hg, hS⟩
    exact ⟨r, he, r0, r1, hg, S, l, c, hS, rd_grown h2 hg (fun h0 b o hb => by
      have := h3 (by rintro rfl; exact h0 rfl) b o hb
      simp; omega), h3, h4⟩
theorem srcx_from (S : Option Addr) (l : List UInt8) (c : Nat) (w : World) (hm : l.length ≤ 9223372036854775807) (hR : Rd w S (bys l)) :
    Calls Tryd.prog 65 #[.slice S l.length c] w fun e w' => ∃ g, e = .returned (.pointer (some ⟨g, 0, none⟩)) ∧ w.heap.size ≤ g ∧ Keep w w' ∧ Srcx w' g 0 := by
  refine (src_from S l.length c w).mono ?_
  rintro e w' ⟨g, he, h1, h2, h3⟩
  refine ⟨g, he, h1, h2, S, l, c, h3, hR.keep h2, fun h0 b o hb => ?_, hm⟩
  subst hb
  rcases hR with h | ⟨b', o', h, hc⟩
  · exact absurd (by simpa [bys] using h) h0
  · simp only [Option.some.injEq, Addr.mk.injEq, and_true] at h
    obtain ⟨rfl, rfl⟩ := h
    have hl : 0 < l.length := List.length_pos_iff.2 h0
    have := World.block_lt_of_cell? w _ (hc 0 _ (bys_at l 0 hl))
    simp at this
    omega
/-- A value of which something is known, whatever the world. -/
def Fp (p : Value → Prop) : Fact := fun v _ => p v
/-- A number that was drawn. -/
def Pk (n : Int) : Fact := Fp fun v => ∃ r : Int, v = .int .i64 r ∧ 0 ≤ r ∧ r < n
def GrowFact (g : Nat) (R : Fact) : Prop := ∀ v w w', R v w → w.grownBy w' (some g) → R v w'
def AllGrow (g : Nat) : List Fact → Prop
  | [] => True
  | R :: Rs => GrowFact g R ∧ AllGrow g Rs
theorem Fx.grow (g : Nat) (x : Value) : GrowFact g (Fx x) := fun _ _ _ h _ => h
theorem Fp.grow (g : Nat) (p : Value → Prop) : GrowFact g (Fp p) := fun _ _ _ h _ => h
theorem Al.grow {g B : Nat} (cs : Array Value) (T : TypeId) (h : g < B) : GrowFact g (Al B cs T) := fun _ _ _ ⟨i, h1, h2, h3⟩ hg => ⟨i, h1, h2.grownBy hg (by simp; omega), h3⟩
theorem grow_of {g : Nat} {Rs : List Fact} (h : AllGrow g Rs) : ∀ i v w w', factAt Rs i v w → w.grownBy w' (some g) → factAt Rs i v w' := by
  induction Rs with
  | nil => intro i v w w' _ _; simp [factAt]
  | cons R Rs ih =>
    intro i v w w' hf hk
    cases i with
    | zero => exact h.1 v w w' hf hk
    | succ i => exact ih h.2 i v w w' hf hk
def JS (W0 : World) (g k : Nat) (b : Bool) (w : World) : Prop := W0.grownBy w (some g) ∧ Srcx w g (if b then k + 1 else k)
theorem js_other {W0 w w' : World} {g k p0 i : Nat} (h : i ≠ p0) (hk : Keep w w') : StJ (JS W0 g k) p0 g i w w' := by
  unfold StJ; rw [if_neg h]; exact hk
theorem js_call {P : Program} {f : FuncId} {args : Array Value} {W0 w : World} {g k p0 i : Nat} {X : Value} (hi : i ≠ p0) (h : Calls P f args w fun e w' => e = .returned X ∧ Keep w w') :
    Calls P f args w fun e w' => ∃ u, e = .returned u ∧ StJ (JS W0 g k) p0 g i w w' ∧ Fx X u w' := h.mono fun e w' ⟨h1, h2⟩ => ⟨X, h1, js_other hi h2, rfl⟩
theorem js_callp {P : Program} {f : FuncId} {args : Array Value} {W0 w : World} {g k p0 i : Nat} {p : Value → Prop} {X : Value} (hi : i ≠ p0) (hp : p X) (h : Calls P f args w fun e w' => e = .returned X ∧ Keep w w') :
    Calls P f args w fun e w' => ∃ u, e = .returned u ∧ StJ (JS W0 g k) p0 g i w w' ∧ Fp p u w' := h.mono fun e w' ⟨h1, h2⟩ => ⟨X, h1, js_other hi h2, hp⟩
theorem js_pick {W0 w : World} {g k i : Nat} {n : Int} (hn : 1 ≤ n ∧ n ≤ 200) (hk : k ≤ 1000000) (h : JS W0 g k false w) :
    Calls Tryd.prog 114 #[.pointer (some ⟨g, 0, none⟩), .int .i64 n] w fun e w' => ∃ u, e = .returned u ∧ StJ (JS W0 g k) i g i w w' ∧ Pk n u w' := by
  refine (srcx_pick n g k w hn hk h.2).mono ?_
  rintro e w' ⟨r, he, r0, r1, hg, hS⟩
  refine ⟨_, he, ?_, r, rfl, r0, r1⟩
  unfold StJ
  rw [if_pos rfl]
  exact ⟨hg, grown_trans h.1 hg, hS⟩
section
variable {P : Program} {Q : Exit → Act → World → Prop}
theorem wp_region_src {id : Nat} {l : List Oper} {a : Act} {w : World} (n : Nat) (Rs : List Fact) (p0 g k : Nat) (hm : P.follows .mixedOrders = true) (hB : monoB a.tmps.size l.toArray n = true) (hR : AllGrow g Rs) (hp : p0 < n) (hS : Srcx w g k)
    (steps : StepsJ P (JS w g k) p0 g (fun v => putAll v 0 (l.take n) a) Rs 0 (l.take n))
    (tail : ∀ v w', w.grownBy w' (some g) → Srcx w' g (k + 1) → Held Rs v w' n → wpList P l.toArray Q (l.drop n) (putAll v 0 (l.take n) a) w') : (Code.region id l.toArray true).wp P Q a w :=
  wp_region_monoJ n Rs hm hB (grow_of hR) (fun b w1 w2 h hk => ⟨grown_trans h.1 (grown_keep hk _), h.2.keep hk⟩) hp ⟨grown_refl _ _, hS⟩ steps (fun v w' h hh => tail v w' h.1 h.2 hh)
end
end Go.Proofs.YtpmilcfppcmodaaDoor

set_option linter.unusedVariables false
set_option linter.unusedSimpArgs false
namespace Go.Proofs.YtpmilcfppcmodaaDoor
open Go.RowKit
set_option maxHeartbeats 400000
set_option maxRecDepth 20000
theorem shl_shr (b : Wd) : ∃ x : Wd, IntKind.u64.wrap (U b * 4294967296) / 4294967296 = U x ∧ okB x = true := by
  have h0 := U_nonneg b
  have h1 := U_lt b
  rw [IntKind.wrap_u64]
  refine ⟨BitVec.ofInt 64 (U b * 4294967296 % 18446744073709551616 / 4294967296), U_ofInt (by omega) (by omega), ?_⟩
  unfold okB
  rw [BitVec.toNat_ofInt]
  simp
  omega
theorem shl_one {n : Int} (h0 : 0 ≤ n) (h1 : n < 64) : IntKind.u64.wrap (2 ^ n.toNat) = U (1#64 <<< n.toNat) := wrap_pow _ (by omega)
theorem src_any (g k : Nat) (w : World) (hk : k ≤ 100000) (hS : Srcx w g k) :
    Calls Tryd.prog 127 #[.pointer (some ⟨g, 0, none⟩)] w fun e w' => ∃ a b, e = .returned (.agg #[.int .u64 (U a), .int .u64 (U b)]) ∧ w.grownBy w' (some g) ∧ Srcx w' g (k + 10) := by
  have hz := hS.lt
  have hA := (Bx.new w #[.int .u64 0, .int .u64 0] 33).alloc (.cells #[.int .u64 0, .int .u64 0] 33)
  have hM := Bx.new1 w (.cells #[.int .u64 0, .int .u64 0] 33) #[.int .u64 (U (0#64)), .int .u64 (U (0#64))] 33
  rw [U_zero] at hM
  have hS0 := (hS.keep ((Keep.refl w).alloc (.cells #[.int .u64 0, .int .u64 0] 33))).keep ((Keep.refl _).alloc (.cells #[.int .u64 0, .int .u64 0] 33))
  have hG0 : w.grownBy ((w.alloc (.cells #[.int .u64 0, .int .u64 0] 33)).alloc (.cells #[.int .u64 0, .int .u64 0] 33)) (some g) := grown_keep (((Keep.refl w).alloc _).alloc _) _
  clear hS
  go_enter Tryd.func127, Tryd.ntmps127
  (go_wp2_with fail); (go_at_call 114); refine (srcx_pick 8 g k _ (by decide) (by omega) hS0).mono ?_; rintro e w1 ⟨r, rfl, r0, r1, hg1, hS1⟩
  replace hA := hA.grownBy hg1 (by simp; omega)
  replace hM := hM.grownBy hg1 (by simp; omega)
  have hG1 := grown_trans hG0 hg1
  clear hG0 hS0 hg1
  go_wp2_with fail
  go_loopg [4] r.toNat (fun mm s4 wr => ∃ (m : Nat) (a b : Wd), m = mm ∧ s4 = .int .i64 ((m : Int)) ∧ m ≤ 7 ∧ Bx wr w.heap.size #[.int .u64 0, .int .u64 0] 33 ∧ Bx wr (w.heap.size + 1) #[.int .u64 (U a), .int .u64 (U b)] 33 ∧ w.grownBy wr (some g) ∧ Srcx wr g (k + 8 - m))
  case atStart => exact ⟨_, 0#64, 0#64, rfl, by rw [Int.toNat_of_nonneg r0], by omega, hA, by rw [U_zero]; exact hM, hG1, hS1.more (by omega)⟩
  case round =>
    obtain ⟨m, a, b, rfl, rfl, hm, hA, hM, hG, hS⟩ := hrel
    by_cases hm0 : 0 < m
    · have hMs := hM.two
      go_wp2_with fail
      clear hMs
      apply wp_region_src 5 [Fx (.agg #[.int .u64 (U a), .int .u64 (U b)]), Fx (.pointer (some ⟨g, 0, none⟩)), Pk 96, Fp (fun v => ∃ x y : Wd, v = .agg #[.int .u64 (U x), .int .u64 (U y)]), Fp (fun v => ∃ x y : Wd, v = .agg #[.int .u64 (U x), .int .u64 (U y)])] 2 g ((k + 8 - m)) (by kernel_rfl) (by kernel_rfl) ⟨Fx.grow _ _, Fx.grow _ _, Fp.grow _ _, Fp.grow _ _, Fp.grow _ _, trivial⟩ (by decide) hS ?st1 ?tl1
      case st1 =>
        simp only [List.take_succ_cons, List.take_zero, List.drop_succ_cons, List.drop_zero, putAll, Act.put, List.setIfInBounds_toArray, List.set_cons_succ, List.set_cons_zero, Nat.zero_add, Nat.reduceAdd]
        refine StepsJ.cons _ _ _ ?_ (StepsJ.cons _ _ _ ?_ (StepsJ.cons _ _ _ ?_ (StepsJ.cons _ _ _ ?_ (StepsJ.cons _ _ _ ?_ (StepsJ.nil _)))))
        focus
          intro v w2 bJ hb hJ hd
          have hgw := hJ.1
          have hgz := hgw.size
          obtain ⟨hM_0, hM_1, hM_2, hM_3, hM_4⟩ := (hM.grownBy hgw (by first | (simp; omega) | (simp; done) | (intro hcx; simp at hcx; omega))).two
          simp [DepsOf, factAt, Fx, Fp, Pk, Region.binds] at hd
          simp only [factAt, List.getD_cons_zero, List.getD_cons_succ]
          refine Gives.mk ?_
          go_simp
          first | exact ⟨js_other (by decide) (Keep.refl _), Fx.self _ _⟩ | exact ⟨js_other (by decide) ((Keep.refl _).alloc _), _, rfl, Bx.new _ _ _, by first | omega | (simp; omega)⟩
        focus
          intro v w2 bJ hb hJ hd
          have hgw := hJ.1
          have hgz := hgw.size
          obtain ⟨hM_0, hM_1, hM_2, hM_3, hM_4⟩ := (hM.grownBy hgw (by first | (simp; omega) | (simp; done) | (intro hcx; simp at hcx; omega))).two
          simp [DepsOf, factAt, Fx, Fp, Pk, Region.binds] at hd
          simp only [factAt, List.getD_cons_zero, List.getD_cons_succ]
          refine Gives.mk ?_
          go_simp
          first | exact ⟨js_other (by decide) (Keep.refl _), Fx.self _ _⟩ | exact ⟨js_other (by decide) ((Keep.refl _).alloc _), _, rfl, Bx.new _ _ _, by first | omega | (simp; omega)⟩
        focus
          intro v w2 bJ hb hJ hd
          have hgw := hJ.1
          have hgz := hgw.size
          obtain ⟨hM_0, hM_1, hM_2, hM_3, hM_4⟩ := (hM.grownBy hgw (by first | (simp; omega) | (simp; done) | (intro hcx; simp at hcx; omega))).two
          simp [DepsOf, factAt, Fx, Fp, Pk, Region.binds] at hd
          obtain rfl := hb rfl
          simp only [factAt, List.getD_cons_zero, List.getD_cons_succ]
          refine Gives.mk ?_
          go_simp
          first | (go_at_call 114; exact js_pick ⟨by omega, by omega⟩ (by omega) hJ)
        focus
          intro v w2 bJ hb hJ hd
          have hgw := hJ.1
          have hgz := hgw.size
          obtain ⟨hM_0, hM_1, hM_2, hM_3, hM_4⟩ := (hM.grownBy hgw (by first | (simp; omega) | (simp; done) | (intro hcx; simp at hcx; omega))).two
          simp [DepsOf, factAt, Fx, Fp, Pk, Region.binds] at hd
          obtain ⟨r, hr, q0, q1⟩ := hd
          simp only [factAt, List.getD_cons_zero, List.getD_cons_succ]
          refine Gives.mk ?_
          go_simp
          first | exact ⟨js_other (by decide) (Keep.refl _), Fx.self _ _⟩ | exact ⟨js_other (by decide) ((Keep.refl _).alloc _), _, rfl, Bx.new _ _ _, by first | omega | (simp; omega)⟩ | (go_at_call 123; exact js_callp (by decide) (by exact ⟨_, _, rfl⟩) (spec_l01Bit r q0 q1 _))
        focus
          intro v w2 bJ hb hJ hd
          have hgw := hJ.1
          have hgz := hgw.size
          obtain ⟨hM_0, hM_1, hM_2, hM_3, hM_4⟩ := (hM.grownBy hgw (by first | (simp; omega) | (simp; done) | (intro hcx; simp at hcx; omega))).two
          simp [DepsOf, factAt, Fx, Fp, Pk, Region.binds] at hd
          obtain ⟨hv0, x, y, hr⟩ := hd
          simp only [factAt, List.getD_cons_zero, List.getD_cons_succ]
          refine Gives.mk ?_
          go_simp
          first | exact ⟨js_other (by decide) (Keep.refl _), Fx.self _ _⟩ | exact ⟨js_other (by decide) ((Keep.refl _).alloc _), _, rfl, Bx.new _ _ _, by first | omega | (simp; omega)⟩ | (go_at_call 120; exact js_callp (by decide) (by exact ⟨_, _, rfl⟩) (spec_l01Join _ _ _ _ _))
      simp only [List.take_succ_cons, List.take_zero, List.drop_succ_cons, List.drop_zero, putAll, Act.put, List.setIfInBounds_toArray, List.set_cons_succ, List.set_cons_zero, Nat.zero_add, Nat.reduceAdd]
      intro v w2 hgw hS2 hh
      have hgz := hgw.size
      obtain ⟨hM_0, hM_1, hM_2, hM_3, hM_4⟩ := (hM.grownBy hgw (by first | (simp; omega) | (simp; done) | (intro hcx; simp at hcx; omega))).two
      simp only [Held, factAt, List.getD_cons_zero, List.getD_cons_succ, Fx, Fp, Pk, true_and] at hh
      obtain ⟨⟨⟨⟨v_0, v_1⟩, v_2⟩, v_3⟩, v_4⟩ := hh
      simp only [v_0, v_1]
      obtain ⟨a2, b2, e4⟩ := v_4
      simp only [e4]
      have hA2 := hA.grownBy hgw (by simp; omega)
      have hM2 := hM.grownBy hgw (by simp; omega)
      have hG2 := grown_trans hG hgw
      clear hA hM hG hS v_2 v_3 e4 hgw
      go_wp2
      go_roundg (m - 1)
      case measure => omega
      case rel => exact ⟨m - 1, a2, b2, rfl, by rw [show ((m - 1 : Nat) : Int) = (m : Int) - 1 by omega], by omega, (hA2.set' (by simp) _).set' (by simp) _, (hM2.set (i := 0) _).set (i := 1) _, grown_setCell (grown_setCell hG2 (by simp) _) (by simp) _, ((hS2.set (by simp; omega) _).set (by simp; omega) _).more (by omega)⟩
    · have hMs := hM.two
      have hAs := hA.two
      have e0 : m = 0 := by omega
      subst e0
      (go_wp2_with fail); (go_at_call 114); refine (srcx_pick 24 g _ _ (by decide) (by omega) hS).mono ?_; rintro e w2 ⟨r, rfl, r0, r1, hg2, hS2⟩
      replace hA := hA.grownBy hg2 (by simp; omega)
      replace hM := hM.grownBy hg2 (by simp; omega)
      have hG2 := grown_trans hG hg2
      clear hG hS hg2 hMs hAs hS1 hG1
      have hMs := hM.two
      have hAs := hA.two
      by_cases h0 : r = 0
      · subst h0
        go_wp2_with fail
        clear hMs
        have hS := hS2
        apply wp_region_src 8 [Fx (.pointer (some ⟨w.heap.size + 1, 1, none⟩)), Fx (.int .u64 (U b)), Fx (.pointer (some ⟨g, 0, none⟩)), Pk 33, Fp (fun v => ∃ x : Int, v = .int .i64 x ∧ 31 ≤ x ∧ x ≤ 63), Fp (fun v => ∃ x : Int, v = .int .u64 x ∧ 31 ≤ x ∧ x ≤ 63), Fp (fun v => ∃ x : Wd, v = .int .u64 (U x)), Fp (fun v => ∃ x : Wd, v = .int .u64 (U x))] 3 g ((k + 8 - 0 + 1)) (by kernel_rfl) (by kernel_rfl) ⟨Fx.grow _ _, Fx.grow _ _, Fx.grow _ _, Fp.grow _ _, Fp.grow _ _, Fp.grow _ _, Fp.grow _ _, Fp.grow _ _, trivial⟩ (by decide) hS ?st2 ?tl2
        case st2 =>
          simp only [List.take_succ_cons, List.take_zero, List.drop_succ_cons, List.drop_zero, putAll, Act.put, List.setIfInBounds_toArray, List.set_cons_succ, List.set_cons_zero, Nat.zero_add, Nat.reduceAdd]
          refine StepsJ.cons _ _ _ ?_ (StepsJ.cons _ _ _ ?_ (StepsJ.cons _ _ _ ?_ (StepsJ.cons _ _ _ ?_ (StepsJ.cons _ _ _ ?_ (StepsJ.cons _ _ _ ?_ (StepsJ.cons _ _ _ ?_ (StepsJ.cons _ _ _ ?_ (StepsJ.nil _))))))))
          focus
            intro v w2 bJ hb hJ hd
            have hgw := hJ.1
            have hgz := hgw.size
            obtain ⟨hM_0, hM_1, hM_2, hM_3, hM_4⟩ := (hM.grownBy hgw (by first | (simp; omega) | (simp; done) | (intro hcx; simp at hcx; omega))).two
            simp [DepsOf, factAt, Fx, Fp, Pk, Region.binds] at hd
            simp only [factAt, List.getD_cons_zero, List.getD_cons_succ]
            refine Gives.mk ?_
            go_simp
            first | exact ⟨js_other (by decide) (Keep.refl _), Fx.self _ _⟩ | exact ⟨js_other (by decide) ((Keep.refl _).alloc _), _, rfl, Bx.new _ _ _, by first | omega | (simp; omega)⟩
          focus
            intro v w2 bJ hb hJ hd
            have hgw := hJ.1
            have hgz := hgw.size
            obtain ⟨hM_0, hM_1, hM_2, hM_3, hM_4⟩ := (hM.grownBy hgw (by first | (simp; omega) | (simp; done) | (intro hcx; simp at hcx; omega))).two
            simp [DepsOf, factAt, Fx, Fp, Pk, Region.binds] at hd
            simp only [factAt, List.getD_cons_zero, List.getD_cons_succ]
            refine Gives.mk ?_
            go_simp
            first | exact ⟨js_other (by decide) (Keep.refl _), Fx.self _ _⟩ | exact ⟨js_other (by decide) ((Keep.refl _).alloc _), _, rfl, Bx.new _ _ _, by first | omega | (simp; omega)⟩
          focus
            intro v w2 bJ hb hJ hd
            have hgw := hJ.1
            have hgz := hgw.size
            obtain ⟨hM_0, hM_1, hM_2, hM_3, hM_4⟩ := (hM.grownBy hgw (by first | (simp; omega) | (simp; done) | (intro hcx; simp at hcx; omega))).two
            simp [DepsOf, factAt, Fx, Fp, Pk, Region.binds] at hd
            simp only [factAt, List.getD_cons_zero, List.getD_cons_succ]
            refine Gives.mk ?_
            go_simp
            first | exact ⟨js_other (by decide) (Keep.refl _), Fx.self _ _⟩ | exact ⟨js_other (by decide) ((Keep.refl _).alloc _), _, rfl, Bx.new _ _ _, by first | omega | (simp; omega)⟩
          focus
            intro v w2 bJ hb hJ hd
            have hgw := hJ.1
            have hgz := hgw.size
            obtain ⟨hM_0, hM_1, hM_2, hM_3, hM_4⟩ := (hM.grownBy hgw (by first | (simp; omega) | (simp; done) | (intro hcx; simp at hcx; omega))).two
            simp [DepsOf, factAt, Fx, Fp, Pk, Region.binds] at hd
            obtain rfl := hb rfl
            simp only [factAt, List.getD_cons_zero, List.getD_cons_succ]
            refine Gives.mk ?_
            go_simp
            first | (go_at_call 114; exact js_pick ⟨by omega, by omega⟩ (by omega) hJ)
          focus
            intro v w2 bJ hb hJ hd
            have hgw := hJ.1
            have hgz := hgw.size
            obtain ⟨hM_0, hM_1, hM_2, hM_3, hM_4⟩ := (hM.grownBy hgw (by first | (simp; omega) | (simp; done) | (intro hcx; simp at hcx; omega))).two
            simp [DepsOf, factAt, Fx, Fp, Pk, Region.binds] at hd
            obtain ⟨r, hr, q0, q1⟩ := hd
            simp only [factAt, List.getD_cons_zero, List.getD_cons_succ]
            refine Gives.mk ?_
            go_simp
            first | exact ⟨js_other (by decide) (Keep.refl _), Fx.self _ _⟩ | exact ⟨js_other (by decide) ((Keep.refl _).alloc _), _, rfl, Bx.new _ _ _, by first | omega | (simp; omega)⟩ | (exact ⟨js_other (by decide) (Keep.refl _), 31 + r, by rw [wrapI64 ⟨by omega, by omega⟩], by omega, by omega⟩)
          focus
            intro v w2 bJ hb hJ hd
            have hgw := hJ.1
            have hgz := hgw.size
            obtain ⟨hM_0, hM_1, hM_2, hM_3, hM_4⟩ := (hM.grownBy hgw (by first | (simp; omega) | (simp; done) | (intro hcx; simp at hcx; omega))).two
            simp [DepsOf, factAt, Fx, Fp, Pk, Region.binds] at hd
            obtain ⟨r, hr, q0, q1⟩ := hd
            simp only [factAt, List.getD_cons_zero, List.getD_cons_succ]
            refine Gives.mk ?_
            go_simp
            first | exact ⟨js_other (by decide) (Keep.refl _), Fx.self _ _⟩ | exact ⟨js_other (by decide) ((Keep.refl _).alloc _), _, rfl, Bx.new _ _ _, by first | omega | (simp; omega)⟩ | (exact ⟨js_other (by decide) (Keep.refl _), r, by rw [IntKind.wrap_u64, Int.emod_eq_of_lt (by omega) (by omega)], by omega, by omega⟩)
          focus
            intro v w2 bJ hb hJ hd
            have hgw := hJ.1
            have hgz := hgw.size
            obtain ⟨hM_0, hM_1, hM_2, hM_3, hM_4⟩ := (hM.grownBy hgw (by first | (simp; omega) | (simp; done) | (intro hcx; simp at hcx; omega))).two
            simp [DepsOf, factAt, Fx, Fp, Pk, Region.binds] at hd
            obtain ⟨r, hr, q0, q1⟩ := hd
            simp only [factAt, List.getD_cons_zero, List.getD_cons_succ]
            refine Gives.mk ?_
            go_simp
            first | exact ⟨js_other (by decide) (Keep.refl _), Fx.self _ _⟩ | exact ⟨js_other (by decide) ((Keep.refl _).alloc _), _, rfl, Bx.new _ _ _, by first | omega | (simp; omega)⟩ | (exact ⟨js_other (by decide) (Keep.refl _), _, by rw [shl_one (by omega) (by omega)]⟩)
          focus
            intro v w2 bJ hb hJ hd
            have hgw := hJ.1
            have hgz := hgw.size
            obtain ⟨hM_0, hM_1, hM_2, hM_3, hM_4⟩ := (hM.grownBy hgw (by first | (simp; omega) | (simp; done) | (intro hcx; simp at hcx; omega))).two
            simp [DepsOf, factAt, Fx, Fp, Pk, Region.binds] at hd
            obtain ⟨hv0, x, hr⟩ := hd
            simp only [factAt, List.getD_cons_zero, List.getD_cons_succ]
            refine Gives.mk ?_
            go_simp
            first | exact ⟨js_other (by decide) (Keep.refl _), Fx.self _ _⟩ | exact ⟨js_other (by decide) ((Keep.refl _).alloc _), _, rfl, Bx.new _ _ _, by first | omega | (simp; omega)⟩ | (exact ⟨js_other (by decide) (Keep.refl _), _, rfl⟩)
        simp only [List.take_succ_cons, List.take_zero, List.drop_succ_cons, List.drop_zero, putAll, Act.put, List.setIfInBounds_toArray, List.set_cons_succ, List.set_cons_zero, Nat.zero_add, Nat.reduceAdd]
        intro v w2 hgw hS2 hh
        have hgz := hgw.size
        obtain ⟨hM_0, hM_1, hM_2, hM_3, hM_4⟩ := (hM.grownBy hgw (by first | (simp; omega) | (simp; done) | (intro hcx; simp at hcx; omega))).two
        simp only [Held, factAt, List.getD_cons_zero, List.getD_cons_succ, Fx, Fp, Pk, true_and] at hh
        obtain ⟨⟨⟨⟨⟨⟨⟨v_0, v_1⟩, v_2⟩, v_3⟩, v_4⟩, v_5⟩, v_6⟩, v_7⟩ := hh
        simp only [v_0, v_1, v_2]
        obtain ⟨b2, e7⟩ := v_7
        simp only [e7]
        have hA2 := hA.grownBy hgw (by simp; omega)
        have hM2 := (hM.grownBy hgw (by simp; omega)).set (i := 1) (.int .u64 (U b2))
        have hA3 := hA2.set' (a := ⟨w.heap.size + 1, 1, none⟩) (by simp) (.int .u64 (U b2))
        have HG := Aside.mk (grown_setCell (grown_trans hG2 hgw) (p := ⟨w.heap.size + 1, 1, none⟩) (by simp) (.int .u64 (U b2)))
        have HS := Aside.mk (hS2.set (a := ⟨w.heap.size + 1, 1, none⟩) (by simp; omega) (.int .u64 (U b2)))
        have hAs := hA3.two
        have hMt := hM2.two
        clear v_2 v_3 v_4 v_5 v_6 e7 hA hM hS hG2 hgw hS2 hA2 hM2 hA3
        go_wp2
        apply bodyPost_ret; rotate_left; rfl; exact ⟨a, b2, rfl, grown_setCell (grown_setCell HG.out (by simp) _) (by simp) _, ((HS.out.set (by simp; omega) _).set (by simp; omega) _).more (by omega)⟩; simp [results, Tryd.results127, go_sem, U_zero, *]
      · by_cases h1 : r = 1
        · subst h1
          have HG := Aside.mk hG2
          have HS := Aside.mk hS2
          clear hG2 hS2 hA hM
          go_wp2
          apply bodyPost_ret; rotate_left; rfl; exact ⟨18446744073709551615#64, 4294967295#64, rfl, grown_setCell (grown_setCell (grown_setCell (grown_setCell HG.out (by simp) _) (by simp) _) (by simp) _) (by simp) _, ((((HS.out.set (by simp; omega) _).set (by simp; omega) _).set (by simp; omega) _).set (by simp; omega) _).more (by omega)⟩; simp [results, Tryd.results127, go_sem, U_zero, U, *]
        · have HG := Aside.mk hG2
          have HS := Aside.mk hS2
          have n0 : (r == 0) = false := by simpa using h0
          have n1 : (r == 1) = false := by simpa using h1
          clear hG2 hS2 hA hM
          go_wp2
          apply bodyPost_ret; rotate_left; rfl; exact ⟨a, b, rfl, grown_setCell (grown_setCell HG.out (by simp) _) (by simp) _, ((HS.out.set (by simp; omega) _).set (by simp; omega) _).more (by omega)⟩; simp [results, Tryd.results127, go_sem, U_zero, *]
end Go.Proofs.YtpmilcfppcmodaaDoor

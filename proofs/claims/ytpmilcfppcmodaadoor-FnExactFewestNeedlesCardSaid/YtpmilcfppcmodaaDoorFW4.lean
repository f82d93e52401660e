/- The fewest needles: the program's search. -/
import Derived.Test.YtpmilcfppcmodaaDoorFW3
import Derived.Test.YtpmilcfppcmodaaDoorL1
import Derived.Test.YtpmilcfppcmodaaDoorP1
set_option linter.unusedVariables false
set_option linter.unusedSimpArgs false
namespace Go.Proofs.YtpmilcfppcmodaaDoor
open Go.RowKit Go.Shelf
set_option maxHeartbeats 2000000
set_option maxRecDepth 20000
theorem wpList_append_none {P : Program} (w : World) {ops : Array Oper} {rest : List Oper} {o : Oper} {a : Act} {Q : Exit → Act → World → Prop} (hgd : o.guard = none) (s x : Operand) (t : TypeId)
    (ho : o.op = .call { callee := .builtin .append, args := #[s, x], argTypes := #[t, t] }) (hty : o.type = o.type)
    (base : Nat) (e : TypeId) (i : TypeInfo) (size : Nat) (ht : P.underlying t = some (.slice e)) (hi : P.info? e = some i)
    (v : Value) (n : Nat) (xs : List Value) (hs : a.eval s = v) (hown : w.ownsRow base e size v n xs) (hx : a.eval x = .slice none 0 0)
    (h : wpList P ops Q rest (a.put o.dst v) w) : wpList P ops Q (o :: rest) a w := by
  refine wpList_plain hgd fun K hK => ?_
  have hr := run_append_owned_none (P := P) (w := w) base t o.type e i size ht hi v n xs hown
  unfold Oper.wp execOp
  simp only [ho, resolve, invoke, builtin, Sem.run_bind, Sem.run_pure, Result.andThen_ok, List.map_toArray, List.map_cons, List.map_nil, hs, hx, hr]
  exact hK _ _ h
theorem wpList_append_rd {P : Program} (w : World) {ops : Array Oper} {rest : List Oper} {o : Oper} {a : Act} {Q : Exit → Act → World → Prop} (hgd : o.guard = none) (s x : Operand) (t : TypeId)
    (ho : o.op = .call { callee := .builtin .append, args := #[s, x], argTypes := #[t, t] }) (hty : o.type = o.type)
    (base : Nat) (e : TypeId) (i : TypeInfo) (z : Value) (ht : P.underlying t = some (.slice e)) (hi : P.info? e = some i) (hz : i.zero = some z) (hsize : i.size = 1) (hby : i.bytes = 8) (hzs : z.cells.size = 1)
    (v : Value) (hs : a.eval s = v) (hown : w.ownsRow base e 1 v 0 []) (H : Option Addr) (l : List Int) (c : Nat) (hx : a.eval x = .slice H l.length c) (hH : H = none → l = [] ∧ c = 0) (hR : Rd w H (ints l)) (hl : l.length ≤ 1000) (hb : base ≤ w.heap.size)
    (h : ∀ v' w', w'.ownsRow base e 1 v' l.length (ints l) → w.grownBy w' v.ownBlock → wpList P ops Q rest (a.put o.dst v') w') : wpList P ops Q (o :: rest) a w := by
  cases H with
  | none =>
    obtain ⟨rfl, rfl⟩ := hH rfl
    exact wpList_append_none w hgd s x t ho rfl base e i 1 ht hi v 0 [] hs hown hx (h v w hown (grown_refl _ _))
  | some ad =>
    refine wpList_append_own w hgd s x t ho base e i z 1 8 ht hi hz hsize hby hzs (by decide) v 0 [] hs hown ad l.length c (ints l) hx (by rw [ints_len]; omega) (fun j u hj => ?_) (fun u hu => ?_) (by unfold maxLen; omega) (by omega) hb (fun v' w' h1 h2 _ => h v' w' (by simpa using h1) h2)
    · rcases hR with h0 | ⟨g, o, e, hc0⟩
      · rw [h0] at hj; simp at hj
      · obtain rfl := Option.some.inj e
        by_cases e0 : j = 0
        · subst e0; simpa [Addr.add] using hc0 0 u hj
        · simpa [Addr.add, e0] using hc0 j u hj
    · unfold ints at hu; obtain ⟨x, _, rfl⟩ := List.mem_map.1 hu; rfl
/-- Is the card with this index notched at a hole? -/
def hasAt (l : List Cd) (h : Int) (k : Int) : Bool := match l[k.toNat]? with
  | some c => hasB c.a c.b h
  | none => false
def mayI (l : List Cd) (wd : List Int) (h : Nat) : Bool := wd.all (hasAt l h)
/-- What the search returns: found or not, and where the holes lie. -/
def Fnd (w : World) (v : Value) (r : Option (Wd × Wd)) : Prop := ∀ z, r = some z → ∃ H c, ∃ hs : List Int, v = .slice H hs.length c ∧ Rd w H (ints hs) ∧ hs.length ≤ 4 ∧ (∀ x ∈ hs, 0 ≤ x ∧ x < 96) ∧ z = (orLo 0#64 hs, orHi 0#64 hs)
theorem impl_needles (A B : Option Addr) (l : List Cd) (wd : List Int) (c d : Nat) (hm : l.length ≤ 1048576) (hw : wd.length ≤ 1048576) (hwd : ∀ x ∈ wd, 0 ≤ x ∧ x < l.length) :
    ∀ (k f : Nat) (hs : List Int) (H : Option Addr) (hc : Nat) (w : World), k + hs.length ≤ 3 → f ≤ 96 → (∀ x ∈ hs, 0 ≤ x ∧ x < 96) → Rd w A (cds l) → Rd w B (ints wd) → Rd w H (ints hs) → (H = none → hs = [] ∧ hc = 0) →
    Calls Tryd.prog 73 #[.slice A l.length c, .slice B wd.length d, .slice H hs.length hc, .int .i64 ((f : Int)), .int .i64 ((k : Int))] w fun e w' => ∃ v, e = .returned (.tuple #[v, .bool (srch (fitB l wd) (mayI l wd) k f (orLo 0#64 hs) (orHi 0#64 hs)).isSome]) ∧ Fnd w' v (srch (fitB l wd) (mayI l wd) k f (orLo 0#64 hs) (orHi 0#64 hs)) ∧ Keep w w'
  | 0, f, hs, H, hc, w, hk, hf, hb, hR, hS, hT, _ => by
    have hwi := Aside.mk (fun W h => impl_with 0#64 0#64 H hs hc W hb (by omega) h)
    have e1 : (srch (fitB l wd) (mayI l wd) 0 f (orLo 0#64 hs) (orHi 0#64 hs)).isSome = fitB l wd (orLo 0#64 hs) (orHi 0#64 hs) := by
      unfold srch; cases fitB l wd (orLo 0#64 hs) (orHi 0#64 hs) <;> rfl
    have hfnd : ∀ W, Rd W H (ints hs) → Fnd W (.slice H hs.length hc) (srch (fitB l wd) (mayI l wd) 0 f (orLo 0#64 hs) (orHi 0#64 hs)) := fun W h z hz => by
      refine ⟨H, hc, hs, rfl, h, by omega, hb, ?_⟩
      unfold srch at hz
      by_cases hP : fitB l wd (orLo 0#64 hs) (orHi 0#64 hs) = true
      · rw [if_pos hP] at hz; exact (Option.some.inj hz).symm
      · rw [if_neg hP] at hz; simp at hz
    have HFN := Aside.mk hfnd
    rw [e1]
    clear e1 hfnd
    generalize srch (fitB l wd) (mayI l wd) 0 f (orLo 0#64 hs) (orHi 0#64 hs) = R at *
    have hA := Aside.mk (fun W g (h : Bx W g #[.int .u64 (U (orLo 0#64 hs)), .int .u64 (U (orHi 0#64 hs)), .int .u64 (U (0#64)), .int .u64 (U (0#64))] 35) hr => impl_droppedBy A l c (some ⟨g, 0, none⟩) [⟨orLo 0#64 hs, orHi 0#64 hs, 0#64, 0#64⟩] 1 W hm (by simp) hr (rd_qry (q := ⟨orLo 0#64 hs, orHi 0#64 hs, 0#64, 0#64⟩) h))
    have hl : (ansL l [⟨orLo 0#64 hs, orHi 0#64 hs, 0#64, 0#64⟩]).length ≤ 1048576 := by have := anN_len l [⟨orLo 0#64 hs, orHi 0#64 hs, 0#64, 0#64⟩] l.length; unfold ansL; omega
    unfold fitB
    generalize ansL l [⟨orLo 0#64 hs, orHi 0#64 hs, 0#64, 0#64⟩] = L at *
    go_enter Tryd.func73, Tryd.ntmps73
    (go_wp2_with fail); (go_at_call 74); (refine (hwi.out _ hT).mono ?_); rintro e w1 ⟨rfl, hk1⟩
    (go_wp2_with fail); (go_at_call 80); (refine (hA.out _ _ (by first | exact Bx.new1 _ _ _ _ | exact Bx.new _ _ _) (hR.keep (by ((repeat (first | (with_reducible assumption) | ((with_reducible refine Keep.setCell ?_ ?_ _); rotate_left; focus (first | omega | (simp; done) | (simp; omega))) | (with_reducible refine Keep.alloc ?_ _) | (with_reducible refine Keep.drewN ?_ _) | (with_reducible refine Keep.drew ?_) | (with_reducible exact Keep.refl _) | refine Keep.trans ?_ (by with_reducible assumption) | exact Keep.refl _ | assumption)))))).mono ?_); rintro e w3 ⟨v, rfl, ho, hk3⟩
    have hg := Own.new ho
    obtain ⟨A5, c5, rfl⟩ := hg.form
    have hW : Keep w w3 := (by ((repeat (first | (with_reducible assumption) | ((with_reducible refine Keep.setCell ?_ ?_ _); rotate_left; focus (first | omega | (simp; done) | (simp; omega))) | (with_reducible refine Keep.alloc ?_ _) | (with_reducible refine Keep.drewN ?_ _) | (with_reducible refine Keep.drew ?_) | (with_reducible exact Keep.refl _) | refine Keep.trans ?_ (by with_reducible assumption) | exact Keep.refl _ | assumption))))
    clear ho hk3 hk1
    (go_wp2_with fail); (go_at_call 131); (refine (slices_EqualI _ _ _ _ _ _ _ (by omega) (by omega) hg.rd (hS.keep hW)).mono ?_); rintro e w4 ⟨rfl, hk4⟩
    have k4 : Keep w w4 := (by ((repeat (first | (with_reducible assumption) | ((with_reducible refine Keep.setCell ?_ ?_ _); rotate_left; focus (first | omega | (simp; done) | (simp; omega))) | (with_reducible refine Keep.alloc ?_ _) | (with_reducible refine Keep.drewN ?_ _) | (with_reducible refine Keep.drew ?_) | (with_reducible exact Keep.refl _) | refine Keep.trans ?_ (by with_reducible assumption) | exact Keep.refl _ | assumption))))
    have HF2 := Aside.mk (HFN.out _ (hT.keep k4))
    clear HFN hA hwi hg hk4
    go_wp2
    go_ret2; exact ⟨_, rfl, HF2.out, (by ((repeat (first | (with_reducible assumption) | ((with_reducible refine Keep.setCell ?_ ?_ _); rotate_left; focus (first | omega | (simp; done) | (simp; omega))) | (with_reducible refine Keep.alloc ?_ _) | (with_reducible refine Keep.drewN ?_ _) | (with_reducible refine Keep.drew ?_) | (with_reducible exact Keep.refl _) | refine Keep.trans ?_ (by with_reducible assumption) | exact Keep.refl _ | assumption))))⟩
  | k + 1, f, hs, H, hc, w, hk, hf, hb, hR, hS, hT, hH => by
    have hrec := fun (h : Nat) (hs : List Int) (H : Option Addr) (hc : Nat) (W : World) (h1 : k + hs.length ≤ 3) (h2 : h ≤ 96) (h0 : ∀ x ∈ hs, 0 ≤ x ∧ x < 96) (h3 : Rd W A (cds l)) (h4 : Rd W B (ints wd)) (h5 : Rd W H (ints hs)) (h6 : H = none → hs = [] ∧ hc = 0) => impl_needles A B l wd c d hm hw hwd k h hs H hc W h1 h2 h0 h3 h4 h5 h6
    obtain ⟨P, hP⟩ : ∃ P, fitB l wd = P := ⟨_, rfl⟩
    simp only [hP] at hrec
    rw [hP]
    obtain ⟨kk, hkk⟩ : ∃ kk : Int, ((k + 1 : Nat) : Int) = kk := ⟨_, rfl⟩
    have hks : (k : Int) = kk - 1 := by omega
    rw [hks] at hrec
    rw [hkk]
    have HREC := Aside.mk hrec
    have hk1 : ¬ kk = 0 := by omega
    have hkb : (kk == 0) = false := by simpa using hk1
    have hk2 : 0 ≤ kk ∧ kk ≤ 4 := by omega
    have wqk : IntKind.i64.wrap (kk - 1) = kk - 1 := wrapI64 ⟨by omega, by omega⟩
    have HS := Aside.mk (srch_succ P (mayI l wd) k f (orLo 0#64 hs) (orHi 0#64 hs))
    obtain ⟨R, hRR⟩ : ∃ R, srch P (mayI l wd) (k + 1) f (orLo 0#64 hs) (orHi 0#64 hs) = R := ⟨_, rfl⟩
    rw [hRR]
    rw [hRR] at HS
    obtain ⟨i0, hi0, hz0, hz1, hz2⟩ := info_parts int64_info
    clear hRR hks hkk hrec hP
    go_enter Tryd.func73, Tryd.ntmps73
    go_wp2_with fail
    try simp only [hkb]
    go_loopg [13] (96 - f) (fun n s13 wr => ∃ h : Nat, h + n = 96 ∧ f ≤ h ∧ s13 = .int .i64 h ∧ scan (srG P (mayI l wd) k (orLo 0#64 hs) (orHi 0#64 hs)) f (h - f) = none ∧ Keep w wr)
    case atStart => exact ⟨f, by omega, Nat.le_refl _, rfl, by rw [Nat.sub_self]; rfl, (by ((repeat (first | (with_reducible assumption) | ((with_reducible refine Keep.setCell ?_ ?_ _); rotate_left; focus (first | omega | (simp; done) | (simp; omega))) | (with_reducible refine Keep.alloc ?_ _) | (with_reducible refine Keep.drewN ?_ _) | (with_reducible refine Keep.drew ?_) | (with_reducible exact Keep.refl _) | refine Keep.trans ?_ (by with_reducible assumption) | exact Keep.refl _ | assumption))))⟩
    case round =>
      obtain ⟨h, hh, hfh, rfl, hsc, hk0⟩ := hrel
      have HSC := Aside.mk hsc
      clear hsc
      by_cases hlt : h < 96
      · have hltd : decide ((h : Int) < 96) = true := decide_eq_true (by omega)
        go_wp2_with fail
        try simp only [hltd]
        go_loopg [14, 39] wd.length (fun n2 s14 s39 wq => ∃ i : Nat, i + n2 = wd.length ∧ s14 = .bool ((wd.take i).all (hasAt l h)) ∧ s39 = .int .i64 i ∧ Keep wr wq)
        case atStart => exact ⟨0, by omega, rfl, rfl, (by ((repeat (first | (with_reducible assumption) | ((with_reducible refine Keep.setCell ?_ ?_ _); rotate_left; focus (first | omega | (simp; done) | (simp; omega))) | (with_reducible refine Keep.alloc ?_ _) | (with_reducible refine Keep.drewN ?_ _) | (with_reducible refine Keep.drew ?_) | (with_reducible exact Keep.refl _) | refine Keep.trans ?_ (by with_reducible assumption) | exact Keep.refl _ | assumption))))⟩
        case round =>
          obtain ⟨i, hi, rfl, rfl, hkq⟩ := hrel
          have hkw := hk0.trans hkq
          by_cases hil : i < wd.length
          · obtain ⟨bb, o, rfl, hcc⟩ := (hS.keep hkw).at (k := i) (by rw [ints_len]; omega)
            have p1 := hcc _ _ (ints_at wd i hil)
            obtain ⟨x0, x1⟩ := hwd wd[i] (List.getElem_mem hil)
            have HT := Aside.mk (show (wd.take (i + 1)).all (hasAt l h) = ((wd.take i).all (hasAt l h) && hasAt l h wd[i]) by
              rw [List.take_succ_eq_append_getElem hil, List.all_append]; simp)
            clear hcc
            generalize wd[i] = x at *
            obtain ⟨n, rfl⟩ : ∃ n : Nat, x = n := ⟨x.toNat, by omega⟩
            have hnl : n < l.length := by omega
            obtain ⟨b2, o2, rfl, hc2⟩ := (hR.keep hkw).at (k := n) (by rw [cds_len]; omega)
            obtain ⟨r1, r2, r3⟩ := cds_at l n hnl
            have q2 := hc2 _ _ r2
            have q3 := hc2 _ _ r3
            rw [← Nat.add_assoc] at q2 q3
            have HA := Aside.mk (show hasAt l h (n : Int) = hasB l[n].a l[n].b h by unfold hasAt; rw [Int.toNat_natCast, List.getElem?_eq_getElem hnl])
            clear hc2 r1 r2 r3
            generalize l[n] = y at *
            obtain ⟨ys, ya, yb⟩ := y
            simp only at q2 q3 HA
            cases hq : (wd.take i).all (hasAt l h)
            · have HT2 := Aside.mk (show (wd.take (i + 1)).all (hasAt l h) = false by rw [HT.out, hq]; rfl)
              clear HT HA
              go_wp2
              go_roundg (wd.length - (i + 1))
              case measure => omega
              case rel => exact ⟨i + 1, by omega, by rw [HT2.out], by go_num, (by ((repeat (first | (with_reducible assumption) | ((with_reducible refine Keep.setCell ?_ ?_ _); rotate_left; focus (first | omega | (simp; done) | (simp; omega))) | (with_reducible refine Keep.alloc ?_ _) | (with_reducible refine Keep.drewN ?_ _) | (with_reducible refine Keep.drew ?_) | (with_reducible exact Keep.refl _) | refine Keep.trans ?_ (by with_reducible assumption) | exact Keep.refl _ | assumption))))⟩
            · (go_wp2_with fail); (go_at_call 101); (refine (impl_has _ _ _ (by omega) (by omega) _).mono ?_); rintro e w1 ⟨rfl, hkh⟩
              have HT2 := Aside.mk (show (wd.take (i + 1)).all (hasAt l h) = hasB ya yb h by rw [HT.out, hq, HA.out]; rfl)
              clear HT HA
              go_wp2
              go_roundg (wd.length - (i + 1))
              case measure => omega
              case rel => exact ⟨i + 1, by omega, by rw [HT2.out], by go_num, (by ((repeat (first | (with_reducible assumption) | ((with_reducible refine Keep.setCell ?_ ?_ _); rotate_left; focus (first | omega | (simp; done) | (simp; omega))) | (with_reducible refine Keep.alloc ?_ _) | (with_reducible refine Keep.drewN ?_ _) | (with_reducible refine Keep.drew ?_) | (with_reducible exact Keep.refl _) | refine Keep.trans ?_ (by with_reducible assumption) | exact Keep.refl _ | assumption))))⟩
          · obtain rfl : i = wd.length := by omega
            rw [List.take_length]
            rw [show wd.all (hasAt l h) = mayI l wd h from rfl]
            cases hmy : mayI l wd h
            · have HG := Aside.mk (show scan (srG P (mayI l wd) k (orLo 0#64 hs) (orHi 0#64 hs)) f (h + 1 - f) = none by
                rw [show h + 1 - f = h - f + 1 by omega]
                exact scan_none HSC.out (by rw [show f + (h - f) = h by omega]; unfold srG; rw [hmy]; rfl))
              clear HSC hmy
              go_wp2
              go_roundg (96 - (h + 1))
              case measure => omega
              case rel => exact ⟨h + 1, by omega, by omega, by go_num, HG.out, (by ((repeat (first | (with_reducible assumption) | ((with_reducible refine Keep.setCell ?_ ?_ _); rotate_left; focus (first | omega | (simp; done) | (simp; omega))) | (with_reducible refine Keep.alloc ?_ _) | (with_reducible refine Keep.drewN ?_ _) | (with_reducible refine Keep.drew ?_) | (with_reducible exact Keep.refl _) | refine Keep.trans ?_ (by with_reducible assumption) | exact Keep.refl _ | assumption))))⟩
            · have hg : srG P (mayI l wd) k (orLo 0#64 hs) (orHi 0#64 hs) h = srch P (mayI l wd) k (h + 1) (orLo 0#64 (hs ++ [(h : Int)])) (orHi 0#64 (hs ++ [(h : Int)])) := by
                unfold srG; rw [hmy, orLo_app, orHi_app]; rfl
              have hbn : ∀ x ∈ hs ++ [(h : Int)], 0 ≤ x ∧ x < 96 := by
                intro x hx
                rcases List.mem_append.1 hx with hx | hx
                · exact hb x hx
                · simp at hx; omega
              have hlen : (hs ++ [(h : Int)]).length = hs.length + 1 := by simp
              have hr := fun W H' c' h3 h4 h5 h6 => HREC.out (h + 1) (hs ++ [(h : Int)]) H' c' W (by rw [hlen]; omega) (by omega) hbn h3 h4 h5 h6
              rw [show ((h + 1 : Nat) : Int) = (h : Int) + 1 by omega] at hr
              simp only [hlen] at hr
              have HSN := Aside.mk (fun (e : srG P (mayI l wd) k (orLo 0#64 hs) (orHi 0#64 hs) h = none) => (show scan (srG P (mayI l wd) k (orLo 0#64 hs) (orHi 0#64 hs)) f (h + 1 - f) = none by
                rw [show h + 1 - f = h - f + 1 by omega]
                exact scan_none HSC.out (by rw [show f + (h - f) = h by omega]; exact e)))
              have HSY := Aside.mk (fun z (e : srG P (mayI l wd) k (orLo 0#64 hs) (orHi 0#64 hs) h = some z) => scan_some (n := h - f) HSC.out (by rw [show f + (h - f) = h by omega]; exact e) (96 - f) (by omega))
              obtain ⟨r2, hr2⟩ : ∃ r, srch P (mayI l wd) k (h + 1) (orLo 0#64 (hs ++ [(h : Int)])) (orHi 0#64 (hs ++ [(h : Int)])) = r := ⟨_, rfl⟩
              rw [hr2] at hg
              simp only [hr2] at hr
              have hcl := Aside.mk hr
              have HGG := Aside.mk hg
              clear hr hg hr2 HSC hmy hbn hlen
              have wqh : IntKind.i64.wrap ((h : Int) + 1) = (h : Int) + 1 := wrapI64 ⟨by omega, by omega⟩
              have hl3 : hs.length ≤ 3 := by omega
              go_wp2_with (at_builtin; refine wpList_append_rd _ rfl _ _ 28 rfl rfl w.heap.size 2 i0 (.int .i64 0) Tryd.underlying28 hi0 hz0 hz1 hz2 rfl _ rfl (own_empty _ w.heap.size 2 (by have := hkw.size; omega)) H hs hc rfl hH (hT.keep (hkw.alloc _)) (by omega) (by have := hkw.size; simp; omega) ?_)
              intro v1 w1 hown1 hg1
              have k1 : Keep w w1 := (hkw.alloc _).grown hg1 (fun k hk => by simp [Value.ownBlock] at hk; have := hkw.size; omega)
              have HO1 := Aside.mk hown1
              clear hown1 hg1
              have hown1 := HO1.out
              have hr1 : ∀ k, Value.ownBlock _ = some k → _ := hown1.lt
              go_wp2_with (at_builtin; refine wpList_append_own _ rfl _ _ 28 rfl w.heap.size 2 i0 (.int .i64 0) 1 8 Tryd.underlying28 hi0 hz0 hz1 hz2 rfl (by decide) _ _ _ rfl (own_keep HO1.out ((Keep.refl _).alloc _)) ⟨w1.heap.size, 0, none⟩ 1 1 [.int .i64 h] rfl rfl ?e1 ?e2 ?e3 ?e4 ?e5 ?_)
              case e1 =>
                intro j u hj
                match j, hj with
                | 0, hj => simp at hj; subst hj; simp [Addr.add]
              case e2 => intro u hu; simp at hu; subst hu; rfl
              case e3 => unfold maxLen; omega
              case e4 => omega
              case e5 => have := k1.size; simp; omega
              intro v2 w2 hown2 hg2 _
              have k2 : Keep w w2 := (k1.alloc _).grown hg2 (fun k hk => by have := hr1 _ hk; omega)
              have HO2 := Aside.mk (show w2.ownsRow w.heap.size 2 1 v2 (hs.length + 1) (ints (hs ++ [(h : Int)])) by simpa [ints] using hown2)
              clear HO1 hown1 hr1 hown2 hg2 k1
              obtain ⟨A2, c2, rfl⟩ := (Own.new HO2.out).form
              have HRD := Aside.mk (Own.new HO2.out).rd
              obtain ⟨g2, rfl, hgb2⟩ := own_head HO2.out (by omega)
              (go_wp2_with fail); (go_at_call 73); (refine (hcl.out _ _ _ (hR.keep k2) (hS.keep k2) HRD.out (fun e => by simp at e)).mono ?_); rintro e w3 ⟨v, rfl, hf3, hk3⟩
              have k3 : Keep w w3 := (by ((repeat (first | (with_reducible assumption) | ((with_reducible refine Keep.setCell ?_ ?_ _); rotate_left; focus (first | omega | (simp; done) | (simp; omega))) | (with_reducible refine Keep.alloc ?_ _) | (with_reducible refine Keep.drewN ?_ _) | (with_reducible refine Keep.drew ?_) | (with_reducible exact Keep.refl _) | refine Keep.trans ?_ (by with_reducible assumption) | exact Keep.refl _ | assumption))))
              have HF3 := Aside.mk hf3
              clear hf3 hk3 HO2 HRD hcl
              cases r2 with
              | none =>
                have HG2 := Aside.mk (HSN.out HGG.out)
                clear HSN HSY HGG HREC HF3
                go_wp2
                go_roundg (96 - (h + 1))
                case measure => omega
                case rel => exact ⟨h + 1, by omega, by omega, by go_num, HG2.out, (by ((repeat (first | (with_reducible assumption) | ((with_reducible refine Keep.setCell ?_ ?_ _); rotate_left; focus (first | omega | (simp; done) | (simp; omega))) | (with_reducible refine Keep.alloc ?_ _) | (with_reducible refine Keep.drewN ?_ _) | (with_reducible refine Keep.drew ?_) | (with_reducible exact Keep.refl _) | refine Keep.trans ?_ (by with_reducible assumption) | exact Keep.refl _ | assumption))))⟩
              | some z =>
                have e2 : R = some z := HS.out.trans (HSY.out _ HGG.out)
                subst e2
                clear HSN HSY HGG HREC HS
                go_wp2
                go_ret2; exact ⟨_, rfl, HF3.out, (by ((repeat (first | (with_reducible assumption) | ((with_reducible refine Keep.setCell ?_ ?_ _); rotate_left; focus (first | omega | (simp; done) | (simp; omega))) | (with_reducible refine Keep.alloc ?_ _) | (with_reducible refine Keep.drewN ?_ _) | (with_reducible refine Keep.drew ?_) | (with_reducible exact Keep.refl _) | refine Keep.trans ?_ (by with_reducible assumption) | exact Keep.refl _ | assumption))))⟩
      · obtain rfl : h = 96 := by omega
        have e2 : R = none := HS.out.trans HSC.out
        subst e2
        clear HS HREC
        go_wp2
        go_ret2; exact ⟨_, rfl, (fun z hz => by simp at hz), (by ((repeat (first | (with_reducible assumption) | ((with_reducible refine Keep.setCell ?_ ?_ _); rotate_left; focus (first | omega | (simp; done) | (simp; omega))) | (with_reducible refine Keep.alloc ?_ _) | (with_reducible refine Keep.drewN ?_ _) | (with_reducible refine Keep.drew ?_) | (with_reducible exact Keep.refl _) | refine Keep.trans ?_ (by with_reducible assumption) | exact Keep.refl _ | assumption))))⟩
end Go.Proofs.YtpmilcfppcmodaaDoor

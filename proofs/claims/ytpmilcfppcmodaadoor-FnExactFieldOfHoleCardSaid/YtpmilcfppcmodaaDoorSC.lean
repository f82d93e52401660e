/- Is a scheme valid: the walks. -/
import Derived.Test.YtpmilcfppcmodaaDoorDK
import Derived.Test.YtpmilcfppcmodaaDoorFormF
set_option linter.unusedVariables false
set_option linter.unusedSimpArgs false
namespace Go.Proofs.YtpmilcfppcmodaaDoor
open Go.RowKit Go.Shelf
set_option maxHeartbeats 2000000
set_option maxRecDepth 20000
/-- A function value that enters f with what it holds behind its arguments. -/
theorem index_fld (A : Option Addr) (l : List Fd) (c g : Nat) (caps : Array Value) (q : Fd → Bool) (w : World) (hm : l.length ≤ 9223372036854775807) (hR : Rd w A (fds l))
    (eg : ∀ args w, (callFunc g args).run Tryd.prog w = .ok (.enter g args) w) (hq : ∀ x, x ∈ l → ∀ W, Keep w W → Calls Tryd.prog g (#[.agg #[.string x.s, .int .i8 (x.k), .int .i16 (x.st), .int .i16 (x.sz)]] ++ caps) W fun e w' => e = .returned (.bool (q x)) ∧ Keep W w') :
    Calls Tryd.prog 161 #[.slice A l.length c, .func (.func g) #[] caps] w fun e w' => ∃ n : Int, e = .returned (.int .i64 n) ∧ decide (0 ≤ n) = l.any q ∧ Keep w w' := by
  go_enter Tryd.func161, Tryd.ntmps161
  go_wp2_with fail
  go_loopg [5, 8] l.length (fun k s5 s8 wr => ∃ i : Nat, i + k = l.length ∧ s8 = .int .i64 i ∧ (l.take i).any q = false ∧ Keep w wr)
  case atStart => exact ⟨0, by omega, rfl, rfl, (by ((repeat (first | (with_reducible assumption) | ((with_reducible refine Keep.setCell ?_ ?_ _); rotate_left; focus (first | omega | (simp; done) | (simp; omega))) | (with_reducible refine Keep.alloc ?_ _) | (with_reducible refine Keep.drewN ?_ _) | (with_reducible refine Keep.drew ?_) | (with_reducible exact Keep.refl _) | refine Keep.trans ?_ (by with_reducible assumption) | exact Keep.refl _ | assumption))))⟩
  case round =>
    obtain ⟨i, hi, rfl, hal, hk⟩ := hrel
    have HL := Aside.mk hal
    clear hal
    by_cases hlt : i < l.length
    · obtain ⟨bb, o, rfl, hc⟩ := (hR.keep hk).at (k := i) (by rw [fds_len]; omega)
      obtain ⟨r1, r2, r3, r4⟩ := fds_at l i hlt
      have p1 := hc _ _ r1
      have p2 := hc _ _ r2
      have p3 := hc _ _ r3
      have p4 := hc _ _ r4
      rw [← Nat.add_assoc] at p2 p3 p4
      have hcall := fun W h => hq l[i] (List.getElem_mem hlt) W h
      have hT := any_takeD (q := q) hlt
      rw [HL.out, Bool.false_or] at hT
      have HQ := Aside.mk (fun h => any_ofD (q := q) hlt h)
      have HT := Aside.mk hT
      clear hc hT hq r1 r2 r3 r4
      generalize l[i] = x at *
      obtain ⟨s, kd, st, sz⟩ := x
      simp only at p1 p2 p3 p4 hcall
      cases hb : q ⟨s, kd, st, sz⟩
      · rw [hb] at hcall HT
        go_wp2_with (go_at_fn g; refine (hcall _ (by ((repeat (first | (with_reducible assumption) | ((with_reducible refine Keep.setCell ?_ ?_ _); rotate_left; focus (first | omega | (simp; done) | (simp; omega))) | (with_reducible refine Keep.alloc ?_ _) | (with_reducible refine Keep.drewN ?_ _) | (with_reducible refine Keep.drew ?_) | (with_reducible exact Keep.refl _) | refine Keep.trans ?_ (by with_reducible assumption) | exact Keep.refl _ | assumption))))).mono ?_; rintro e w' ⟨rfl, hk1⟩)
        go_roundg (l.length - (i + 1))
        case measure => omega
        case rel => exact ⟨i + 1, by omega, by go_num, HT.out, (by ((repeat (first | (with_reducible assumption) | ((with_reducible refine Keep.setCell ?_ ?_ _); rotate_left; focus (first | omega | (simp; done) | (simp; omega))) | (with_reducible refine Keep.alloc ?_ _) | (with_reducible refine Keep.drewN ?_ _) | (with_reducible refine Keep.drew ?_) | (with_reducible exact Keep.refl _) | refine Keep.trans ?_ (by with_reducible assumption) | exact Keep.refl _ | assumption))))⟩
      · have hA := HQ.out hb
        have HA := Aside.mk hA
        clear hA
        rw [hb] at hcall
        go_wp2_with (go_at_fn g; refine (hcall _ (by ((repeat (first | (with_reducible assumption) | ((with_reducible refine Keep.setCell ?_ ?_ _); rotate_left; focus (first | omega | (simp; done) | (simp; omega))) | (with_reducible refine Keep.alloc ?_ _) | (with_reducible refine Keep.drewN ?_ _) | (with_reducible refine Keep.drew ?_) | (with_reducible exact Keep.refl _) | refine Keep.trans ?_ (by with_reducible assumption) | exact Keep.refl _ | assumption))))).mono ?_; rintro e w' ⟨rfl, hk1⟩)
        go_ret; exact ⟨_, rfl, by rw [HA.out]; simp, (by ((repeat (first | (with_reducible assumption) | ((with_reducible refine Keep.setCell ?_ ?_ _); rotate_left; focus (first | omega | (simp; done) | (simp; omega))) | (with_reducible refine Keep.alloc ?_ _) | (with_reducible refine Keep.drewN ?_ _) | (with_reducible refine Keep.drew ?_) | (with_reducible exact Keep.refl _) | refine Keep.trans ?_ (by with_reducible assumption) | exact Keep.refl _ | assumption))))⟩
    · have e2 : i = l.length := by omega
      subst e2
      have hal : l.any q = false := by have := HL.out; rwa [List.take_length] at this
      have HA := Aside.mk hal
      clear hal
      go_wp2
      go_ret; exact ⟨_, rfl, by rw [HA.out]; rfl, (by ((repeat (first | (with_reducible assumption) | ((with_reducible refine Keep.setCell ?_ ?_ _); rotate_left; focus (first | omega | (simp; done) | (simp; omega))) | (with_reducible refine Keep.alloc ?_ _) | (with_reducible refine Keep.drewN ?_ _) | (with_reducible refine Keep.drew ?_) | (with_reducible exact Keep.refl _) | refine Keep.trans ?_ (by with_reducible assumption) | exact Keep.refl _ | assumption))))⟩
theorem contains_fld (A : Option Addr) (l : List Fd) (c g : Nat) (caps : Array Value) (q : Fd → Bool) (w : World) (hm : l.length ≤ 9223372036854775807) (hR : Rd w A (fds l))
    (eg : ∀ args w, (callFunc g args).run Tryd.prog w = .ok (.enter g args) w) (hq : ∀ x, x ∈ l → ∀ W, Keep w W → Calls Tryd.prog g (#[.agg #[.string x.s, .int .i8 (x.k), .int .i16 (x.st), .int .i16 (x.sz)]] ++ caps) W fun e w' => e = .returned (.bool (q x)) ∧ Keep W w') :
    Calls Tryd.prog 139 #[.slice A l.length c, .func (.func g) #[] caps] w fun e w' => e = .returned (.bool (l.any q)) ∧ Keep w w' := by
  have hi := index_fld A l c g caps q w hm hR eg hq
  generalize l.any q = r at *
  go_enter Tryd.func139, Tryd.ntmps139
  (go_wp2_with fail); (go_at_call 161); refine hi.mono ?_; rintro e w1 ⟨n, rfl, rfl, hk1⟩
  go_wp2
  go_ret; exact ⟨rfl, (by ((repeat (first | (with_reducible assumption) | ((with_reducible refine Keep.setCell ?_ ?_ _); rotate_left; focus (first | omega | (simp; done) | (simp; omega))) | (with_reducible refine Keep.alloc ?_ _) | (with_reducible refine Keep.drewN ?_ _) | (with_reducible refine Keep.drew ?_) | (with_reducible exact Keep.refl _) | refine Keep.trans ?_ (by with_reducible assumption) | exact Keep.refl _ | assumption))))⟩
theorem isScheme_clo (s t : ByteArray) (k st sz : Int) (g : Nat) (w : World) (c0 : w.cell? ⟨g, 0, none⟩ = some (.string t)) :
    Calls Tryd.prog 140 #[.agg #[.string s, .int .i8 k, .int .i16 st, .int .i16 sz], .pointer (some ⟨g, 0, none⟩)] w fun e w' => e = .returned (.bool (decide (s = t))) ∧ Keep w w' := by
  have hg := World.block_lt_of_cell? w _ c0
  simp only at hg
  by_cases h : s = t
  · subst h
    go_enter Tryd.func140, Tryd.ntmps140
    go_wp2
    go_ret; exact ⟨rb (by simp), (by ((repeat (first | (with_reducible assumption) | ((with_reducible refine Keep.setCell ?_ ?_ _); rotate_left; focus (first | omega | (simp; done) | (simp; omega))) | (with_reducible refine Keep.alloc ?_ _) | (with_reducible refine Keep.drewN ?_ _) | (with_reducible refine Keep.drew ?_) | (with_reducible exact Keep.refl _) | refine Keep.trans ?_ (by with_reducible assumption) | exact Keep.refl _ | assumption))))⟩
  · have h' : ¬ s.toList = t.toList := fun k => h (toList_eq.1 k)
    go_enter Tryd.func140, Tryd.ntmps140
    go_wp2
    go_ret; exact ⟨rb (by simp [h, h']), (by ((repeat (first | (with_reducible assumption) | ((with_reducible refine Keep.setCell ?_ ?_ _); rotate_left; focus (first | omega | (simp; done) | (simp; omega))) | (with_reducible refine Keep.alloc ?_ _) | (with_reducible refine Keep.drewN ?_ _) | (with_reducible refine Keep.drew ?_) | (with_reducible exact Keep.refl _) | refine Keep.trans ?_ (by with_reducible assumption) | exact Keep.refl _ | assumption))))⟩
/-- The holes of the first so many fields. -/
def lpLo (l : List Fd) (i : Nat) : Wd := (l.take i).foldl (fun a f => a ||| paLo f.k f.st f.sz) 0#64
def lpHi (l : List Fd) (i : Nat) : Wd := (l.take i).foldl (fun a f => a ||| paHi f.k f.st f.sz) 0#64
theorem lpLo_succ {l : List Fd} {i : Nat} (h : i < l.length) : lpLo l (i + 1) = lpLo l i ||| paLo l[i].k l[i].st l[i].sz := by
  unfold lpLo; rw [List.take_succ_eq_append_getElem h, List.foldl_append]; rfl
theorem lpHi_succ {l : List Fd} {i : Nat} (h : i < l.length) : lpHi l (i + 1) = lpHi l i ||| paHi l[i].k l[i].st l[i].sz := by
  unfold lpHi; rw [List.take_succ_eq_append_getElem h, List.foldl_append]; rfl
def clashF (l : List Fd) (s : ByteArray) : Bool := l.any fun x => decide (x.s = s)
def meetB (a b c d : Wd) : Bool := (a &&& c) == 0#64 && (b &&& d) == 0#64
/-- Is the field at this place valid, apart from those ahead of it, and of another name? -/
def fineF (l : List Fd) (i : Nat) : Bool := match l[i]? with
  | some f => fieldB f.s f.k f.st f.sz && (meetB (lpLo l i) (lpHi l i) (paLo f.k f.st f.sz) (paHi f.k f.st f.sz) && !clashF (l.take i) f.s)
  | none => true
def schB (l : List Fd) : Bool := decide (l.length ≤ 12) && (List.range l.length).all (fineF l)
theorem fineF_at {l : List Fd} {i : Nat} (h : i < l.length) : fineF l i = (fieldB l[i].s l[i].k l[i].st l[i].sz && (meetB (lpLo l i) (lpHi l i) (paLo l[i].k l[i].st l[i].sz) (paHi l[i].k l[i].st l[i].sz) && !clashF (l.take i) l[i].s)) := by
  unfold fineF; rw [List.getElem?_eq_getElem h]
theorem schB_no {l : List Fd} {i : Nat} (h : i < l.length) (hb : fineF l i = false) : schB l = false := by
  unfold schB; rw [rall_no h hb]; simp
theorem schB_yes {l : List Fd} (h : l.length ≤ 12) (hb : (List.range l.length).all (fineF l) = true) : schB l = true := by
  unfold schB; rw [hb]; simp [h]
theorem rd_takeF {w : World} {A : Option Addr} {l : List Fd} (i : Nat) (h : Rd w A (fds l)) : Rd w A (fds (l.take i)) := by
  refine h.sub fun j v hj => ?_
  have e := fds_app (l.take i) (l.drop i)
  rw [List.take_append_drop] at e
  rw [e, List.getElem?_append_left (List.getElem?_eq_some_iff.1 hj).1]
  exact hj
theorem impl_isScheme (A : Option Addr) (l : List Fd) (c : Nat) (w : World) (hm : l.length ≤ 9223372036854775807) (hcp : l.length ≤ c) (hz : FdW l) (hR : Rd w A (fds l)) :
    Calls Tryd.prog 91 #[.slice A l.length c] w fun e w' => e = .returned (.bool (schB l)) ∧ Keep w w' := by
  by_cases h12 : l.length ≤ 12
  · go_enter Tryd.func91, Tryd.ntmps91
    go_wp2_with fail
    go_loopg [12] l.length (fun k s12 wr => ∃ i : Nat, i + k = l.length ∧ s12 = .int .i64 i ∧ (List.range i).all (fineF l) = true ∧ Bx wr w.heap.size #[.int .u64 (U (lpLo l i)), .int .u64 (U (lpHi l i))] 33 ∧ Keep w wr)
    case atStart => exact ⟨0, by omega, rfl, rfl, by simpa [lpLo, lpHi, U_zero] using Bx.new w #[.int .u64 (U (0#64)), .int .u64 (U (0#64))] 33, (by ((repeat (first | (with_reducible assumption) | ((with_reducible refine Keep.setCell ?_ ?_ _); rotate_left; focus (first | omega | (simp; done) | (simp; omega))) | (with_reducible refine Keep.alloc ?_ _) | (with_reducible refine Keep.drewN ?_ _) | (with_reducible refine Keep.drew ?_) | (with_reducible exact Keep.refl _) | refine Keep.trans ?_ (by with_reducible assumption) | exact Keep.refl _ | assumption))))⟩
    case round =>
      obtain ⟨i, hi, rfl, hal, hM, hk0⟩ := hrel
      have HL := Aside.mk hal
      clear hal
      by_cases hlt : i < l.length
      · have hR0 := hR.keep hk0
        obtain ⟨bb, o, rfl, hc⟩ := hR0.at (k := i) (by rw [fds_len]; omega)
        obtain ⟨r1, r2, r3, r4⟩ := fds_at l i hlt
        have p1 := hc _ _ r1
        have p2 := hc _ _ r2
        have p3 := hc _ _ r3
        have p4 := hc _ _ r4
        rw [← Nat.add_assoc] at p2 p3 p4
        have hzs := hz l[i] (List.getElem_mem hlt)
        have HF := Aside.mk (fineF_at hlt)
        have HN := Aside.mk (fun h => schB_no hlt h)
        have HS := Aside.mk (rall_succ (fineF l) i)
        have HP := Aside.mk (And.intro (lpLo_succ hlt) (lpHi_succ hlt))
        have hlen : (l.take i).length = i := by rw [List.length_take]; omega
        have HC := Aside.mk (fun (s : ByteArray) (g : Nat) (W : World) (h : Rd W (some ⟨bb, o, none⟩) (fds (l.take i))) (hg : W.cell? ⟨g, 0, none⟩ = some (.string s)) => contains_fld (some ⟨bb, o, none⟩) (l.take i) c 140 #[.pointer (some ⟨g, 0, none⟩)] (fun x => decide (x.s = s)) W (by omega) h (enters_of Tryd.func140 (by kernel_rfl) rfl) (fun x _ W' hk => isScheme_clo x.s s x.k x.st x.sz g W' (hk.cell hg)))
        have HR := Aside.mk (rd_takeF i hR0)
        clear hc r1 r2 r3 r4 hR0
        generalize l[i] = x at *
        obtain ⟨s, kd, st, sz⟩ := x
        simp only at p1 p2 p3 p4 hzs HF HP
        generalize lpLo l i = lo at *
        generalize lpHi l i = hi' at *
        have hIF := Aside.mk (fun W => impl_isField s kd st sz W hzs.1 hzs.2.1 hzs.2.2.1 hzs.2.2.2)
        cases h1 : fieldB s kd st sz
        · have hf : fineF l i = false := by rw [HF.out, h1]; rfl
          have HA := Aside.mk (HN.out hf)
          rw [h1] at hIF
          clear hf HP HC HR HS HF HN
          have hMs := hM.two
          go_wp2_with fail
          refine wp_gen (fun W => Bx W wr.heap.size #[.string s, .int .i8 kd, .int .i16 st, .int .i16 sz] 89 ∧ Bx W w.heap.size #[.int .u64 (U lo), .int .u64 (U hi')] 33 ∧ Keep w W) ⟨Bx.new _ _ _, hM.alloc _, (by ((repeat (first | (with_reducible assumption) | ((with_reducible refine Keep.setCell ?_ ?_ _); rotate_left; focus (first | omega | (simp; done) | (simp; omega))) | (with_reducible refine Keep.alloc ?_ _) | (with_reducible refine Keep.drewN ?_ _) | (with_reducible refine Keep.drew ?_) | (with_reducible exact Keep.refl _) | refine Keep.trans ?_ (by with_reducible assumption) | exact Keep.refl _ | assumption))))⟩ ?_
          clear hM hMs hk0 p1 p2 p3 p4
          rintro W ⟨hF, hM, hW⟩
          refine wp_region_keep (by kernel_rfl) (by kernel_rfl) ?_
          repeat
            first
              | (apply QuietL.run
                 focus go_simp
                 focus
                   intro w2 hk
                   obtain ⟨hF_0, hF_1, hF_2, hF_3, hF_4, hF_5, hF_6, hF_7, hF_8⟩ := (hF.keep hk).four
                   obtain ⟨hM_0, hM_1, hM_2, hM_3, hM_4⟩ := (hM.keep hk).two
                   apply QAt.mk
                   go_simp
                   first
                     | done
                     | exact rfl
                     | (go_at_call 112; exact quiet_call hk (hIF.out _))
                 simp only [Act.put, List.setIfInBounds_toArray, List.set_cons_succ, List.set_cons_zero])
              | (apply QuietL.skip
                 focus go_simp
                 simp only [Act.put, List.setIfInBounds_toArray, List.set_cons_succ, List.set_cons_zero])
          apply QuietL.nil
          intro w2 hk
          have hF := hF.keep hk
          obtain ⟨hF_0, hF_1, hF_2, hF_3, hF_4, hF_5, hF_6, hF_7, hF_8⟩ := hF.four
          have hM := hM.keep hk
          obtain ⟨hM_0, hM_1, hM_2, hM_3, hM_4⟩ := hM.two
          go_wp2
          go_ret; exact ⟨rb HA.out.symm, (by ((repeat (first | (with_reducible assumption) | ((with_reducible refine Keep.setCell ?_ ?_ _); rotate_left; focus (first | omega | (simp; done) | (simp; omega))) | (with_reducible refine Keep.alloc ?_ _) | (with_reducible refine Keep.drewN ?_ _) | (with_reducible refine Keep.drew ?_) | (with_reducible exact Keep.refl _) | refine Keep.trans ?_ (by with_reducible assumption) | exact Keep.refl _ | assumption))))⟩
        · rw [h1] at hIF
          obtain ⟨u1, u2, u3, u4, u5⟩ := fieldB_use h1
          have hPT := Aside.mk (fun W => impl_part s kd st sz W hzs.2.2.2 hzs.2.2.1 u2 u4 u3)
          obtain ⟨pl, hpl⟩ : ∃ x, paLo kd st sz = x := ⟨_, rfl⟩
          obtain ⟨ph, hph⟩ : ∃ x, paHi kd st sz = x := ⟨_, rfl⟩
          rw [hpl, hph] at hPT HF HP
          clear hpl hph u1 u2 u3 u4 u5
          have hMs := hM.two
          go_wp2_with fail
          refine wp_gen (fun W => Bx W wr.heap.size #[.string s, .int .i8 kd, .int .i16 st, .int .i16 sz] 89 ∧ Bx W w.heap.size #[.int .u64 (U lo), .int .u64 (U hi')] 33 ∧ Keep wr W) ⟨Bx.new _ _ _, hM.alloc _, (Keep.refl _).alloc _⟩ ?_
          have hwr := hM.lt
          clear hM hMs p1 p2 p3 p4
          rintro W ⟨hF, hM, hW⟩
          cases h2 : meetB lo hi' pl ph
          · have hf : fineF l i = false := by rw [HF.out, h1, h2]; rfl
            have HA := Aside.mk (HN.out hf)
            have h2' : ((lo &&& pl) == 0#64 && (hi' &&& ph) == 0#64) = false := h2
            clear hf HP HC HR HS HF HN
            refine wp_region_keep (by kernel_rfl) (by kernel_rfl) ?_
            repeat
              first
                | (apply QuietL.run
                   focus go_simp
                   focus
                     intro w2 hk
                     obtain ⟨hF_0, hF_1, hF_2, hF_3, hF_4, hF_5, hF_6, hF_7, hF_8⟩ := (hF.keep hk).four
                     obtain ⟨hM_0, hM_1, hM_2, hM_3, hM_4⟩ := (hM.keep hk).two
                     apply QAt.mk
                     go_simp
                     first
                       | done
                       | exact rfl
                       | (go_at_call 112; exact quiet_call hk (hIF.out _))
                       | (go_at_call 100; exact quiet_call hk (hPT.out _))
                       | (go_at_call 135; exact quiet_call hk (impl_MeetMasks _ _ _ _ _))
                   simp only [Act.put, List.setIfInBounds_toArray, List.set_cons_succ, List.set_cons_zero])
                | (apply QuietL.skip
                   focus go_simp
                   simp only [Act.put, List.setIfInBounds_toArray, List.set_cons_succ, List.set_cons_zero])
            apply QuietL.nil
            intro w2 hk
            have hF := hF.keep hk
            obtain ⟨hF_0, hF_1, hF_2, hF_3, hF_4, hF_5, hF_6, hF_7, hF_8⟩ := hF.four
            have hM := hM.keep hk
            obtain ⟨hM_0, hM_1, hM_2, hM_3, hM_4⟩ := hM.two
            go_wp2
            go_ret; exact ⟨rb HA.out.symm, (by ((repeat (first | (with_reducible assumption) | ((with_reducible refine Keep.setCell ?_ ?_ _); rotate_left; focus (first | omega | (simp; done) | (simp; omega))) | (with_reducible refine Keep.alloc ?_ _) | (with_reducible refine Keep.drewN ?_ _) | (with_reducible refine Keep.drew ?_) | (with_reducible exact Keep.refl _) | refine Keep.trans ?_ (by with_reducible assumption) | exact Keep.refl _ | assumption))))⟩
          · have h2' : ((lo &&& pl) == 0#64 && (hi' &&& ph) == 0#64) = true := h2
            refine wp_region_keep (by kernel_rfl) (by kernel_rfl) ?_
            repeat
              first
                | (apply QuietL.run
                   focus go_simp
                   focus
                     intro w2 hk
                     obtain ⟨hF_0, hF_1, hF_2, hF_3, hF_4, hF_5, hF_6, hF_7, hF_8⟩ := (hF.keep hk).four
                     obtain ⟨hM_0, hM_1, hM_2, hM_3, hM_4⟩ := (hM.keep hk).two
                     apply QAt.mk
                     go_simp
                     first
                       | done
                       | exact rfl
                       | (go_at_call 112; exact quiet_call hk (hIF.out _))
                       | (go_at_call 100; exact quiet_call hk (hPT.out _))
                       | (go_at_call 135; exact quiet_call hk (impl_MeetMasks _ _ _ _ _))
                   simp only [Act.put, List.setIfInBounds_toArray, List.set_cons_succ, List.set_cons_zero])
                | (apply QuietL.skip
                   focus go_simp
                   simp only [Act.put, List.setIfInBounds_toArray, List.set_cons_succ, List.set_cons_zero])
            apply QuietL.nil
            intro w2 hk
            have hF := hF.keep hk
            obtain ⟨hF_0, hF_1, hF_2, hF_3, hF_4, hF_5, hF_6, hF_7, hF_8⟩ := hF.four
            have hM := hM.keep hk
            obtain ⟨hM_0, hM_1, hM_2, hM_3, hM_4⟩ := hM.two
            have hW2 := hW.trans hk
            clear hF_0 hF_1 hF_2 hF_3 hF_4 hF_5 hF_6 hF_7 hF_8 hM_0 hM_1 hM_2 hM_3 hM_4 hW hk
            go_wp2_with fail
            apply wp_region_mono 4 [Fx _, Fx _, Fx _, Fx _] (by kernel_rfl) (by kernel_rfl) (mono_of ⟨Fx.mono _, Fx.mono _, Fx.mono _, Fx.mono _, trivial⟩) ?st3 ?tl3
            case st3 =>
              simp only [List.take_succ_cons, List.take_zero, List.drop_succ_cons, List.drop_zero, putAll, Act.put, List.setIfInBounds_toArray, List.set_cons_succ, List.set_cons_zero, Nat.zero_add, Nat.reduceAdd]
              refine steps_cons ?_ (steps_cons ?_ (steps_cons ?_ (steps_cons ?_ steps_nil)))
              all_goals
                intro v w2 hk hd
                obtain ⟨hF_0, hF_1, hF_2, hF_3, hF_4, hF_5, hF_6, hF_7, hF_8⟩ := (hF.keep hk).four
                obtain ⟨hM_0, hM_1, hM_2, hM_3, hM_4⟩ := (hM.keep hk).two
                have hkz := hk.size
                simp [DepsOf, factAt, Fx, Region.binds] at hd
                simp only [factAt, List.getD_cons_zero, List.getD_cons_succ]
                refine Gives.mk ?_
                go_simp
                first | exact ⟨Keep.refl _, Fx.self _ _⟩ | exact ⟨(Keep.refl _).alloc _, _, rfl, Bx.new _ _ _, by first | omega | (simp; omega)⟩ | (go_at_call 100; exact gives_fx (hPT.out _)) | (go_at_call 138; exact gives_fx (impl_JoinMasks _ _ _ _ _))
            simp only [List.take_succ_cons, List.take_zero, List.drop_succ_cons, List.drop_zero, putAll, Act.put, List.setIfInBounds_toArray, List.set_cons_succ, List.set_cons_zero, Nat.zero_add, Nat.reduceAdd]
            intro v w2 hk hh
            obtain ⟨hF_0, hF_1, hF_2, hF_3, hF_4, hF_5, hF_6, hF_7, hF_8⟩ := (hF.keep hk).four
            obtain ⟨hM_0, hM_1, hM_2, hM_3, hM_4⟩ := (hM.keep hk).two
            have hkz := hk.size
            simp only [Held, factAt, List.getD_cons_zero, List.getD_cons_succ, Fx, true_and] at hh
            obtain ⟨⟨⟨v_0, v_1⟩, v_2⟩, v_3⟩ := hh
            simp only [v_0, v_1, v_2, v_3]
            have v0 := Aside.mk (((hF.keep hk).set' (a := ⟨w.heap.size, 0, none⟩) (by simp; omega) (.int .u64 (U (lo ||| pl)))).set' (a := ⟨w.heap.size, 1, none⟩) (by simp; omega) (.int .u64 (U (hi' ||| ph))))
            have v1 : Aside (Bx ((w2.setCell ⟨w.heap.size, 0, none⟩ (.int .u64 (U (lo ||| pl)))).setCell ⟨w.heap.size, 1, none⟩ (.int .u64 (U (hi' ||| ph)))) w.heap.size #[.int .u64 (U (lo ||| pl)), .int .u64 (U (hi' ||| ph))] 33) := Aside.mk (((hM.keep hk).set (i := 0) _).set (i := 1) _)
            have k3 : Keep w ((w2.setCell ⟨w.heap.size, 0, none⟩ (.int .u64 (U (lo ||| pl)))).setCell ⟨w.heap.size, 1, none⟩ (.int .u64 (U (hi' ||| ph)))) := by
              have k0 := (hk0.trans hW2).trans hk
              exact (k0.setCell (by simp) _).setCell (by simp) _
            have hcon := HC.out s wr.heap.size _ ((rd_takeF i (hR.keep k3))) v0.out.four.1
            rw [hlen] at hcon
            rw [show (l.take i).any (fun x => decide (x.s = s)) = clashF (l.take i) s from rfl] at hcon
            clear hF hM hW2 hk hk0 HC HR hF_0 hF_1 hF_2 hF_3 hF_4 hF_5 hF_6 hF_7 hF_8 hIF hPT h2'
            cases h3 : clashF (l.take i) s
            · have hf : (List.range (i + 1)).all (fineF l) = true := by rw [HS.out, HL.out, HF.out, h1, h2, h3]; rfl
              have HA := Aside.mk hf
              rw [h3] at hcon
              have K3 := Aside.mk k3
              clear hf k3
              (go_wp2_with fail); (go_at_call 139); (refine (hcon).mono ?_); rintro e w4 ⟨rfl, hk4⟩
              go_wp2
              go_roundg (l.length - (i + 1))
              case measure => omega
              case rel => exact ⟨i + 1, by omega, by go_num, HA.out, by rw [HP.out.1, HP.out.2]; exact v1.out.keep hk4, K3.out.trans hk4⟩
            · have hf : fineF l i = false := by rw [HF.out, h1, h2, h3]; rfl
              have HA := Aside.mk (HN.out hf)
              rw [h3] at hcon
              have K3 := Aside.mk k3
              clear hf k3
              (go_wp2_with fail); (go_at_call 139); (refine (hcon).mono ?_); rintro e w4 ⟨rfl, hk4⟩
              go_wp2
              go_ret; exact ⟨rb HA.out.symm, K3.out.trans hk4⟩
      · have e2 : i = l.length := by omega
        subst e2
        have HA := Aside.mk (schB_yes h12 HL.out)
        go_wp2
        go_ret; exact ⟨rb HA.out.symm, (by ((repeat (first | (with_reducible assumption) | ((with_reducible refine Keep.setCell ?_ ?_ _); rotate_left; focus (first | omega | (simp; done) | (simp; omega))) | (with_reducible refine Keep.alloc ?_ _) | (with_reducible refine Keep.drewN ?_ _) | (with_reducible refine Keep.drew ?_) | (with_reducible exact Keep.refl _) | refine Keep.trans ?_ (by with_reducible assumption) | exact Keep.refl _ | assumption))))⟩
  · have e : schB l = false := by unfold schB; simp [h12]
    rw [e]
    go_enter Tryd.func91, Tryd.ntmps91
    go_wp2
    go_ret; exact ⟨rfl, (by ((repeat (first | (with_reducible assumption) | ((with_reducible refine Keep.setCell ?_ ?_ _); rotate_left; focus (first | omega | (simp; done) | (simp; omega))) | (with_reducible refine Keep.alloc ?_ _) | (with_reducible refine Keep.drewN ?_ _) | (with_reducible refine Keep.drew ?_) | (with_reducible exact Keep.refl _) | refine Keep.trans ?_ (by with_reducible assumption) | exact Keep.refl _ | assumption))))⟩
end Go.Proofs.YtpmilcfppcmodaaDoor

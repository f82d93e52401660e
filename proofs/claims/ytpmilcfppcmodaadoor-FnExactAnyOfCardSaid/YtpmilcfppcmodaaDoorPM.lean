/- Several passes: the walks. -/
import Derived.Test.YtpmilcfppcmodaaDoorPN
set_option linter.unusedVariables false
set_option linter.unusedSimpArgs false
namespace Go.Proofs.YtpmilcfppcmodaaDoor
open Go.RowKit Go.Shelf
set_option maxHeartbeats 2000000
set_option maxRecDepth 20000
theorem index_int (A : Option Addr) (l : List Int) (c g : Nat) (caps : Array Value) (q : Int → Bool) (w : World) (hm : l.length ≤ 9223372036854775807) (hR : Rd w A (ints l))
    (eg : ∀ args w, (callFunc g args).run Tryd.prog w = .ok (.enter g args) w) (hq : ∀ x, x ∈ l → ∀ W, Keep w W → Calls Tryd.prog g (#[.int .i64 x] ++ caps) W fun e w' => e = .returned (.bool (q x)) ∧ Keep W w') :
    Calls Tryd.prog 143 #[.slice A l.length c, .func (.func g) #[] caps] w fun e w' => ∃ n : Int, e = .returned (.int .i64 n) ∧ decide (0 ≤ n) = l.any q ∧ Keep w w' := by
  go_enter Tryd.func143, Tryd.ntmps143
  go_wp2_with fail
  go_loopg [5, 8] l.length (fun k s5 s8 wr => ∃ i : Nat, i + k = l.length ∧ s8 = .int .i64 i ∧ (l.take i).any q = false ∧ Keep w wr)
  case atStart => exact ⟨0, by omega, rfl, rfl, (by ((repeat (first | (with_reducible assumption) | ((with_reducible refine Keep.setCell ?_ ?_ _); rotate_left; focus (first | omega | (simp; done) | (simp; omega))) | (with_reducible refine Keep.alloc ?_ _) | (with_reducible refine Keep.drewN ?_ _) | (with_reducible refine Keep.drew ?_) | (with_reducible exact Keep.refl _) | refine Keep.trans ?_ (by with_reducible assumption) | exact Keep.refl _ | assumption))))⟩
  case round =>
    obtain ⟨i, hi, rfl, hal, hk⟩ := hrel
    have HL := Aside.mk hal
    clear hal
    by_cases hlt : i < l.length
    · obtain ⟨bb, o, rfl, hc⟩ := (hR.keep hk).at (k := i) (by rw [ints_len]; omega)
      have p1 := hc _ _ (ints_at l i hlt)
      have hcall := fun W h => hq l[i] (List.getElem_mem hlt) W h
      have hT := any_takeD (q := q) hlt
      rw [HL.out, Bool.false_or] at hT
      have HQ := Aside.mk (fun h => any_ofD (q := q) hlt h)
      have HT := Aside.mk hT
      clear hc hT hq
      generalize l[i] = x at *
      cases hb : q x
      · rw [hb] at hcall HT
        go_wp2_with (go_at_fn g; refine (hcall _ (by ((repeat (first | (with_reducible assumption) | ((with_reducible refine Keep.setCell ?_ ?_ _); rotate_left; focus (first | omega | (simp; done) | (simp; omega))) | (with_reducible refine Keep.alloc ?_ _) | (with_reducible refine Keep.drewN ?_ _) | (with_reducible refine Keep.drew ?_) | (with_reducible exact Keep.refl _) | refine Keep.trans ?_ (by with_reducible assumption) | exact Keep.refl _ | assumption))))).mono ?_; rintro e w' ⟨rfl, hk1⟩)
        go_roundg (l.length - (i + 1))
        case measure => omega
        case rel => exact ⟨i + 1, by omega, by go_num, HT.out, (by ((repeat (first | (with_reducible assumption) | ((with_reducible refine Keep.setCell ?_ ?_ _); rotate_left; focus (first | omega | (simp; done) | (simp; omega))) | (with_reducible refine Keep.alloc ?_ _) | (with_reducible refine Keep.drewN ?_ _) | (with_reducible refine Keep.drew ?_) | (with_reducible exact Keep.refl _) | refine Keep.trans ?_ (by with_reducible assumption) | exact Keep.refl _ | assumption))))⟩
      · have hA := HQ.out hb
        have HA := Aside.mk hA
        clear hA
        rw [hb] at hcall
        go_wp2_with (go_at_fn g; refine (hcall _ (by ((repeat (first | (with_reducible assumption) | ((with_reducible refine Keep.setCell ?_ ?_ _); rotate_left; focus (first | omega | (simp; done) | (simp; omega))) | (with_reducible refine Keep.alloc ?_ _) | (with_reducible refine Keep.drewN ?_ _) | (with_reducible refine Keep.drew ?_) | (with_reducible exact Keep.refl _) | refine Keep.trans ?_ (by with_reducible assumption) | exact Keep.refl _ | assumption))))).mono ?_; rintro e w' ⟨rfl, hk1⟩)
        go_ret; exact ⟨_, rfl, by rw [HA.out]; simp, (by ((repeat (first | (with_reducible assumption) | ((with_reducible refine Keep.setCell ?_ ?_ _); rotate_left; focus (first | omega | (simp; done) | (simp; omega))) | (with_reducible refine Keep.alloc ?_ _) | (with_reducible refine Keep.drewN ?_ _) | (with_reducible refine Keep.drew ?_) | (with_reducible exact Keep.refl _) | refine Keep.trans ?_ (by with_reducible assumption) | exact Keep.refl _ | assumption))))⟩
    · have e2 : i = l.length := by omega
      subst e2
      have hal : l.any q = false := by have := HL.out; rwa [List.take_length] at this
      have HA := Aside.mk hal
      clear hal
      go_wp2
      go_ret; exact ⟨_, rfl, by rw [HA.out]; rfl, (by ((repeat (first | (with_reducible assumption) | ((with_reducible refine Keep.setCell ?_ ?_ _); rotate_left; focus (first | omega | (simp; done) | (simp; omega))) | (with_reducible refine Keep.alloc ?_ _) | (with_reducible refine Keep.drewN ?_ _) | (with_reducible refine Keep.drew ?_) | (with_reducible exact Keep.refl _) | refine Keep.trans ?_ (by with_reducible assumption) | exact Keep.refl _ | assumption))))⟩
theorem contains_int (A : Option Addr) (l : List Int) (c g : Nat) (caps : Array Value) (q : Int → Bool) (w : World) (hm : l.length ≤ 9223372036854775807) (hR : Rd w A (ints l))
    (eg : ∀ args w, (callFunc g args).run Tryd.prog w = .ok (.enter g args) w) (hq : ∀ x, x ∈ l → ∀ W, Keep w W → Calls Tryd.prog g (#[.int .i64 x] ++ caps) W fun e w' => e = .returned (.bool (q x)) ∧ Keep W w') :
    Calls Tryd.prog 104 #[.slice A l.length c, .func (.func g) #[] caps] w fun e w' => e = .returned (.bool (l.any q)) ∧ Keep w w' := by
  have hi := index_int A l c g caps q w hm hR eg hq
  generalize l.any q = r at *
  go_enter Tryd.func104, Tryd.ntmps104
  (go_wp2_with fail); (go_at_call 143); refine hi.mono ?_; rintro e w1 ⟨n, rfl, rfl, hk1⟩
  go_wp2
  go_ret; exact ⟨rfl, (by ((repeat (first | (with_reducible assumption) | ((with_reducible refine Keep.setCell ?_ ?_ _); rotate_left; focus (first | omega | (simp; done) | (simp; omega))) | (with_reducible refine Keep.alloc ?_ _) | (with_reducible refine Keep.drewN ?_ _) | (with_reducible refine Keep.drew ?_) | (with_reducible exact Keep.refl _) | refine Keep.trans ?_ (by with_reducible assumption) | exact Keep.refl _ | assumption))))⟩
theorem passMany_clo (h : Int) (w : World) :
    Calls Tryd.prog 105 #[.int .i64 h] w fun e w' => e = .returned (.bool (!holeB h)) ∧ Keep w w' := by
  go_enter Tryd.func105, Tryd.ntmps105
  (go_wp2_with fail); (go_at_call 84); (refine (impl_isHole _ _).mono ?_); rintro e w1 ⟨rfl, hk1⟩
  go_wp2
  go_ret; exact ⟨rfl, (by ((repeat (first | (with_reducible assumption) | ((with_reducible refine Keep.setCell ?_ ?_ _); rotate_left; focus (first | omega | (simp; done) | (simp; omega))) | (with_reducible refine Keep.alloc ?_ _) | (with_reducible refine Keep.drewN ?_ _) | (with_reducible refine Keep.drew ?_) | (with_reducible exact Keep.refl _) | refine Keep.trans ?_ (by with_reducible assumption) | exact Keep.refl _ | assumption))))⟩
def stepL (o : List Cd) (h : Int) : List Cd := stL h o ++ drL h o
def manyL (l : List Cd) (hs : List Int) : List Cd := hs.foldl stepL l
theorem stepL_len (o : List Cd) (h : Int) : (stepL o h).length = o.length := by unfold stepL; rw [List.length_append, stL_len]
theorem manyL_take (l : List Cd) (hs : List Int) (i : Nat) (h : i < hs.length) : manyL l (hs.take (i + 1)) = stepL (manyL l (hs.take i)) hs[i] := by
  unfold manyL; rw [List.take_succ_eq_append_getElem h, List.foldl_append]; rfl
theorem manyL_len (l : List Cd) (hs : List Int) : (manyL l hs).length = l.length := by
  unfold manyL
  induction hs generalizing l with
  | nil => rfl
  | cons x hs ih => rw [List.foldl_cons, ih, stepL_len]
def pmE (l : List Cd) (hs : List Int) : Int := cond (dkB l) (cond (hs.all holeB) (cond (decide (hs.length ≤ 200)) 0 3) 2) 1
def pmL (l : List Cd) (hs : List Int) : List Cd := cond (pmE l hs == 0) (manyL l hs) []
theorem pmL_no {l : List Cd} {hs : List Int} (h : pmE l hs ≠ 0) : pmL l hs = [] := by
  unfold pmL
  have : (pmE l hs == 0) = false := by simpa using h
  rw [this]; rfl
theorem rd_news {w : World} {g : Nat} {cs : List Value} (h : Rd w (some ⟨g, 0, none⟩) cs) : ∀ j u, cs[j]? = some u → w.cell? ((⟨g, 0, none⟩ : Addr).add j) = some u := by
  intro j u hj
  rcases h with h | ⟨b, o, h, hc⟩
  · subst h; simp at hj
  · simp only [Option.some.injEq, Addr.mk.injEq, and_true] at h
    obtain ⟨rfl, rfl⟩ := h
    have := hc j u hj
    rw [Nat.zero_add] at this
    rw [Addr.add_lit, Nat.zero_add]; exact this
theorem impl_passMany (g : Nat) (l : List Cd) (c : Nat) (B : Option Addr) (hs : List Int) (d : Nat) (w : World) (h80 : l.length ≤ 80) (hh : ∀ h ∈ hs, 0 ≤ h ∧ h < 96) (hm : hs.length ≤ 9223372036854775807) (hR : Rd w (some ⟨g, 0, none⟩) (cds l)) (hS : Rd w B (ints hs)) :
    Calls Tryd.prog 106 #[.slice (some ⟨g, 0, none⟩) l.length c, .slice B hs.length d] w fun e w' => ∃ v, e = .returned v ∧ w'.ownsRow w.heap.size 108 3 v l.length (cds (manyL l hs)) ∧ Keep w w' := by
  obtain ⟨i0, hi0, hz0, hz1, hz2⟩ := info_parts cardE_info
  have HN := Aside.mk (own_emptyN w w.heap.size 108 3 (Nat.le_refl _))
  have HD := Aside.mk (rd_news (hR.keep ((Keep.refl w).alloc (.cells #[] 108))))
  go_enter Tryd.func106, Tryd.ntmps106
  go_wp2_with (at_builtin; refine wpList_append_own _ rfl _ _ 26 rfl w.heap.size 108 i0 (.agg #[.string ByteArray.empty, .int .u64 0, .int .u64 0]) 3 32 Tryd.underlying26 hi0 hz0 hz1 hz2 rfl (by decide) _ _ _ rfl HN.out ⟨g, 0, none⟩ l.length c (cds l) rfl ?c0 HD.out (cds_one l) ?c3 ?c4 ?c5 ?_)
  case c0 => rw [cds_len]; omega
  case c3 => unfold maxLen; omega
  case c4 => omega
  case c5 => simp
  intro v1 w1 hown hg _
  have k1 : Keep w w1 := ((Keep.refl w).alloc _).grown hg (fun k hk => by simp [Value.ownBlock] at hk; omega)
  obtain ⟨A1, c1, rfl, -, -⟩ := own_row hown
  have HO : Aside (w1.ownsRow w.heap.size 108 3 (.slice A1 l.length c1) l.length (cds l)) := Aside.mk (by simpa using hown)
  clear hown hg HN HD
  go_wp2_with fail
  go_loopg [5, 15] hs.length (fun k s5 s15 wr => ∃ (i : Nat) (A2 : Option Addr) (c2 : Nat), i + k = hs.length ∧ s15 = .int .i64 i ∧ s5 = .slice A2 l.length c2 ∧ wr.ownsRow w.heap.size 108 3 (.slice A2 l.length c2) l.length (cds (manyL l (hs.take i))) ∧ Keep w wr)
  case atStart => exact ⟨0, A1, c1, by omega, rfl, rfl, HO.out, (by ((repeat (first | (with_reducible assumption) | ((with_reducible refine Keep.setCell ?_ ?_ _); rotate_left; focus (first | omega | (simp; done) | (simp; omega))) | (with_reducible refine Keep.alloc ?_ _) | (with_reducible refine Keep.drewN ?_ _) | (with_reducible refine Keep.drew ?_) | (with_reducible exact Keep.refl _) | refine Keep.trans ?_ (by with_reducible assumption) | exact Keep.refl _ | assumption))))⟩
  case round =>
    obtain ⟨i, A2, c2, hi, rfl, rfl, hown, hk0⟩ := hrel
    have HO := Aside.mk hown
    clear hown
    by_cases hlt : i < hs.length
    · obtain ⟨bb, o, rfl, hc⟩ := (hS.keep hk0).at (k := i) (by rw [ints_len]; omega)
      have p1 := hc _ _ (ints_at hs i hlt)
      have hhi := hh hs[i] (List.getElem_mem hlt)
      have HM := Aside.mk (manyL_take l hs i hlt)
      have hml := manyL_len l (hs.take i)
      clear hc
      generalize hs[i] = h at *
      generalize manyL l (hs.take i) = M at *
      have hsp := fun W k => impl_split A2 M c2 h W (by omega) hhi k
      rw [hml] at hsp
      have hln := stL_len h M
      rw [hml] at hln
      (go_wp2_with fail); (go_at_call 95); (refine (hsp _ (own_rdc HO.out)).mono ?_); rintro e w3 ⟨v1, v2, rfl, ⟨g1, d1, g2, d2, rfl, rfl, ho1, ho2, hne, hg1, hg2⟩, hk3⟩
      have k3 : Keep w w3 := (by ((repeat (first | (with_reducible assumption) | ((with_reducible refine Keep.setCell ?_ ?_ _); rotate_left; focus (first | omega | (simp; done) | (simp; omega))) | (with_reducible refine Keep.alloc ?_ _) | (with_reducible refine Keep.drewN ?_ _) | (with_reducible refine Keep.drew ?_) | (with_reducible exact Keep.refl _) | refine Keep.trans ?_ (by with_reducible assumption) | exact Keep.refl _ | assumption))))
      have zz3 := hk3.size
      have zz0 := hk0.size
      have HO1 := Aside.mk ho1
      have HO2 := Aside.mk ho2
      have HS : Aside (stepL M h = stL h M ++ drL h M) := Aside.mk rfl
      clear ho1 ho2 hk3 HO hk0
      generalize stL h M = L1 at *
      generalize drL h M = L2 at *
      go_wp2_with (at_builtin; refine wpList_append_own _ rfl _ _ 26 rfl wr.heap.size 108 i0 (.agg #[.string ByteArray.empty, .int .u64 0, .int .u64 0]) 3 32 Tryd.underlying26 hi0 hz0 hz1 hz2 rfl (by decide) _ _ _ rfl HO1.out ⟨g2, 0, none⟩ L2.length d2 (cds L2) rfl ?c0 ?c1 (cds_one L2) ?c3 ?c4 ?c5 ?_)
      case c0 => rw [cds_len]; omega
      case c1 => exact HO2.out.cells rfl
      case c3 => unfold maxLen; omega
      case c4 => omega
      case c5 => omega
      intro v' w4 hown hg _
      have hb1 := (HO1.out.lt g1 rfl).1
      have k4 : Keep w w4 := k3.grown hg (fun k hk => by simp [Value.ownBlock] at hk; omega)
      obtain ⟨A4, c4, rfl, -, -⟩ := own_row hown
      have HT : Aside (w4.ownsRow w.heap.size 108 3 (.slice A4 l.length c4) l.length (cds (manyL l (hs.take (i + 1))))) := Aside.mk (by rw [HM.out, HS.out, cds_app]; exact own_base hown (by omega))
      clear HO1 HO2 hown hg hne k3 HM HS hsp
      go_wp2
      go_roundg (hs.length - (i + 1))
      case measure => omega
      case rel => exact ⟨i + 1, A4, c4, by omega, by go_num, rfl, HT.out, (by ((repeat (first | (with_reducible assumption) | ((with_reducible refine Keep.setCell ?_ ?_ _); rotate_left; focus (first | omega | (simp; done) | (simp; omega))) | (with_reducible refine Keep.alloc ?_ _) | (with_reducible refine Keep.drewN ?_ _) | (with_reducible refine Keep.drew ?_) | (with_reducible exact Keep.refl _) | refine Keep.trans ?_ (by with_reducible assumption) | exact Keep.refl _ | assumption))))⟩
    · have e2 : i = hs.length := by omega
      subst e2
      rw [List.take_length] at HO
      go_wp2
      go_ret; exact ⟨_, rfl, HO.out, (by ((repeat (first | (with_reducible assumption) | ((with_reducible refine Keep.setCell ?_ ?_ _); rotate_left; focus (first | omega | (simp; done) | (simp; omega))) | (with_reducible refine Keep.alloc ?_ _) | (with_reducible refine Keep.drewN ?_ _) | (with_reducible refine Keep.drew ?_) | (with_reducible exact Keep.refl _) | refine Keep.trans ?_ (by with_reducible assumption) | exact Keep.refl _ | assumption))))⟩
theorem spec_l02Many (g : Nat) (l : List Cd) (c : Nat) (B : Option Addr) (hs : List Int) (d : Nat) (w : World) (h80 : l.length ≤ 80) (hh : ∀ h ∈ hs, 0 ≤ h ∧ h < 96) (hm : hs.length ≤ 9223372036854775807) (hR : Rd w (some ⟨g, 0, none⟩) (cds l)) (hS : Rd w B (ints hs)) :
    Calls Tryd.prog 103 #[.slice (some ⟨g, 0, none⟩) l.length c, .slice B hs.length d] w fun e w' => ∃ v, e = .returned v ∧ w'.ownsRow w.heap.size 108 3 v l.length (cds (manyL l hs)) ∧ Keep w w' := by
  obtain ⟨i0, hi0, hz0, hz1, hz2⟩ := info_parts cardE_info
  have HN := Aside.mk (own_emptyN w w.heap.size 108 3 (Nat.le_refl _))
  have HD := Aside.mk (rd_news (hR.keep ((Keep.refl w).alloc (.cells #[] 108))))
  go_enter Tryd.func103, Tryd.ntmps103
  go_wp2_with (at_builtin; refine wpList_append_own _ rfl _ _ 26 rfl w.heap.size 108 i0 (.agg #[.string ByteArray.empty, .int .u64 0, .int .u64 0]) 3 32 Tryd.underlying26 hi0 hz0 hz1 hz2 rfl (by decide) _ _ _ rfl HN.out ⟨g, 0, none⟩ l.length c (cds l) rfl ?c0 HD.out (cds_one l) ?c3 ?c4 ?c5 ?_)
  case c0 => rw [cds_len]; omega
  case c3 => unfold maxLen; omega
  case c4 => omega
  case c5 => simp
  intro v1 w1 hown hg _
  have k1 : Keep w w1 := ((Keep.refl w).alloc _).grown hg (fun k hk => by simp [Value.ownBlock] at hk; omega)
  obtain ⟨A1, c1, rfl, -, -⟩ := own_row hown
  have HO : Aside (w1.ownsRow w.heap.size 108 3 (.slice A1 l.length c1) l.length (cds l)) := Aside.mk (by simpa using hown)
  clear hown hg HN HD
  go_wp2_with fail
  go_loopg [5, 6] hs.length (fun k s5 s6 wr => ∃ (i : Nat) (A2 : Option Addr) (c2 : Nat), i + k = hs.length ∧ s6 = .int .i64 i ∧ s5 = .slice A2 l.length c2 ∧ wr.ownsRow w.heap.size 108 3 (.slice A2 l.length c2) l.length (cds (manyL l (hs.take i))) ∧ Keep w wr)
  case atStart => exact ⟨0, A1, c1, by omega, rfl, rfl, HO.out, (by ((repeat (first | (with_reducible assumption) | ((with_reducible refine Keep.setCell ?_ ?_ _); rotate_left; focus (first | omega | (simp; done) | (simp; omega))) | (with_reducible refine Keep.alloc ?_ _) | (with_reducible refine Keep.drewN ?_ _) | (with_reducible refine Keep.drew ?_) | (with_reducible exact Keep.refl _) | refine Keep.trans ?_ (by with_reducible assumption) | exact Keep.refl _ | assumption))))⟩
  case round =>
    obtain ⟨i, A2, c2, hi, rfl, rfl, hown, hk0⟩ := hrel
    have HO := Aside.mk hown
    clear hown
    by_cases hlt : i < hs.length
    · obtain ⟨bb, o, rfl, hc⟩ := (hS.keep hk0).at (k := i) (by rw [ints_len]; omega)
      have p1 := hc _ _ (ints_at hs i hlt)
      have hhi := hh hs[i] (List.getElem_mem hlt)
      have HM := Aside.mk (manyL_take l hs i hlt)
      have hml := manyL_len l (hs.take i)
      clear hc
      generalize hs[i] = h at *
      generalize manyL l (hs.take i) = M at *
      have hsp := fun W k => spec_l02Split A2 M c2 h W (by omega) hhi k
      rw [hml] at hsp
      have hln := stL_len h M
      rw [hml] at hln
      (go_wp2_with fail); (go_at_call 94); (refine (hsp _ (own_rdc HO.out)).mono ?_); rintro e w3 ⟨v1, v2, rfl, ⟨g1, d1, g2, d2, rfl, rfl, ho1, ho2, hne, hg1, hg2⟩, hk3⟩
      have k3 : Keep w w3 := (by ((repeat (first | (with_reducible assumption) | ((with_reducible refine Keep.setCell ?_ ?_ _); rotate_left; focus (first | omega | (simp; done) | (simp; omega))) | (with_reducible refine Keep.alloc ?_ _) | (with_reducible refine Keep.drewN ?_ _) | (with_reducible refine Keep.drew ?_) | (with_reducible exact Keep.refl _) | refine Keep.trans ?_ (by with_reducible assumption) | exact Keep.refl _ | assumption))))
      have zz3 := hk3.size
      have zz0 := hk0.size
      have HO1 := Aside.mk ho1
      have HO2 := Aside.mk ho2
      have HS : Aside (stepL M h = stL h M ++ drL h M) := Aside.mk rfl
      clear ho1 ho2 hk3 HO hk0
      generalize stL h M = L1 at *
      generalize drL h M = L2 at *
      go_wp2_with (at_builtin; refine wpList_append_own _ rfl _ _ 26 rfl wr.heap.size 108 i0 (.agg #[.string ByteArray.empty, .int .u64 0, .int .u64 0]) 3 32 Tryd.underlying26 hi0 hz0 hz1 hz2 rfl (by decide) _ _ _ rfl HO1.out ⟨g2, 0, none⟩ L2.length d2 (cds L2) rfl ?c0 ?c1 (cds_one L2) ?c3 ?c4 ?c5 ?_)
      case c0 => rw [cds_len]; omega
      case c1 => exact HO2.out.cells rfl
      case c3 => unfold maxLen; omega
      case c4 => omega
      case c5 => omega
      intro v' w4 hown hg _
      have hb1 := (HO1.out.lt g1 rfl).1
      have k4 : Keep w w4 := k3.grown hg (fun k hk => by simp [Value.ownBlock] at hk; omega)
      obtain ⟨A4, c4, rfl, -, -⟩ := own_row hown
      have HT : Aside (w4.ownsRow w.heap.size 108 3 (.slice A4 l.length c4) l.length (cds (manyL l (hs.take (i + 1))))) := Aside.mk (by rw [HM.out, HS.out, cds_app]; exact own_base hown (by omega))
      clear HO1 HO2 hown hg hne k3 HM HS hsp
      go_wp2
      go_roundg (hs.length - (i + 1))
      case measure => omega
      case rel => exact ⟨i + 1, A4, c4, by omega, by go_num, rfl, HT.out, (by ((repeat (first | (with_reducible assumption) | ((with_reducible refine Keep.setCell ?_ ?_ _); rotate_left; focus (first | omega | (simp; done) | (simp; omega))) | (with_reducible refine Keep.alloc ?_ _) | (with_reducible refine Keep.drewN ?_ _) | (with_reducible refine Keep.drew ?_) | (with_reducible exact Keep.refl _) | refine Keep.trans ?_ (by with_reducible assumption) | exact Keep.refl _ | assumption))))⟩
    · have e2 : i = hs.length := by omega
      subst e2
      rw [List.take_length] at HO
      go_wp2
      go_ret; exact ⟨_, rfl, HO.out, (by ((repeat (first | (with_reducible assumption) | ((with_reducible refine Keep.setCell ?_ ?_ _); rotate_left; focus (first | omega | (simp; done) | (simp; omega))) | (with_reducible refine Keep.alloc ?_ _) | (with_reducible refine Keep.drewN ?_ _) | (with_reducible refine Keep.drew ?_) | (with_reducible exact Keep.refl _) | refine Keep.trans ?_ (by with_reducible assumption) | exact Keep.refl _ | assumption))))⟩
end Go.Proofs.YtpmilcfppcmodaaDoor

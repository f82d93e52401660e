/- Lists of lists of words that are marked. -/
import Derived.Test.YtbbnhbfofdhnbaaDoorTL1
import Derived.Test.YtbbnhbfofdhnbaaDoorMSS
import Derived.Test.YtbbnhbfofdhnbaaDoorS3
import Derived.Test.YtbbnhbfofdhnbaaDoorOW
set_option linter.unusedVariables false
set_option linter.unusedSimpArgs false
namespace Go.Proofs.YtbbnhbfofdhnbaaDoor
open Go.RowKit
set_option maxHeartbeats 2000000
set_option maxRecDepth 20000
def sumW : List (List ByteArray) → Nat
  | [] => 0
  | l :: ll => (l.length + szSum l) + sumW ll
theorem sumW_app (a b : List (List ByteArray)) : sumW (a ++ b) = sumW a + sumW b := by
  induction a with
  | nil => simp [sumW]
  | cons x a ih => simp [sumW, ih]; omega
theorem sumW_take {ll : List (List ByteArray)} {i : Nat} (h : i < ll.length) : sumW (ll.take (i + 1)) = sumW (ll.take i) + (ll[i].length + szSum ll[i]) := by
  rw [List.take_succ_eq_append_getElem h, sumW_app]; simp [sumW]
theorem sumW_le (ll : List (List ByteArray)) (i : Nat) : sumW (ll.take i) ≤ sumW ll := by
  have := sumW_app (ll.take i) (ll.drop i)
  rw [List.take_append_drop] at this
  omega
theorem sumW_mem {ll : List (List ByteArray)} {l : List ByteArray} (h : l ∈ ll) : l.length ≤ sumW ll := by
  obtain ⟨i, hi, rfl⟩ := List.getElem_of_mem h
  have h1 := sumW_take hi
  have h2 := sumW_le ll (i + 1)
  omega
/-- What is left behind a list of lists of words. -/
def szW (left : Int) (ll : List (List ByteArray)) : Int := if left < (ll.length + sumW ll : Nat) then -1 else left - (ll.length + sumW ll : Nat)
theorem szW_gt {left : Int} {ll : List (List ByteArray)} (h : left < (ll.length + sumW ll : Nat)) : szW left ll = -1 := by unfold szW; rw [if_pos h]
theorem szW_le {left : Int} {ll : List (List ByteArray)} (h : ¬ left < (ll.length + sumW ll : Nat)) : szW left ll = left - (ll.length + sumW ll : Nat) := by unfold szW; rw [if_neg h]
theorem laws_szStringSS (B : Option Addr) (xs : List Wl) (c : Nat) (left : Int) (w : World) (h0 : 0 ≤ left ∧ left ≤ 1048576) (hm : xs.length ≤ 9223372036854775807) (hz : SzW (lw xs)) (hR : Rds w B xs) :
    Calls Tryd.prog 7 #[.slice B xs.length c, .int .i64 left] w fun e w' => e = .returned (.int .i64 (szW left (lw xs))) ∧ Keep w w' := by
  have hlw := lw_len xs
  have e0 : IntKind.i64.wrap (left - xs.length) = left - xs.length := wrapI64 ⟨by omega, by omega⟩
  by_cases hn : (xs.length : Int) ≤ left
  · have HGT : Aside (∀ i, i ≤ xs.length → left - xs.length < (sumW ((lw xs).take i) : Nat) → szW left (lw xs) = -1) := Aside.mk (fun i hi h => szW_gt (by have := sumW_le (lw xs) i; omega))
    have HLE : Aside (¬ left - xs.length < (sumW (lw xs) : Nat) → szW left (lw xs) = left - xs.length - sumW (lw xs)) := Aside.mk (fun h => by rw [szW_le (by omega)]; omega)
    have hTK : Aside (∀ i (h : i < xs.length), sumW ((lw xs).take (i + 1)) = sumW ((lw xs).take i) + (xs[i].l.length + szSum xs[i].l)) := Aside.mk (fun i h => by
      rw [sumW_take (by rw [lw_len]; exact h), lw_at xs i h])
    have hEN : Aside ((lw xs).take xs.length = lw xs) := Aside.mk (List.take_of_length_le (by rw [lw_len]; omega))
    generalize szW left (lw xs) = S at *
    clear hlw
    go_enter Tryd.func7, Tryd.ntmps7
    go_wp2_with fail
    go_loopg [1, 5] xs.length (fun k s1 s5 wr => ∃ i : Nat, i + k = xs.length ∧ s5 = .int .i64 i ∧ s1 = .int .i64 (left - xs.length - sumW ((lw xs).take i)) ∧ (sumW ((lw xs).take i) : Int) ≤ left - xs.length ∧ Keep w wr)
    case atStart => exact ⟨0, by omega, rfl, by simp [sumW], by simp [sumW]; omega, (by ((repeat (first | (with_reducible assumption) | ((with_reducible refine Keep.setCell ?_ ?_ _); rotate_left; focus (first | omega | (simp; done) | (simp; omega))) | (with_reducible refine Keep.alloc ?_ _) | (with_reducible refine Keep.drewN ?_ _) | (with_reducible refine Keep.drew ?_) | (with_reducible exact Keep.refl _) | refine Keep.trans ?_ (by with_reducible assumption) | exact Keep.refl _ | assumption))))⟩
    case round =>
      obtain ⟨i, hi, rfl, rfl, hle, hk⟩ := hrel
      by_cases hlt : i < xs.length
      · obtain ⟨bb, o, rfl, hc⟩ := (hR.row.keep hk).at (k := i) (by rw [sls_len]; exact hlt)
        have hcell := hc i _ (sls_at xs i hlt)
        have hzx := hz.at (List.getElem_mem hlt)
        have hr := (hR.rows _ (List.getElem_mem hlt)).keep hk
        have hT := hTK.out i hlt
        have HG := Aside.mk (HGT.out (i + 1) (by omega))
        obtain ⟨y, hy⟩ : ∃ y, sumW ((lw xs).take (i + 1)) = y := ⟨_, rfl⟩
        rw [hy] at hT HG
        have HY := Aside.mk hy
        clear hc hy
        generalize xs[i] = x at *
        obtain ⟨xa, xl, xc⟩ := x
        simp only at hcell hzx hr hT
        generalize sumW ((lw xs).take i) = v at *
        obtain ⟨lf, hlf⟩ : ∃ lf : Int, left - xs.length - v = lf := ⟨_, rfl⟩
        have hsz := Aside.mk (fun W h => laws_szStringS xa xl xc lf W (by omega) hzx.1 hzx.2 h)
        rw [hlf]
        by_cases hneg : lf < (xl.length + szSum xl : Nat)
        · have e1 : szL lf xl = -1 := szL_gt hneg
          rw [e1] at hsz
          have HE := Aside.mk (HG.out (by omega))
          clear HG HY hT e1 hneg hzx
          (go_wp2_with fail); (go_at_call 8); (refine (hsz.out _ hr).mono ?_); rintro e w1 ⟨rfl, hk1⟩
          go_wp2
          go_ret; exact ⟨by rw [HE.out]; rfl, (by ((repeat (first | (with_reducible assumption) | ((with_reducible refine Keep.setCell ?_ ?_ _); rotate_left; focus (first | omega | (simp; done) | (simp; omega))) | (with_reducible refine Keep.alloc ?_ _) | (with_reducible refine Keep.drewN ?_ _) | (with_reducible refine Keep.drew ?_) | (with_reducible exact Keep.refl _) | refine Keep.trans ?_ (by with_reducible assumption) | exact Keep.refl _ | assumption))))⟩
        · have e1 : szL lf xl = lf - (xl.length + szSum xl : Nat) := szL_le hneg
          have hnn : ¬ lf - (xl.length + szSum xl : Nat) < 0 := by omega
          obtain ⟨l2, hl2⟩ : ∃ l2 : Int, lf - (xl.length + szSum xl : Nat) = l2 := ⟨_, rfl⟩
          rw [e1] at hsz
          rw [hl2] at hsz hnn
          have hl3 : l2 = left - xs.length - y := by omega
          have hl4 : (y : Int) ≤ left - xs.length := by omega
          have HL3 := Aside.mk hl3
          clear HG hT e1 hneg hzx hl2 hl3 hlf
          (go_wp2_with fail); (go_at_call 8); (refine (hsz.out _ hr).mono ?_); rintro e w1 ⟨rfl, hk1⟩
          go_wp2
          go_roundg (xs.length - (i + 1))
          case measure => omega
          case rel => exact ⟨i + 1, by omega, by go_num, by rw [HY.out, HL3.out], by rw [HY.out]; exact hl4, (by ((repeat (first | (with_reducible assumption) | ((with_reducible refine Keep.setCell ?_ ?_ _); rotate_left; focus (first | omega | (simp; done) | (simp; omega))) | (with_reducible refine Keep.alloc ?_ _) | (with_reducible refine Keep.drewN ?_ _) | (with_reducible refine Keep.drew ?_) | (with_reducible exact Keep.refl _) | refine Keep.trans ?_ (by with_reducible assumption) | exact Keep.refl _ | assumption))))⟩
      · have e2 : i = xs.length := by omega
        subst e2
        rw [hEN.out] at *
        have HE := Aside.mk (HLE.out (by omega))
        clear HLE HGT hTK
        go_wp2
        go_ret; exact ⟨by rw [HE.out]; rfl, (by ((repeat (first | (with_reducible assumption) | ((with_reducible refine Keep.setCell ?_ ?_ _); rotate_left; focus (first | omega | (simp; done) | (simp; omega))) | (with_reducible refine Keep.alloc ?_ _) | (with_reducible refine Keep.drewN ?_ _) | (with_reducible refine Keep.drew ?_) | (with_reducible exact Keep.refl _) | refine Keep.trans ?_ (by with_reducible assumption) | exact Keep.refl _ | assumption))))⟩
  · have e2 : szW left (lw xs) = -1 := szW_gt (by omega)
    rw [e2]
    go_enter Tryd.func7, Tryd.ntmps7
    go_wp2
    go_ret; exact ⟨rfl, (by ((repeat (first | (with_reducible assumption) | ((with_reducible refine Keep.setCell ?_ ?_ _); rotate_left; focus (first | omega | (simp; done) | (simp; omega))) | (with_reducible refine Keep.alloc ?_ _) | (with_reducible refine Keep.drewN ?_ _) | (with_reducible refine Keep.drew ?_) | (with_reducible exact Keep.refl _) | refine Keep.trans ?_ (by with_reducible assumption) | exact Keep.refl _ | assumption))))⟩
theorem laws_eqStringSS (B C : Option Addr) (xs ys : List Wl) (c d : Nat) (w : World) (hn : xs.length ≤ 1048576) (hs : sumW (lw xs) ≤ 1048576) (he : lw ys = lw xs) (hR : Rds w B xs) (hS : Rds w C ys) :
    Calls Tryd.prog 14 #[.slice B xs.length c, .slice C ys.length d] w fun e w' => e = .returned (.bool true) ∧ Keep w w' := by
  have hl : ys.length = xs.length := by have := congrArg List.length he; rwa [lw_len, lw_len] at this
  have HL := Aside.mk hl
  have hat : Aside (∀ i (h : i < xs.length) (h2 : i < ys.length), ys[i].l = xs[i].l ∧ xs[i].l.length ≤ 1048576) := Aside.mk (fun i h h2 => by
    refine ⟨?_, ?_⟩
    · rw [← lw_at ys i h2, ← lw_at xs i h]; simp only [he]
    · have := sumW_mem (ll := lw xs) (List.mem_map.2 ⟨xs[i], List.getElem_mem h, rfl⟩); omega)
  rw [hl]
  clear hl
  go_enter Tryd.func14, Tryd.ntmps14
  go_wp2_with fail
  go_loopg [5] xs.length (fun k s wr => ∃ i : Nat, i + k = xs.length ∧ s = .int .i64 i ∧ Keep w wr)
  case atStart => exact ⟨0, by omega, rfl, (by ((repeat (first | (with_reducible assumption) | ((with_reducible refine Keep.setCell ?_ ?_ _); rotate_left; focus (first | omega | (simp; done) | (simp; omega))) | (with_reducible refine Keep.alloc ?_ _) | (with_reducible refine Keep.drewN ?_ _) | (with_reducible refine Keep.drew ?_) | (with_reducible exact Keep.refl _) | refine Keep.trans ?_ (by with_reducible assumption) | exact Keep.refl _ | assumption))))⟩
  case round =>
    obtain ⟨i, hi, rfl, hk⟩ := hrel
    by_cases hlt : i < xs.length
    · have hlt2 : i < ys.length := by rw [HL.out]; exact hlt
      obtain ⟨bb, o, rfl, hc⟩ := (hR.row.keep hk).at (k := i) (by rw [sls_len]; exact hlt)
      obtain ⟨b2, o2, rfl, hc2⟩ := (hS.row.keep hk).at (k := i) (by rw [sls_len]; exact hlt2)
      have p1 := hc i _ (sls_at xs i hlt)
      have p2 := hc2 i _ (sls_at ys i hlt2)
      have hr := Aside.mk ((hR.rows _ (List.getElem_mem hlt)).keep hk)
      have hr2 := Aside.mk ((hS.rows _ (List.getElem_mem hlt2)).keep hk)
      obtain ⟨e1, e2⟩ := hat.out i hlt hlt2
      clear hc hc2
      generalize ys[i] = y at *
      generalize xs[i] = x at *
      clear hlt2
      obtain ⟨xa, xl, xc⟩ := x
      obtain ⟨ya, yl, yc⟩ := y
      simp only at p1 p2 hr hr2 e1 e2
      subst e1
      have hq := Aside.mk (fun W h1 h2 => laws_eqStringS xa ya yl xc yc W e2 h1 h2)
      go_wp2_with fail
      refine wp_region_keep (by kernel_rfl) (by kernel_rfl) ?_
      repeat
        first
          | (apply QuietL.run
             focus go_simp
             focus
               intro w2 hk
               have p1' := hk.cell p1
               have p2' := hk.cell p2
               apply QAt.mk
               go_simp
               first
                 | done
                 | exact rfl
                 | (go_at_call 15; exact quiet_call hk (hq.out _ (hr.out.keep hk) (hr2.out.keep hk)))
             simp only [Act.put, List.setIfInBounds_toArray, List.set_cons_succ, List.set_cons_zero])
          | (apply QuietL.skip
             focus go_simp
             simp only [Act.put, List.setIfInBounds_toArray, List.set_cons_succ, List.set_cons_zero])
      apply QuietL.nil
      intro w2 hk
      have p1' := hk.cell p1
      have p2' := hk.cell p2
      go_wp2
      go_roundg (xs.length - (i + 1))
      case measure => omega
      case rel => exact ⟨i + 1, by omega, by go_num, (by ((repeat (first | (with_reducible assumption) | ((with_reducible refine Keep.setCell ?_ ?_ _); rotate_left; focus (first | omega | (simp; done) | (simp; omega))) | (with_reducible refine Keep.alloc ?_ _) | (with_reducible refine Keep.drewN ?_ _) | (with_reducible refine Keep.drew ?_) | (with_reducible exact Keep.refl _) | refine Keep.trans ?_ (by with_reducible assumption) | exact Keep.refl _ | assumption))))⟩
    · have e2 : i = xs.length := by omega
      subst e2
      go_wp2
      go_ret; exact ⟨rfl, (by ((repeat (first | (with_reducible assumption) | ((with_reducible refine Keep.setCell ?_ ?_ _); rotate_left; focus (first | omega | (simp; done) | (simp; omega))) | (with_reducible refine Keep.alloc ?_ _) | (with_reducible refine Keep.drewN ?_ _) | (with_reducible refine Keep.drew ?_) | (with_reducible exact Keep.refl _) | refine Keep.trans ?_ (by with_reducible assumption) | exact Keep.refl _ | assumption))))⟩
end Go.Proofs.YtbbnhbfofdhnbaaDoor
namespace Go.Proofs.YtbbnhbfofdhnbaaDoor
open Go.RowKit
set_option maxHeartbeats 2000000
set_option maxRecDepth 20000
/-- A list of words in a block of its own. -/
structure Rw where
  g : Nat
  l : List ByteArray
def rwW (r : Rw) : Wl := ⟨some ⟨r.g, 0, none⟩, r.l, r.l.length⟩
def rws (rs : List Rw) : List Wl := rs.map rwW
theorem lw_rws (rs : List Rw) : lw (rws rs) = rs.map (·.l) := by simp [lw, rws, rwW]
theorem rws_len (rs : List Rw) : (rws rs).length = rs.length := by simp [rws]
theorem strSS_info : (Tryd.prog.info? 23).map (fun i => (i.zero, i.size, i.bytes)) = some (some (.slice none 0 0), 1, 24) := by kernel_rfl
/-- A list of lists of words of the call's own, in blocks from B on and below H. -/
structure OwnL (w : World) (B H : Nat) (v : Value) (rs : List Rw) : Prop where
  outer : Own w B H 23 1 v rs.length (sls (rws rs))
  inner : ∀ r ∈ rs, Own w B H 9 1 (.slice (some ⟨r.g, 0, none⟩) r.l.length r.l.length) r.l.length (strs r.l)
  apart : rs.Pairwise (fun a b => a.g ≠ b.g)
  outs : ∀ r ∈ rs, v.ownBlock ≠ some r.g
theorem OwnL.keep {w w' : World} {B H : Nat} {v : Value} {rs : List Rw} (h : OwnL w B H v rs) (k : Keep w w') : OwnL w' B H v rs := ⟨h.outer.keep k, fun r hr => (h.inner r hr).keep k, h.apart, h.outs⟩
theorem OwnL.rds {w : World} {B H : Nat} {A : Option Addr} {n c : Nat} {rs : List Rw} (h : OwnL w B H (.slice A n c) rs) (hn : n = rs.length) : Rds w A (rws rs) := by
  subst hn
  refine ⟨h.outer.rd, fun x hx => ?_⟩
  obtain ⟨r, hr, rfl⟩ := List.mem_map.1 hx
  exact (h.inner r hr).rd
def filledW (rs : List Rw) (n : Nat) : List Value := sls (rws rs) ++ List.replicate (n - rs.length) (.slice none 0 0)
theorem filledW_zero (n : Nat) : filledW [] n = List.replicate n (.slice none 0 0) := by simp [filledW, sls, rws]
theorem filledW_end (rs : List Rw) : filledW rs rs.length = sls (rws rs) := by simp [filledW]
theorem filledW_at (rs : List Rw) (n : Nat) (h : rs.length < n) : (filledW rs n)[rs.length]? = some (.slice none 0 0) := by
  have e : (sls (rws rs)).length = rs.length := by rw [sls_len, rws_len]
  rw [filledW, List.getElem?_append_right (by omega), e, Nat.sub_self, List.getElem?_replicate, if_pos (by omega)]
theorem filledW_set (rs : List Rw) (n : Nat) (r : Rw) (h : rs.length < n) : (filledW rs n).set rs.length (.slice (some ⟨r.g, 0, none⟩) r.l.length r.l.length) = filledW (rs ++ [r]) n := by
  have e : (sls (rws rs)).length = rs.length := by rw [sls_len, rws_len]
  rw [filledW, List.set_append_right _ _ (by omega), e, Nat.sub_self, show n - rs.length = (n - (rs.length + 1)) + 1 by omega, List.replicate_succ, List.set_cons_zero, filledW]
  simp [sls, rws, rwW]
/-- What the copying loop knows. -/
structure Cpy (w : World) (B : Nat) (ll : List (List ByteArray)) (rs : List Rw) (i : Nat) : Prop where
  words : rs.map (·.l) = ll.take i
  len : rs.length = i
  inner : ∀ r ∈ rs, w.ownsRow B 9 1 (.slice (some ⟨r.g, 0, none⟩) r.l.length r.l.length) r.l.length (strs r.l)
  apart : rs.Pairwise (fun a b => a.g ≠ b.g)
  outs : ∀ r ∈ rs, r.g ≠ B
theorem Cpy.keep {w w' : World} {B : Nat} {ll : List (List ByteArray)} {rs : List Rw} {i : Nat} (h : Cpy w B ll rs i) (k : Keep w w') : Cpy w' B ll rs i := ⟨h.words, h.len, fun r hr => own_keep (h.inner r hr) k, h.apart, h.outs⟩
theorem Cpy.lt {w : World} {B : Nat} {ll : List (List ByteArray)} {rs : List Rw} {i : Nat} (h : Cpy w B ll rs i) {r : Rw} (hr : r ∈ rs) : r.g < w.heap.size := ((h.inner r hr).lt r.g rfl).2
theorem Cpy.next {w : World} {B : Nat} {xs : List Wl} {rs : List Rw} {i g : Nat} {l : List ByteArray} (h : Cpy w B (lw xs) rs i) (hi : i < xs.length) (hl : xs[i].l = l) (hB : B < g) (hg : ∀ r ∈ rs, r.g ≠ g)
    (ho : w.ownsRow B 9 1 (.slice (some ⟨g, 0, none⟩) l.length l.length) l.length (strs l)) : Cpy w B (lw xs) (rs ++ [⟨g, l⟩]) (i + 1) := by
  refine ⟨?_, by rw [List.length_append, h.len]; rfl, fun r hr => ?_, ?_, fun r hr => ?_⟩
  · rw [List.map_append, h.words, List.take_succ_eq_append_getElem (by rw [lw_len]; exact hi), lw_at xs i hi, hl]; rfl
  · rcases List.mem_append.1 hr with hr | hr
    · exact h.inner r hr
    · simp at hr; subst hr; exact ho
  · rw [List.pairwise_append]
    exact ⟨h.apart, by simp, fun a ha b hb => by simp at hb; subst hb; exact hg a ha⟩
  · rcases List.mem_append.1 hr with hr | hr
    · exact h.outs r hr
    · simp at hr; subst hr; simp; omega
theorem Cpy.set {w w' : World} {B : Nat} {ll : List (List ByteArray)} {rs : List Rw} {i : Nat} (h : Cpy w B ll rs i) (hg : w.grownBy w' (some B)) : Cpy w' B ll rs i :=
  ⟨h.words, h.len, fun r hr => (h.inner r hr).kept hg (.inr (by have := h.outs r hr; simpa [Value.ownBlock] using this)), h.apart, h.outs⟩
theorem laws_toStringSS (B : Option Addr) (xs : List Wl) (c : Nat) (w : World) (hn : xs.length ≤ 1048576) (hs : sumW (lw xs) ≤ 1048576) (hR : Rds w B xs) :
    Calls Tryd.prog 10 #[.slice B xs.length c] w fun e w' => ∃ g rs, e = .returned (.slice (some ⟨g, 0, none⟩) xs.length xs.length) ∧ rs.length = xs.length ∧ lw (rws rs) = lw xs ∧ OwnL w' w.heap.size w'.heap.size (.slice (some ⟨g, 0, none⟩) xs.length xs.length) rs ∧ Keep w w' := by
  obtain ⟨i0, hi0, hz0, hz1, hz2⟩ := info_parts strSS_info
  have HLN : Aside (∀ i (h : i < xs.length), xs[i].l.length ≤ 1048576) := Aside.mk (fun i h => by
    have := sumW_mem (ll := lw xs) (List.mem_map.2 ⟨xs[i], List.getElem_mem h, rfl⟩); omega)
  go_enter Tryd.func10, Tryd.ntmps10
  go_wp2_with (at_make; refine wpList_make_full _ rfl _ _ 22 rfl w.heap.size 23 i0 (.slice none 0 0) 1 Tryd.underlying22 hi0 hz0 hz1 .i64 .i64 xs.length xs.length xs.length rfl rfl rfl rfl ?b2 ?b3 ?b4 ?_)
  case b2 => rw [hz2]; omega
  case b3 => unfold maxLen; omega
  case b4 => exact Nat.le_refl _
  intro w1 hown hg
  have hmade : (madeCells #[Value.slice none 0 0] xs.length).toList = filledW [] xs.length := by rw [filledW_zero]; exact toList_madeCells_one _ _
  rw [hmade] at hown
  have HO := Aside.mk hown
  have hk1 : Keep w w1 := (Keep.refl w).grown hg (by intro k hk; cases hk)
  clear hown hg hmade
  go_wp2_with fail
  go_loopg [4] xs.length (fun k s wr => ∃ (i : Nat) (rs : List Rw), i + k = xs.length ∧ s = .int .i64 i ∧ wr.ownsRow w.heap.size 23 1 (.slice (some ⟨w.heap.size, 0, none⟩) xs.length xs.length) xs.length (filledW rs xs.length) ∧ Cpy wr w.heap.size (lw xs) rs i ∧ Keep w wr)
  case atStart => exact ⟨0, [], by omega, rfl, HO.out, ⟨rfl, rfl, fun r hr => (by simp at hr), List.Pairwise.nil, fun r hr => (by simp at hr)⟩, (by ((repeat (first | (with_reducible assumption) | ((with_reducible refine Keep.setCell ?_ ?_ _); rotate_left; focus (first | omega | (simp; done) | (simp; omega))) | (with_reducible refine Keep.alloc ?_ _) | (with_reducible refine Keep.drewN ?_ _) | (with_reducible refine Keep.drew ?_) | (with_reducible exact Keep.refl _) | refine Keep.trans ?_ (by with_reducible assumption) | exact Keep.refl _ | assumption))))⟩
  case round =>
    obtain ⟨i, rs, hi, rfl, hown, hcp, hk⟩ := hrel
    have HC := Aside.mk hcp
    have hrl := hcp.len
    clear hcp HO
    by_cases hlt : i < xs.length
    · obtain ⟨bb, o, rfl, hc⟩ := (hR.row.keep hk).at (k := i) (by rw [sls_len]; exact hlt)
      have hcell := hc i _ (sls_at xs i hlt)
      have hr := (hR.rows _ (List.getElem_mem hlt)).keep hk
      have hln := HLN.out i hlt
      have HX : Aside (∃ l, l = xs[i].l) := Aside.mk ⟨_, rfl⟩
      have HNX := Aside.mk (fun (W : World) (g : Nat) (l : List ByteArray) (h : Cpy W w.heap.size (lw xs) rs i) (e : xs[i].l = l) hB hg ho => h.next hlt e (g := g) hB hg ho)
      have HO := Aside.mk hown
      have hsz := ((hown.lt w.heap.size rfl)).2
      clear hc hown HX
      generalize xs[i] = x at *
      obtain ⟨xa, xl, xc⟩ := x
      simp only at hcell hr hln HNX
      have hts := Aside.mk (fun W h => laws_toStringS xa xl xc W hln h)
      (go_wp2_with fail); (go_at_call 11); (refine (hts.out _ hr).mono ?_); rintro e w3 ⟨g, rfl, ho3, hk3⟩
      have hg1 := (ho3.lt g rfl).1
      have hkk : Keep w w3 := (by ((repeat (first | (with_reducible assumption) | ((with_reducible refine Keep.setCell ?_ ?_ _); rotate_left; focus (first | omega | (simp; done) | (simp; omega))) | (with_reducible refine Keep.alloc ?_ _) | (with_reducible refine Keep.drewN ?_ _) | (with_reducible refine Keep.drew ?_) | (with_reducible exact Keep.refl _) | refine Keep.trans ?_ (by with_reducible assumption) | exact Keep.refl _ | assumption))))
      have hO3 := own_keep HO.out hk3
      have hcA : w3.cell? ⟨w.heap.size, i, none⟩ = some (.slice none 0 0) := (hO3.cellAt i (by omega)).trans (by have h := filledW_at rs xs.length (by omega); rw [hrl] at h; exact h)
      have hfA := hO3.frozenAt i
      have HC4 := Aside.mk (HNX.out w3 g xl (HC.out.keep hk3) rfl (by omega) (fun r hr => by have := HC.out.lt hr; omega) (own_base ho3 (by omega)))
      have HS := Aside.mk (filledW_set rs xs.length ⟨g, xl⟩ (by omega))
      have HO3 := Aside.mk hO3
      clear hts ho3 hk3 HC HNX HO hO3 hr hcell
      go_wp2
      have hst := HO3.out.stored i (.slice (some ⟨g, 0, none⟩) xl.length xl.length)
      have HO5 := Aside.mk hst.1
      have HG5 := Aside.mk hst.2
      clear hst
      go_roundg (xs.length - (i + 1))
      case measure => omega
      case rel =>
        refine ⟨i + 1, rs ++ [⟨g, xl⟩], by omega, by go_num, ?_, HC4.out.set HG5.out, (by ((repeat (first | (with_reducible assumption) | ((with_reducible refine Keep.setCell ?_ ?_ _); rotate_left; focus (first | omega | (simp; done) | (simp; omega))) | (with_reducible refine Keep.alloc ?_ _) | (with_reducible refine Keep.drewN ?_ _) | (with_reducible refine Keep.drew ?_) | (with_reducible exact Keep.refl _) | refine Keep.trans ?_ (by with_reducible assumption) | exact Keep.refl _ | assumption))))⟩
        have := HO5.out
        rw [← hrl, HS.out] at this
        rwa [hrl] at this
    · have e2 : i = xs.length := by omega
      have hcp := HC.out
      have hw1 := hcp.words
      rw [e2, List.take_of_length_le (by rw [lw_len]; omega)] at hw1
      have hrl2 : rs.length = xs.length := by omega
      rw [← hrl2, filledW_end] at hown
      have HF : Aside (OwnL wr w.heap.size wr.heap.size (.slice (some ⟨w.heap.size, 0, none⟩) rs.length rs.length) rs) := Aside.mk
        ⟨Own.new hown, fun r hr => Own.new (hcp.inner r hr), hcp.apart, fun r hr h => by simp [Value.ownBlock] at h; exact hcp.outs r hr h.symm⟩
      have HW := Aside.mk (show lw (rws rs) = lw xs by rw [lw_rws]; exact hw1)
      have HR2 := Aside.mk hrl2
      rw [hrl2] at HF
      subst e2
      clear hown hcp hw1 HC hrl2 hrl
      go_wp2
      go_ret; exact ⟨_, rs, rfl, HR2.out, HW.out, HF.out, (by ((repeat (first | (with_reducible assumption) | ((with_reducible refine Keep.setCell ?_ ?_ _); rotate_left; focus (first | omega | (simp; done) | (simp; omega))) | (with_reducible refine Keep.alloc ?_ _) | (with_reducible refine Keep.drewN ?_ _) | (with_reducible refine Keep.drew ?_) | (with_reducible exact Keep.refl _) | refine Keep.trans ?_ (by with_reducible assumption) | exact Keep.refl _ | assumption))))⟩
end Go.Proofs.YtbbnhbfofdhnbaaDoor
namespace Go.Proofs.YtbbnhbfofdhnbaaDoor
open Go.RowKit
set_option maxHeartbeats 2000000
set_option maxRecDepth 20000
/-- What may change: blocks from B on and below H. -/
inductive Away (B H : Nat) : World → World → Prop
  | refl (w : World) : Away B H w w
  | step (w w1 w2 : World) (k : Nat) (h : Away B H w w1) (hg : w1.grownBy w2 (some k)) (hk : B ≤ k ∧ k < H) : Away B H w w2
theorem Away.own {B H : Nat} {w w' : World} (h : Away B H w w') : ∀ {B2 H2 : Nat} {T : TypeId} {sz : Nat} {v : Value} {n : Nat} {xs : List Value}, Own w B2 H2 T sz v n xs → (∀ k, v.ownBlock = some k → k < B ∨ H ≤ k) → Own w' B2 H2 T sz v n xs := by
  induction h with
  | refl => exact fun ho _ => ho
  | step w1 w2 k h hg hk ih =>
    intro B2 H2 T sz v n xs ho hne
    have h1 := ih ho hne
    refine ⟨h1.out.kept hg ?_, h1.lt⟩
    cases hv : v.ownBlock with
    | none => exact .inl rfl
    | some j =>
      refine .inr fun e => ?_
      have h2 := hne j hv
      have h3 : j = k := Option.some.inj e
      omega
theorem Away.keep {B H : Nat} {w w' : World} (h : Away B H w w') : ∀ {W : World}, Keep W w → W.heap.size ≤ B → Keep W w' := by
  induction h with
  | refl => exact fun hW _ => hW
  | step w1 w2 k h hg hk ih =>
    intro W hW hB
    exact (ih hW hB).grown hg (fun j hj => by cases hj; omega)
theorem laws_markStringSS (g n B H : Nat) (rs : List Rw) (k : Nat) (w : World) (hn : rs.length = n) (hn1 : n ≤ 1048576) (hs : sumW (lw (rws rs)) ≤ 1048576) (hk0 : 0 < k) (hk1 : k ≤ 5000000) (ho : OwnL w B H (.slice (some ⟨g, 0, none⟩) n n) rs) :
    Calls Tryd.prog 16 #[.slice (some ⟨g, 0, none⟩) n n, .int .i64 ((k : Int))] w fun e w' => ∃ m : Nat, e = .returned (.int .i64 ((m : Int))) ∧ k ≤ m ∧ m ≤ k + 1048576 ∧ Away B H w w' := by
  have HAP := Aside.mk ho.apart
  have HOU := Aside.mk ho.outs
  have hap : Aside (∀ i (h : i < rs.length), ∀ r ∈ rs.drop (i + 1), rs[i].g ≠ r.g) := Aside.mk (fun i h r hr => by
    have h1 := HAP.out
    rw [← List.take_append_drop i rs, List.pairwise_append, List.drop_eq_getElem_cons h] at h1
    exact (List.pairwise_cons.1 h1.2.1).1 r hr)
  have hlt2 : Aside (∀ i (h : i < rs.length), B ≤ rs[i].g ∧ rs[i].g < H) := Aside.mk (fun i h => (ho.inner rs[i] (List.getElem_mem h)).lt rs[i].g rfl)
  have hls : Aside (∀ i (h : i < rs.length), sumW ((lw (rws rs)).take i) + rs[i].l.length ≤ sumW ((lw (rws rs)).take (i + 1)) ∧ sumW ((lw (rws rs)).take (i + 1)) ≤ 1048576) := Aside.mk (fun i h => by
    have h2 : i < (lw (rws rs)).length := by rw [lw_rws, List.length_map]; exact h
    have h1 := sumW_take h2
    have h3 : (lw (rws rs))[i] = rs[i].l := by simp only [lw_rws, List.getElem_map]
    have h4 := sumW_le (lw (rws rs)) (i + 1)
    rw [h3] at h1
    omega)
  have hst : Aside (∀ i (h : i < rs.length), (sls (rws rs))[i]? = some (.slice (some ⟨rs[i].g, 0, none⟩) rs[i].l.length rs[i].l.length)) := Aside.mk (fun i h => by
    rw [sls_at _ _ (by rw [rws_len]; exact h)]; simp [rws, rwW])
  have hdr : Aside (∀ i (h : i < rs.length), rs.drop i = rs[i] :: rs.drop (i + 1)) := Aside.mk (fun i h => List.drop_eq_getElem_cons h)
  have HO0 := Aside.mk ho.outer
  have HI0 : Aside (∀ r ∈ rs.drop 0, ∃ ys, Own w B H 9 1 (.slice (some ⟨r.g, 0, none⟩) r.l.length r.l.length) r.l.length ys) := Aside.mk (fun r hr => ⟨_, ho.inner r (by simpa using hr)⟩)
  clear ho
  go_enter Tryd.func16, Tryd.ntmps16
  go_wp2_with fail
  go_loopg [1, 5] n (fun kk s1 s5 wr => ∃ i m : Nat, i + kk = n ∧ s5 = .int .i64 i ∧ s1 = .int .i64 ((m : Int)) ∧ k ≤ m ∧ m ≤ k + sumW ((lw (rws rs)).take i) ∧ Own wr B H 23 1 (.slice (some ⟨g, 0, none⟩) n n) n (sls (rws rs)) ∧ (∀ r ∈ rs.drop i, ∃ ys, Own wr B H 9 1 (.slice (some ⟨r.g, 0, none⟩) r.l.length r.l.length) r.l.length ys) ∧ Away B H w wr)
  case atStart => exact ⟨0, k, by omega, rfl, rfl, Nat.le_refl _, by omega, by rw [← hn]; rw [← hn] at HO0; exact HO0.out, HI0.out, .refl _⟩
  case round =>
    obtain ⟨i, m, hi, rfl, rfl, hkm, hmk, hO, hI, hA⟩ := hrel
    have HO := Aside.mk hO
    have HI := Aside.mk hI
    have HA := Aside.mk hA
    clear hO hI hA HI0 HO0
    by_cases hlt : i < n
    · have hlr : i < rs.length := by omega
      obtain ⟨ys, hy⟩ := HI.out rs[i] (by rw [hdr.out i hlr]; exact List.mem_cons_self)
      obtain ⟨hs1, hs2⟩ := hls.out i hlr
      have hcell := (HO.out.out.cellAt i (by omega)).trans (hst.out i hlr)
      have hgb := hlt2.out i hlr
      have HDR := Aside.mk (fun r hr => hap.out i hlr r hr)
      have HI2 : Aside (∀ r ∈ rs.drop (i + 1), ∃ ys, Own wr B H 9 1 (.slice (some ⟨r.g, 0, none⟩) r.l.length r.l.length) r.l.length ys) := Aside.mk (fun r hr => HI.out r (by rw [hdr.out i hlr]; exact List.mem_cons_of_mem _ hr))
      have HOX := Aside.mk (HOU.out rs[i] (List.getElem_mem hlr))
      have hgz := HO.out.out.lt g rfl
      have HLR := Aside.mk hlr
      have HY := Aside.mk hy
      clear HI hy
      generalize rs[i] = r at *
      clear hlr
      obtain ⟨rg, rl⟩ := r
      simp only at HY hs1 hcell hgb HDR HOX
      have hmk2 := Aside.mk (fun W ho => laws_markStringS (some ⟨rg, 0, none⟩) rl.length rl.length B ys m W (by omega) (by omega) (by omega) ho)
      (go_wp2_with fail); (go_at_call 17); (refine (hmk2.out _ HY.out.out).mono ?_); rintro e w3 ⟨rfl, hgr⟩
      have hgr2 : wr.grownBy w3 (some rg) := hgr
      have HO3 : Aside (Own w3 B H 23 1 (.slice (some ⟨g, 0, none⟩) n n) n (sls (rws rs))) := Aside.mk ⟨HO.out.out.kept hgr2 (.inr HOX.out), HO.out.lt⟩
      have HI3 : Aside (∀ r ∈ rs.drop (i + 1), ∃ ys, Own w3 B H 9 1 (.slice (some ⟨r.g, 0, none⟩) r.l.length r.l.length) r.l.length ys) := Aside.mk (fun r hr => by
        obtain ⟨zs, hz⟩ := HI2.out r hr
        refine ⟨zs, hz.out.kept hgr2 (.inr fun e => ?_), hz.lt⟩
        simp [Value.ownBlock] at e
        exact HDR.out r hr e.symm)
      have HA3 := Aside.mk (Away.step (h := HA.out) (hg := hgr2) (hk := hgb) ..)
      clear hgr hgr2 HO HA HI2 HY hmk2 HDR HOX hcell
      go_wp2
      go_roundg (n - (i + 1))
      case measure => omega
      case rel => exact ⟨i + 1, m + rl.length, by omega, by go_num, by first | rfl | (congr 1; omega) | (simp; omega), by omega, by omega, HO3.out, HI3.out, HA3.out⟩
    · have e2 : i = n := by omega
      subst e2
      have hsl := sumW_le (lw (rws rs)) i
      have hmm : m ≤ k + 1048576 := by omega
      clear hsl
      go_wp2
      go_ret; exact ⟨m, rfl, hkm, hmm, HA.out⟩
end Go.Proofs.YtbbnhbfofdhnbaaDoor

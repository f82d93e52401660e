/- Words that may be in a mask: the walks. -/
import Derived.Test.YtbbnhbfofdhnbaaDoorX7
import Derived.Test.YtbbnhbfofdhnbaaDoorX6
import Derived.Test.YtbbnhbfofdhnbaaDoorX8
import Derived.Test.YtbbnhbfofdhnbaaDoorOW
import Derived.Test.YtbbnhbfofdhnbaaDoorS1
import Derived.Test.YtbbnhbfofdhnbaaDoorS3
set_option linter.unusedVariables false
set_option linter.unusedSimpArgs false
namespace Go.Proofs.YtbbnhbfofdhnbaaDoor
open Go.RowKit
set_option maxHeartbeats 2000000
set_option maxRecDepth 20000
/-- May the word at this place be in the mask? -/
def mwAt (s z : Int) (T : List UInt8 → Nat) (a b : Wd) (l : List ByteArray) (i : Nat) : Bool := match l[i]? with
  | some x => withinB (wLo s z T x) (wHi s z T x) a b
  | none => false
theorem mwAt_at (s z : Int) (T : List UInt8 → Nat) (a b : Wd) {l : List ByteArray} {i : Nat} (h : i < l.length) : mwAt s z T a b l i = withinB (wLo s z T l[i]) (wHi s z T l[i]) a b := by
  unfold mwAt; rw [List.getElem?_eq_getElem h]
/-- The places, of the first so many, at which something holds. -/
def plN (p : Nat → Bool) : Nat → List Int
  | 0 => []
  | i + 1 => plN p i ++ (if p i then [(i : Int)] else [])
theorem plN_yes {p : Nat → Bool} {i : Nat} (h : p i = true) : plN p (i + 1) = plN p i ++ [(i : Int)] := by simp [plN, h]
theorem plN_no {p : Nat → Bool} {i : Nat} (h : p i = false) : plN p (i + 1) = plN p i := by simp [plN, h]
theorem plN_len (p : Nat → Bool) : ∀ i, (plN p i).length ≤ i
  | 0 => by simp [plN]
  | i + 1 => by
    have := plN_len p i
    cases h : p i
    · rw [plN_no h]; omega
    · rw [plN_yes h, List.length_append]; simp; omega
theorem impl_maybe (s z p : Int) (a b : Wd) (A : Option Addr) (l : List ByteArray) (c : Nat) (T : List UInt8 → Nat) (w : World) (hm : l.length ≤ 1048576) (hz : Szs l) (hR : Rd w A (strs l)) (s0 : 0 ≤ s) (z0 : 1 ≤ z) (hx : s + z ≤ 96) (hp : 0 ≤ p ∧ p ≤ 96) (hT : Tim s z p T) :
    Calls Tryd.prog 59 #[.agg #[.int .i16 s, .int .i16 z, .int .i16 p], .agg #[.int .u64 (U a), .int .u64 (U b)], .slice A l.length c] w fun e w' => ∃ v, e = .returned v ∧ w'.ownsRow w.heap.size 2 1 v (plN (mwAt s z T a b l) l.length).length (ints (plN (mwAt s z T a b l) l.length)) ∧ Keep w w' := by
  obtain ⟨i0, hi0, hz0, hz1, hz2⟩ := info_parts int64_info
  go_enter Tryd.func59, Tryd.ntmps59
  go_wp2_with fail
  go_loopg [7, 13] l.length (fun k s7 s13 wr => ∃ i : Nat, i + k = l.length ∧ s13 = .int .i64 i ∧ wr.ownsRow (w.heap.size + 2) 2 1 s7 (plN (mwAt s z T a b l) i).length (ints (plN (mwAt s z T a b l) i)) ∧ Bx wr w.heap.size #[.int .i16 s, .int .i16 z, .int .i16 p] 42 ∧ Bx wr (w.heap.size + 1) #[.int .u64 (U a), .int .u64 (U b)] 50 ∧ Keep w wr)
  case atStart => exact ⟨0, by omega, rfl, by simpa [plN, ints] using own_empty ((w.alloc (.cells #[.int .i16 s, .int .i16 z, .int .i16 p] 42)).alloc (.cells #[.int .u64 (U a), .int .u64 (U b)] 50)) (w.heap.size + 2) 2 (by first | (simp; done) | (simp; omega)), ((Bx.new _ _ _).alloc _).alloc _, (Bx.new1 _ _ _ _).alloc _, (by ((repeat (first | (with_reducible assumption) | ((with_reducible refine Keep.setCell ?_ ?_ _); rotate_left; focus (first | omega | (simp; done) | (simp; omega))) | (with_reducible refine Keep.alloc ?_ _) | (with_reducible refine Keep.drewN ?_ _) | (with_reducible refine Keep.drew ?_) | (with_reducible exact Keep.refl _) | refine Keep.trans ?_ (by with_reducible assumption) | exact Keep.refl _ | assumption))))⟩
  case round =>
    obtain ⟨i, hi, rfl, hown, hX, hM, hk0⟩ := hrel
    have HO0 := Aside.mk hown
    clear hown
    by_cases hlt : i < l.length
    · obtain ⟨bb, o, rfl, hc⟩ := (hR.keep hk0).at (k := i) (by rw [strs_len]; exact hlt)
      have hcell := hc i _ (strs_at l i hlt)
      have hzs := hz l[i] (List.getElem_mem hlt)
      have HD := Aside.mk (mwAt_at s z T a b hlt)
      have HY := Aside.mk (fun h => plN_yes (p := mwAt s z T a b l) (i := i) h)
      have HN := Aside.mk (fun h => plN_no (p := mwAt s z T a b l) (i := i) h)
      have hal := plN_len (mwAt s z T a b l) i
      have hw := fun W => impl_wordHoles s z p l[i] (T l[i].data.toList) W hzs s0 z0 hx hp (hT _)
      rw [show whLo s z (chk l[i].data.toList) (T l[i].data.toList) = wLo s z T l[i] from rfl, show whHi s z (chk l[i].data.toList) (T l[i].data.toList) = wHi s z T l[i] from rfl] at hw
      have hW := Aside.mk hw
      clear hc hzs hT hw
      generalize wLo s z T l[i] = u at *
      generalize wHi s z T l[i] = u2 at *
      generalize l[i] = x at *
      go_wp2_with fail
      refine wp_region_keep (by kernel_rfl) (by kernel_rfl) ?_
      repeat
        first
          | (apply QuietL.run
             focus go_simp
             focus
               intro w2 hk
               obtain ⟨hX_0, hX_1, hX_2, hX_3, hX_4, hX_5, hX_6⟩ := (hX.keep hk).three
               obtain ⟨hM_0, hM_1, hM_2, hM_3, hM_4⟩ := (hM.keep hk).two
               apply QAt.mk
               go_simp
               first
                 | done
                 | exact rfl
                 | (go_at_call 55; exact quiet_call hk (hW.out _))
                 | (go_at_call 38; exact quiet_call hk (impl_IsWithin _ _ _ _ _))
             simp only [Act.put, List.setIfInBounds_toArray, List.set_cons_succ, List.set_cons_zero])
          | (apply QuietL.skip
             focus go_simp
             simp only [Act.put, List.setIfInBounds_toArray, List.set_cons_succ, List.set_cons_zero])
      apply QuietL.nil
      intro w2 hk
      have hX := hX.keep hk
      obtain ⟨hX_0, hX_1, hX_2, hX_3, hX_4, hX_5, hX_6⟩ := hX.three
      have hM := hM.keep hk
      obtain ⟨hM_0, hM_1, hM_2, hM_3, hM_4⟩ := hM.two
      have HO1 := Aside.mk (own_keep HO0.out hk)
      have k1 := hk0.trans hk
      clear HO0 hk hk0 hcell
      cases hb : withinB u u2 a b
      · have E1 := Aside.mk (HN.out (by rw [HD.out]; exact hb))
        clear HY HN HD
        go_wp2
        go_roundg (l.length - (i + 1))
        case measure => omega
        case rel => exact ⟨i + 1, by omega, by go_num, by rw [E1.out]; exact HO1.out, hX, hM, (by ((repeat (first | (with_reducible assumption) | ((with_reducible refine Keep.setCell ?_ ?_ _); rotate_left; focus (first | omega | (simp; done) | (simp; omega))) | (with_reducible refine Keep.alloc ?_ _) | (with_reducible refine Keep.drewN ?_ _) | (with_reducible refine Keep.drew ?_) | (with_reducible exact Keep.refl _) | refine Keep.trans ?_ (by with_reducible assumption) | exact Keep.refl _ | assumption))))⟩
      · have E1 := Aside.mk (HY.out (by rw [HD.out]; exact hb))
        clear HY HN HD
        go_wp2_with (at_builtin; refine wpList_append_own _ rfl _ _ 26 rfl (w.heap.size + 2) 2 i0 (.int .i64 0) 1 8 Tryd.underlying26 hi0 hz0 hz1 hz2 rfl (by decide) _ _ _ rfl (own_keep HO1.out ((Keep.refl _).alloc _)) ⟨w2.heap.size, 0, none⟩ 1 1 [.int .i64 i] rfl rfl ?c1 ?c2 ?c3 ?c4 ?c5 ?_)
        case c1 =>
          intro j u hj
          match j, hj with
          | 0, hj => simp at hj; subst hj; simp [Addr.add]
        case c2 => intro u hu; simp at hu; subst hu; rfl
        case c3 => unfold maxLen; omega
        case c4 => omega
        case c5 => have := k1.size; have := hM.lt; simp; omega
        intro v' w3 hown2 hg _
        have hr : ∀ k, Value.ownBlock _ = some k → _ := HO1.out.lt
        have k2 : Keep w w3 := (k1.alloc _).grown hg (fun k hk => by have := hr _ hk; omega)
        have hX3 := (hX.alloc (.cells #[.int .i64 i] 2)).grownBy hg (fun h => by have := hr _ h.symm; omega)
        have hM3 := (hM.alloc (.cells #[.int .i64 i] 2)).grownBy hg (fun h => by have := hr _ h.symm; omega)
        have HO := Aside.mk hown2
        clear HO1 hown2 hg hr hX hM
        go_wp2
        go_roundg (l.length - (i + 1))
        case measure => omega
        case rel => exact ⟨i + 1, by omega, by go_num, by rw [E1.out]; simpa [ints] using HO.out, hX3, hM3, k2⟩
    · have e2 : i = l.length := by omega
      subst e2
      go_wp2
      go_ret; exact ⟨_, rfl, own_base HO0.out (by omega), (by ((repeat (first | (with_reducible assumption) | ((with_reducible refine Keep.setCell ?_ ?_ _); rotate_left; focus (first | omega | (simp; done) | (simp; omega))) | (with_reducible refine Keep.alloc ?_ _) | (with_reducible refine Keep.drewN ?_ _) | (with_reducible refine Keep.drew ?_) | (with_reducible exact Keep.refl _) | refine Keep.trans ?_ (by with_reducible assumption) | exact Keep.refl _ | assumption))))⟩
theorem spec_l03Maybe (s z p : Int) (g o : Nat) (a b : Wd) (A : Option Addr) (l : List ByteArray) (c : Nat) (T : List UInt8 → Nat) (w : World) (hm : l.length ≤ 1048576) (hz : Szs l) (hR : Rd w A (strs l)) (s0 : 0 ≤ s) (z0 : 1 ≤ z) (hx : s + z ≤ 96) (hp : 0 ≤ p ∧ p ≤ 96) (hT : Tim s z p T)
    (c0 : w.cell? ⟨g, o, none⟩ = some (.int .i16 s)) (c1 : w.cell? ⟨g, o + 1, none⟩ = some (.int .i16 z)) (c2 : w.cell? ⟨g, o + 2, none⟩ = some (.int .i16 p)) :
    Calls Tryd.prog 57 #[.pointer (some ⟨g, o, none⟩), .agg #[.int .u64 (U a), .int .u64 (U b)], .slice A l.length c] w fun e w' => ∃ v, e = .returned v ∧ w'.ownsRow w.heap.size 2 1 v (plN (mwAt s z T a b l) l.length).length (ints (plN (mwAt s z T a b l) l.length)) ∧ Keep w w' := by
  obtain ⟨i0, hi0, hz0, hz1, hz2⟩ := info_parts int64_info
  go_enter Tryd.func57, Tryd.ntmps57
  go_wp2_with fail
  go_loopg [7, 8] l.length (fun k s7 s8 wr => ∃ i : Nat, i + k = l.length ∧ s8 = .int .i64 i ∧ wr.ownsRow (w.heap.size + 1) 2 1 s7 (plN (mwAt s z T a b l) i).length (ints (plN (mwAt s z T a b l) i)) ∧ Bx wr w.heap.size #[.int .u64 (U a), .int .u64 (U b)] 50 ∧ Keep w wr)
  case atStart => exact ⟨0, by omega, rfl, by simpa [plN, ints] using own_empty (w.alloc (.cells #[.int .u64 (U a), .int .u64 (U b)] 50)) (w.heap.size + 1) 2 (by simp), (Bx.new _ _ _).alloc _, (by ((repeat (first | (with_reducible assumption) | ((with_reducible refine Keep.setCell ?_ ?_ _); rotate_left; focus (first | omega | (simp; done) | (simp; omega))) | (with_reducible refine Keep.alloc ?_ _) | (with_reducible refine Keep.drewN ?_ _) | (with_reducible refine Keep.drew ?_) | (with_reducible exact Keep.refl _) | refine Keep.trans ?_ (by with_reducible assumption) | exact Keep.refl _ | assumption))))⟩
  case round =>
    obtain ⟨i, hi, rfl, hown, hM, hk0⟩ := hrel
    have HO0 := Aside.mk hown
    clear hown
    by_cases hlt : i < l.length
    · obtain ⟨bb, o', rfl, hc⟩ := (hR.keep hk0).at (k := i) (by rw [strs_len]; exact hlt)
      have hcell := hc i _ (strs_at l i hlt)
      have hzs := hz l[i] (List.getElem_mem hlt)
      have HD := Aside.mk (mwAt_at s z T a b hlt)
      have HY := Aside.mk (fun h => plN_yes (p := mwAt s z T a b l) (i := i) h)
      have HN := Aside.mk (fun h => plN_no (p := mwAt s z T a b l) (i := i) h)
      have hal := plN_len (mwAt s z T a b l) i
      have d0 := hk0.cell c0
      have d1 := hk0.cell c1
      have d2 := hk0.cell c2
      have hw := fun W h1 h2 h3 => spec_l03Holes s z p l[i] (T l[i].data.toList) g o W hzs s0 z0 hx hp (hT _) h1 h2 h3
      rw [show whLo s z (chk l[i].data.toList) (T l[i].data.toList) = wLo s z T l[i] from rfl, show whHi s z (chk l[i].data.toList) (T l[i].data.toList) = wHi s z T l[i] from rfl] at hw
      have hW := Aside.mk hw
      clear hc hzs hT hw
      generalize wLo s z T l[i] = u at *
      generalize wHi s z T l[i] = u2 at *
      generalize l[i] = x at *
      go_wp2_with fail
      refine wp_region_keep (by kernel_rfl) (by kernel_rfl) ?_
      repeat
        first
          | (apply QuietL.run
             focus go_simp
             focus
               intro w2 hk
               have hcell' := hk.cell hcell
               have d0' := hk.cell d0
               have d1' := hk.cell d1
               have d2' := hk.cell d2
               obtain ⟨hM_0, hM_1, hM_2, hM_3, hM_4⟩ := (hM.keep hk).two
               apply QAt.mk
               go_simp
               first
                 | done
                 | exact rfl
                 | (go_at_call 53; exact quiet_call hk (hW.out _ d0' d1' d2'))
                 | (go_at_call 89; exact quiet_call hk (spec_IsWithin _ _ _ _ _))
             simp only [Act.put, List.setIfInBounds_toArray, List.set_cons_succ, List.set_cons_zero])
          | (apply QuietL.skip
             focus go_simp
             simp only [Act.put, List.setIfInBounds_toArray, List.set_cons_succ, List.set_cons_zero])
      apply QuietL.nil
      intro w2 hk
      have hcell' := hk.cell hcell
      have d0' := hk.cell d0
      have d1' := hk.cell d1
      have d2' := hk.cell d2
      have hM := hM.keep hk
      obtain ⟨hM_0, hM_1, hM_2, hM_3, hM_4⟩ := hM.two
      have HO1 := Aside.mk (own_keep HO0.out hk)
      have k1 := hk0.trans hk
      clear HO0 hk hk0 hcell hcell' d0 d1 d2 d0' d1' d2'
      cases hb : withinB u u2 a b
      · have E1 := Aside.mk (HN.out (by rw [HD.out]; exact hb))
        clear HY HN HD
        go_wp2
        go_roundg (l.length - (i + 1))
        case measure => omega
        case rel => exact ⟨i + 1, by omega, by go_num, by rw [E1.out]; exact HO1.out, hM, (by ((repeat (first | (with_reducible assumption) | ((with_reducible refine Keep.setCell ?_ ?_ _); rotate_left; focus (first | omega | (simp; done) | (simp; omega))) | (with_reducible refine Keep.alloc ?_ _) | (with_reducible refine Keep.drewN ?_ _) | (with_reducible refine Keep.drew ?_) | (with_reducible exact Keep.refl _) | refine Keep.trans ?_ (by with_reducible assumption) | exact Keep.refl _ | assumption))))⟩
      · have E1 := Aside.mk (HY.out (by rw [HD.out]; exact hb))
        clear HY HN HD
        go_wp2_with (at_builtin; refine wpList_append_own _ rfl _ _ 26 rfl (w.heap.size + 1) 2 i0 (.int .i64 0) 1 8 Tryd.underlying26 hi0 hz0 hz1 hz2 rfl (by decide) _ _ _ rfl (own_keep HO1.out ((Keep.refl _).alloc _)) ⟨w2.heap.size, 0, none⟩ 1 1 [.int .i64 i] rfl rfl ?c1 ?c2 ?c3 ?c4 ?c5 ?_)
        case c1 =>
          intro j u hj
          match j, hj with
          | 0, hj => simp at hj; subst hj; simp [Addr.add]
        case c2 => intro u hu; simp at hu; subst hu; rfl
        case c3 => unfold maxLen; omega
        case c4 => omega
        case c5 => have := k1.size; have := hM.lt; simp; omega
        intro v' w3 hown2 hg _
        have hr : ∀ k, Value.ownBlock _ = some k → _ := HO1.out.lt
        have k2 : Keep w w3 := (k1.alloc _).grown hg (fun k hk => by have := hr _ hk; omega)
        have hM3 := (hM.alloc (.cells #[.int .i64 i] 2)).grownBy hg (fun h => by have := hr _ h.symm; omega)
        have HO := Aside.mk hown2
        clear HO1 hown2 hg hr hM
        go_wp2
        go_roundg (l.length - (i + 1))
        case measure => omega
        case rel => exact ⟨i + 1, by omega, by go_num, by rw [E1.out]; simpa [ints] using HO.out, hM3, k2⟩
    · have e2 : i = l.length := by omega
      subst e2
      go_wp2
      go_ret; exact ⟨_, rfl, own_base HO0.out (by omega), (by ((repeat (first | (with_reducible assumption) | ((with_reducible refine Keep.setCell ?_ ?_ _); rotate_left; focus (first | omega | (simp; done) | (simp; omega))) | (with_reducible refine Keep.alloc ?_ _) | (with_reducible refine Keep.drewN ?_ _) | (with_reducible refine Keep.drew ?_) | (with_reducible exact Keep.refl _) | refine Keep.trans ?_ (by with_reducible assumption) | exact Keep.refl _ | assumption))))⟩
end Go.Proofs.YtbbnhbfofdhnbaaDoor

set_option linter.unusedVariables false
set_option linter.unusedSimpArgs false
namespace Go.Proofs.YtbbnhbfofdhnbaaDoor
open Go.RowKit
set_option maxHeartbeats 2000000
set_option maxRecDepth 20000
/-- Pairs of numbers as they lie in a row. -/
def prs (l : List (Int × Int)) : List Value := l.flatMap fun x => [.int .i64 x.1, .int .i64 x.2]
theorem prs_len (l : List (Int × Int)) : (prs l).length = l.length * 2 := by
  unfold prs
  induction l with
  | nil => rfl
  | cons x l ih => simp [List.flatMap_cons, ih]; omega
theorem prs_app (l m : List (Int × Int)) : prs (l ++ m) = prs l ++ prs m := by unfold prs; simp
theorem prs_one (x y : Int) : prs [(x, y)] = [.int .i64 x, .int .i64 y] := rfl
theorem pairE_info : (Tryd.prog.info? 70).map (fun i => (i.zero, i.size, i.bytes)) = some (some (.agg #[.int .i64 0, .int .i64 0]), 2, 16) := by kernel_rfl
theorem own_emptyP (w : World) (B : Nat) (hB : B ≤ w.heap.size) : (w.alloc (.cells #[] 70)).ownsRow B 70 2 (.slice (some ⟨w.heap.size, 0, none⟩) 0 0) 0 [] :=
  World.ownsRow_made w #[] 0 hB (by unfold maxLen; omega) (by simp)
/-- The pairs of a place with those behind it, of the first so many. -/
def akR (p : Nat → Nat → Bool) (i : Nat) : Nat → List (Int × Int)
  | 0 => []
  | m + 1 => akR p i m ++ (if i < m ∧ p i m = true then [((i : Int), (m : Int))] else [])
def akL (p : Nat → Nat → Bool) (n : Nat) : Nat → List (Int × Int)
  | 0 => []
  | i + 1 => akL p n i ++ akR p i n
theorem akR_start (p : Nat → Nat → Bool) (i : Nat) : ∀ m, m ≤ i + 1 → akR p i m = []
  | 0, _ => rfl
  | m + 1, h => by rw [akR, akR_start p i m (by omega), if_neg (by omega)]; rfl
theorem akR_yes {p : Nat → Nat → Bool} {i m : Nat} (h : i < m) (hb : p i m = true) : akR p i (m + 1) = akR p i m ++ [((i : Int), (m : Int))] := by rw [akR, if_pos ⟨h, hb⟩]
theorem akR_no {p : Nat → Nat → Bool} {i m : Nat} (hb : p i m = false) : akR p i (m + 1) = akR p i m := by rw [akR, if_neg (by simp [hb])]; simp
theorem akR_len (p : Nat → Nat → Bool) (i : Nat) : ∀ m, (akR p i m).length ≤ m
  | 0 => by simp [akR]
  | m + 1 => by
    have := akR_len p i m
    rw [akR, List.length_append]
    split <;> simp <;> omega
theorem akL_len (p : Nat → Nat → Bool) (n : Nat) : ∀ i, (akL p n i).length ≤ i * n
  | 0 => by simp [akL]
  | i + 1 => by
    have h1 := akL_len p n i
    have h2 := akR_len p i n
    rw [akL, List.length_append, Nat.add_mul]; omega
/-- Have the words at two places the same holes? -/
def akP (s z : Int) (T : List UInt8 → Nat) (l : List ByteArray) (i k : Nat) : Bool := match l[i]?, l[k]? with
  | some x, some y => (wLo s z T x == wLo s z T y) && (wHi s z T x == wHi s z T y)
  | _, _ => false
theorem akP_at (s z : Int) (T : List UInt8 → Nat) {l : List ByteArray} {i k : Nat} (h1 : i < l.length) (h2 : k < l.length) : akP s z T l i k = ((wLo s z T l[i] == wLo s z T l[k]) && (wHi s z T l[i] == wHi s z T l[k])) := by
  unfold akP; rw [List.getElem?_eq_getElem h1, List.getElem?_eq_getElem h2]
def akAll (s z : Int) (T : List UInt8 → Nat) (l : List ByteArray) : List (Int × Int) := akL (akP s z T l) l.length l.length
def alE (s z p : Int) (l : List ByteArray) : Int := ckE s z p l 40
def alL (s z p : Int) (T : List UInt8 → Nat) (l : List ByteArray) : List (Int × Int) := cond (alE s z p l == 0) (akAll s z T l) []
theorem alE_cases (s z p : Int) (l : List ByteArray) : (alE s z p l = 0 ∧ mixB s z p = true ∧ wsB l 40 = true ∧ l.length ≤ 40) ∨ (alE s z p l ≠ 0 ∧ (mixB s z p = false ∨ (mixB s z p = true ∧ wsB l 40 = false))) := by
  unfold alE ckE
  cases h1 : mixB s z p
  · right; simp
  · cases h3 : wsB l 40
    · right; simp [wsE, h3]
    · left
      refine ⟨by simp [wsE, h3], rfl, rfl, ?_⟩
      unfold wsB at h3; simp at h3; omega
theorem alL_no {s z p : Int} {T : List UInt8 → Nat} {l : List ByteArray} (h : alE s z p l ≠ 0) : alL s z p T l = [] := by
  unfold alL
  have : (alE s z p l == 0) = false := by simpa using h
  rw [this]; rfl
theorem alL_yes {s z p : Int} {T : List UInt8 → Nat} {l : List ByteArray} (h : alE s z p l = 0) : alL s z p T l = akAll s z T l := by
  unfold alL; rw [h]; rfl
theorem impl_AlikeWords (s z p : Int) (A : Option Addr) (l : List ByteArray) (c : Nat) (T : List UInt8 → Nat) (w : World) (hw : I16 s ∧ I16 z ∧ I16 p) (hm : l.length ≤ 9223372036854775807) (hz : Szs l) (hR : Rd w A (strs l)) (hT : MTim s z p T) :
    Calls Tryd.prog 22 #[.agg #[.int .i16 s, .int .i16 z, .int .i16 p], .slice A l.length c] w fun e w' => ∃ v, e = .returned (.tuple #[v, .int .i64 (alE s z p l)]) ∧ w'.ownsRow w.heap.size 70 2 v (alL s z p T l).length (prs (alL s z p T l)) ∧ Keep w w' := by
  have hB : Bx (w.alloc (.cells #[.int .i16 s, .int .i16 z, .int .i16 p] 42)) w.heap.size #[.int .i16 s, .int .i16 z, .int .i16 p] 42 := Bx.new _ _ _
  have hI := Aside.mk (fun W => impl_isMix s z p W hw.2.1 hw.2.2 hw.1)
  have hJ := Aside.mk (fun W h => impl_areWords A l c 40 W hm hz h)
  rcases alE_cases s z p l with ⟨h0, h1, h2, h40⟩ | ⟨h0, h1 | ⟨h1, h2⟩⟩
  · rw [alL_yes h0, h0]
    rw [h1] at hI
    rw [h2] at hJ
    have hmf := mix_facts h1
    obtain ⟨m1, m2, m3, m4⟩ : 0 ≤ s ∧ 1 ≤ z ∧ s + z ≤ 96 ∧ (0 ≤ p ∧ p ≤ 96) := ⟨hmf.1, by omega, hmf.2.2.1, by omega, by omega⟩
    have HT := Aside.mk (hT h1)
    unfold akAll
    clear hT h0 hmf
    obtain ⟨i0, hi0, hz0, hz1, hz2⟩ := info_parts pairE_info
    go_enter Tryd.func22, Tryd.ntmps22
    (go_wp2_with fail); (go_at_call 54); (refine (hI.out _).mono ?_); rintro e w1 ⟨rfl, hk1⟩
    (go_wp2_with fail); (go_at_call 48); (refine (hJ.out _ (hR.keep (((Keep.refl w).alloc _).trans hk1))).mono ?_); rintro e w2 ⟨rfl, hk2⟩
    have hX := (hB.keep hk1).keep hk2
    have kk : Keep w w2 := (by ((repeat (first | (with_reducible assumption) | ((with_reducible refine Keep.setCell ?_ ?_ _); rotate_left; focus (first | omega | (simp; done) | (simp; omega))) | (with_reducible refine Keep.alloc ?_ _) | (with_reducible refine Keep.drewN ?_ _) | (with_reducible refine Keep.drew ?_) | (with_reducible exact Keep.refl _) | refine Keep.trans ?_ (by with_reducible assumption) | exact Keep.refl _ | assumption))))
    clear hk1 hk2 hB hI hJ
    go_wp2_with fail
    go_loopg [6, 19] l.length (fun k s6 s19 wr => ∃ (i : Nat) (v6 : Value), i + k = l.length ∧ s19 = .int .i64 i ∧ s6 = v6 ∧ wr.ownsRow (w.heap.size + 1) 70 2 v6 (akL (akP s z T l) l.length i).length (prs (akL (akP s z T l) l.length i)) ∧ Bx wr w.heap.size #[.int .i16 s, .int .i16 z, .int .i16 p] 42 ∧ Keep w wr)
    case atStart => exact ⟨0, _, by omega, rfl, rfl, own_emptyP w2 _ (by have := hX.lt; omega), hX.alloc _, (by ((repeat (first | (with_reducible assumption) | ((with_reducible refine Keep.setCell ?_ ?_ _); rotate_left; focus (first | omega | (simp; done) | (simp; omega))) | (with_reducible refine Keep.alloc ?_ _) | (with_reducible refine Keep.drewN ?_ _) | (with_reducible refine Keep.drew ?_) | (with_reducible exact Keep.refl _) | refine Keep.trans ?_ (by with_reducible assumption) | exact Keep.refl _ | assumption))))⟩
    case round =>
      obtain ⟨i, v6, hi, rfl, hv6, hown, hX0, hk0⟩ := hrel
      obtain rfl := hv6.symm
      have HO0 := Aside.mk hown
      have HX0 := Aside.mk hX0
      clear hown hX hX0
      by_cases hlt : i < l.length
      · obtain ⟨bi, oi, hA, hci⟩ := (hR.keep hk0).at (k := i) (by rw [strs_len]; exact hlt)
        have HCI := Aside.mk (strs_at l i hlt)
        have hzi := hz l[i] (List.getElem_mem hlt)
        have HD := Aside.mk (fun k (hk : k < l.length) => akP_at s z T hlt hk)
        have hwi := fun W => impl_wordHoles s z p l[i] (T l[i].data.toList) W hzi m1 m2 m3 m4 (HT.out _)
        rw [show whLo s z (chk l[i].data.toList) (T l[i].data.toList) = wLo s z T l[i] from rfl, show whHi s z (chk l[i].data.toList) (T l[i].data.toList) = wHi s z T l[i] from rfl] at hwi
        have hWI := Aside.mk hwi
        have hal := akL_len (akP s z T l) l.length i
        have HST := Aside.mk (akR_start (akP s z T l) i (i + 1) (Nat.le_refl _))
        have HNX := Aside.mk (show akL (akP s z T l) l.length (i + 1) = akL (akP s z T l) l.length i ++ akR (akP s z T l) i l.length from rfl)
        subst hA
        have hcell := hci i _ HCI.out
        clear hci hzi hwi HCI
        generalize wLo s z T l[i] = a1 at *
        generalize wHi s z T l[i] = b1 at *
        generalize l[i] = x at *
        generalize akL (akP s z T l) l.length i = L0 at *
        go_wp2_with fail
        go_loopg [6, 9] (l.length - (i + 1)) (fun k2 s6 s9 wq => ∃ (j : Nat) (u6 : Value), j + k2 = l.length ∧ i + 1 ≤ j ∧ s9 = .int .i64 j ∧ s6 = u6 ∧ wq.ownsRow (w.heap.size + 1) 70 2 u6 (L0 ++ akR (akP s z T l) i j).length (prs (L0 ++ akR (akP s z T l) i j)) ∧ Bx wq w.heap.size #[.int .i16 s, .int .i16 z, .int .i16 p] 42 ∧ Keep w wq)
        case atStart => exact ⟨i + 1, _, by omega, Nat.le_refl _, by go_num, rfl, by rw [HST.out, List.append_nil]; exact HO0.out, HX0.out, (by ((repeat (first | (with_reducible assumption) | ((with_reducible refine Keep.setCell ?_ ?_ _); rotate_left; focus (first | omega | (simp; done) | (simp; omega))) | (with_reducible refine Keep.alloc ?_ _) | (with_reducible refine Keep.drewN ?_ _) | (with_reducible refine Keep.drew ?_) | (with_reducible exact Keep.refl _) | refine Keep.trans ?_ (by with_reducible assumption) | exact Keep.refl _ | assumption))))⟩
        case round =>
          obtain ⟨j, u6, hj, hij, rfl, hu6, hown2, hXq, hkq⟩ := hrel
          obtain rfl := hu6.symm
          have HOq := Aside.mk hown2
          clear hown2
          by_cases hjl : j < l.length
          · obtain ⟨b2, o2, e2, hc2⟩ := (hR.keep hkq).at (k := j) (by rw [strs_len]; exact hjl)
            obtain ⟨rfl, rfl⟩ : bi = b2 ∧ oi = o2 := by simpa using e2
            have p1 := hc2 j _ (strs_at l j hjl)
            have hzj := hz l[j] (List.getElem_mem hjl)
            have HDj := Aside.mk (HD.out j hjl)
            have hwj := fun W => impl_wordHoles s z p l[j] (T l[j].data.toList) W hzj m1 m2 m3 m4 (HT.out _)
            rw [show whLo s z (chk l[j].data.toList) (T l[j].data.toList) = wLo s z T l[j] from rfl, show whHi s z (chk l[j].data.toList) (T l[j].data.toList) = wHi s z T l[j] from rfl] at hwj
            have hWJ := Aside.mk hwj
            have HY := Aside.mk (fun h => akR_yes (p := akP s z T l) (i := i) (m := j) (by omega) h)
            have HN := Aside.mk (fun h => akR_no (p := akP s z T l) (i := i) (m := j) h)
            have har := akR_len (akP s z T l) i j
            clear hc2 hzj hwj e2
            generalize wLo s z T l[j] = a2 at *
            generalize wHi s z T l[j] = b2 at *
            generalize l[j] = y at *
            go_wp2_with fail
            refine wp_region_keep (by kernel_rfl) (by kernel_rfl) ?_
            repeat
              first
                | (apply QuietL.run
                   focus go_simp
                   focus
                     intro w2 hk
                     have p1' := hk.cell p1
                     obtain ⟨hXq_0, hXq_1, hXq_2, hXq_3, hXq_4, hXq_5, hXq_6⟩ := (hXq.keep hk).three
                     apply QAt.mk
                     go_simp
                     first
                       | done
                       | exact rfl
                       | (go_at_call 55; with_reducible exact quiet_call hk (hWI.out _))
                       | (go_at_call 55; with_reducible exact quiet_call hk (hWJ.out _))
                   simp only [Act.put, List.setIfInBounds_toArray, List.set_cons_succ, List.set_cons_zero])
                | (apply QuietL.skip
                   focus go_simp
                   simp only [Act.put, List.setIfInBounds_toArray, List.set_cons_succ, List.set_cons_zero])
            apply QuietL.nil
            intro w2 hk
            have p1' := hk.cell p1
            have hXq := hXq.keep hk
            obtain ⟨hXq_0, hXq_1, hXq_2, hXq_3, hXq_4, hXq_5, hXq_6⟩ := hXq.three
            have HO1 := Aside.mk (own_keep HOq.out hk)
            have k1 := hkq.trans hk
            clear HOq hk hkq p1 p1'
            cases hb : (a1 == a2 && b1 == b2)
            · have E1 := Aside.mk (HN.out (by rw [HDj.out]; exact hb))
              clear HY HN HD HDj
              go_wp2
              go_roundg (l.length - (j + 1))
              case measure => omega
              case rel => exact ⟨j + 1, _, by omega, by omega, by go_num, rfl, by rw [E1.out]; exact HO1.out, hXq, (by ((repeat (first | (with_reducible assumption) | ((with_reducible refine Keep.setCell ?_ ?_ _); rotate_left; focus (first | omega | (simp; done) | (simp; omega))) | (with_reducible refine Keep.alloc ?_ _) | (with_reducible refine Keep.drewN ?_ _) | (with_reducible refine Keep.drew ?_) | (with_reducible exact Keep.refl _) | refine Keep.trans ?_ (by with_reducible assumption) | exact Keep.refl _ | assumption))))⟩
            · have E1 := Aside.mk (HY.out (by rw [HDj.out]; exact hb))
              have HLL : (L0 ++ akR (akP s z T l) i j).length ≤ 3200 := by
                have : i * l.length ≤ 40 * 40 := Nat.mul_le_mul (by omega) h40
                rw [List.length_append]; omega
              clear HY HN HD HDj
              go_wp2_with (at_builtin; refine wpList_append_own _ rfl _ _ 39 rfl (w.heap.size + 1) 70 i0 (.agg #[.int .i64 0, .int .i64 0]) 2 16 Tryd.underlying39 hi0 hz0 hz1 hz2 rfl (by decide) _ _ _ rfl (own_keep HO1.out ((Keep.refl _).alloc _)) ⟨w2.heap.size, 0, none⟩ 1 1 [.int .i64 i, .int .i64 j] rfl rfl ?c1 ?c2 ?c3 ?c4 ?c5 ?_)
              case c1 =>
                intro y u hu
                match y, hu with
                | 0, hu => simp at hu; subst hu; simp [Addr.add]
                | 1, hu => simp at hu; subst hu; simp [Addr.add]
              case c2 => intro u hu; simp at hu; rcases hu with rfl | rfl <;> rfl
              case c3 => unfold maxLen; omega
              case c4 => omega
              case c5 => have := k1.size; have := hXq.lt; simp; omega
              intro v' w3 hown2 hg _
              have hr : ∀ k, Value.ownBlock _ = some k → _ := HO1.out.lt
              have k2 : Keep w w3 := (k1.alloc _).grown hg (fun k hk => by have := hr _ hk; omega)
              have hX3 := (hXq.alloc (.cells #[.int .i64 i, .int .i64 j] 70)).grownBy hg (fun h => by have := hr _ h.symm; omega)
              have HO := Aside.mk hown2
              clear HO1 hown2 hg hr hXq
              go_wp2
              go_roundg (l.length - (j + 1))
              case measure => omega
              case rel => exact ⟨j + 1, _, by omega, by omega, by go_num, rfl, by rw [E1.out, ← List.append_assoc, prs_app, prs_one, List.length_append, List.length_append]; exact HO.out, hX3, k2⟩
          · obtain rfl : j = l.length := by omega
            go_wp2
            go_roundg (l.length - (i + 1))
            case measure => omega
            case rel => exact ⟨i + 1, _, by omega, by go_num, rfl, by rw [HNX.out]; exact HOq.out, hXq, (by ((repeat (first | (with_reducible assumption) | ((with_reducible refine Keep.setCell ?_ ?_ _); rotate_left; focus (first | omega | (simp; done) | (simp; omega))) | (with_reducible refine Keep.alloc ?_ _) | (with_reducible refine Keep.drewN ?_ _) | (with_reducible refine Keep.drew ?_) | (with_reducible exact Keep.refl _) | refine Keep.trans ?_ (by with_reducible assumption) | exact Keep.refl _ | assumption))))⟩
      · obtain rfl : i = l.length := by omega
        have hX0 := HX0.out
        clear HX0
        go_wp2
        go_ret2; exact ⟨_, rfl, own_base HO0.out (by omega), (by ((repeat (first | (with_reducible assumption) | ((with_reducible refine Keep.setCell ?_ ?_ _); rotate_left; focus (first | omega | (simp; done) | (simp; omega))) | (with_reducible refine Keep.alloc ?_ _) | (with_reducible refine Keep.drewN ?_ _) | (with_reducible refine Keep.drew ?_) | (with_reducible exact Keep.refl _) | refine Keep.trans ?_ (by with_reducible assumption) | exact Keep.refl _ | assumption))))⟩
  · rw [alL_no h0]
    rw [show alE s z p l = 1 by unfold alE ckE; rw [h1]; rfl]
    rw [h1] at hI
    clear hJ hB hT
    go_enter Tryd.func22, Tryd.ntmps22
    (go_wp2_with fail); (go_at_call 54); (refine (hI.out _).mono ?_); rintro e w1 ⟨rfl, hk1⟩
    go_wp2
    go_ret2; exact ⟨_, rfl, World.ownsRow_nil _ _ _ _, (by ((repeat (first | (with_reducible assumption) | ((with_reducible refine Keep.setCell ?_ ?_ _); rotate_left; focus (first | omega | (simp; done) | (simp; omega))) | (with_reducible refine Keep.alloc ?_ _) | (with_reducible refine Keep.drewN ?_ _) | (with_reducible refine Keep.drew ?_) | (with_reducible exact Keep.refl _) | refine Keep.trans ?_ (by with_reducible assumption) | exact Keep.refl _ | assumption))))⟩
  · rw [alL_no h0]
    rw [show alE s z p l = 2 by unfold alE ckE wsE; rw [h1, h2]; rfl]
    rw [h1] at hI
    rw [h2] at hJ
    clear hB hT
    go_enter Tryd.func22, Tryd.ntmps22
    (go_wp2_with fail); (go_at_call 54); (refine (hI.out _).mono ?_); rintro e w1 ⟨rfl, hk1⟩
    (go_wp2_with fail); (go_at_call 48); (refine (hJ.out _ (hR.keep (((Keep.refl w).alloc _).trans hk1))).mono ?_); rintro e w2 ⟨rfl, hk2⟩
    go_wp2
    go_ret2; exact ⟨_, rfl, World.ownsRow_nil _ _ _ _, (by ((repeat (first | (with_reducible assumption) | ((with_reducible refine Keep.setCell ?_ ?_ _); rotate_left; focus (first | omega | (simp; done) | (simp; omega))) | (with_reducible refine Keep.alloc ?_ _) | (with_reducible refine Keep.drewN ?_ _) | (with_reducible refine Keep.drew ?_) | (with_reducible exact Keep.refl _) | refine Keep.trans ?_ (by with_reducible assumption) | exact Keep.refl _ | assumption))))⟩
end Go.Proofs.YtbbnhbfofdhnbaaDoor

set_option linter.unusedVariables false
set_option linter.unusedSimpArgs false
namespace Go.Proofs.YtbbnhbfofdhnbaaDoor
open Go.RowKit
set_option maxHeartbeats 2000000
set_option maxRecDepth 20000
theorem spec_AlikeWords (s z p : Int) (A : Option Addr) (l : List ByteArray) (c : Nat) (T : List UInt8 → Nat) (w : World) (hw : I16 s ∧ I16 z ∧ I16 p) (hm : l.length ≤ 9223372036854775807) (hz : Szs l) (hR : Rd w A (strs l)) (hT : MTim s z p T) :
    Calls Tryd.prog 20 #[.agg #[.int .i16 s, .int .i16 z, .int .i16 p], .slice A l.length c] w fun e w' => ∃ v, e = .returned (.tuple #[v, .int .i64 (alE s z p l)]) ∧ w'.ownsRow w.heap.size 70 2 v (alL s z p T l).length (prs (alL s z p T l)) ∧ Keep w w' := by
  have hB : Bx (w.alloc (.cells #[.int .i16 s, .int .i16 z, .int .i16 p] 42)) w.heap.size #[.int .i16 s, .int .i16 z, .int .i16 p] 42 := Bx.new _ _ _
  have HX := Aside.mk (hB.alloc (.cells #[] 50))
  have hJ : ∀ W g, Rd W A (strs l) → Bx W w.heap.size #[.int .i16 s, .int .i16 z, .int .i16 p] 42 → Calls Tryd.prog 52 #[.pointer (some ⟨w.heap.size, 0, none⟩), .slice (some ⟨g, 0, none⟩) 0 0, .slice A l.length c, .int .i64 40] W fun e w' => e = .returned (.int .i64 (alE s z p l)) ∧ Keep W w' :=
    fun W g h hX => by
      obtain ⟨b0, b1, b2, _⟩ := hX.three
      exact spec_l03Asked0 s z p w.heap.size 0 (some ⟨g, 0, none⟩) 0 A l c 40 W hw hm hz h b0 b1 b2
  clear hB
  rcases alE_cases s z p l with ⟨h0, h1, h2, h40⟩ | ⟨h0, h1⟩
  · rw [alL_yes h0, h0]
    rw [h0] at hJ
    have hmf := mix_facts h1
    obtain ⟨m1, m2, m3, m4⟩ : 0 ≤ s ∧ 1 ≤ z ∧ s + z ≤ 96 ∧ (0 ≤ p ∧ p ≤ 96) := ⟨hmf.1, by omega, hmf.2.2.1, by omega, by omega⟩
    have HT := Aside.mk (hT h1)
    unfold akAll
    clear hT hmf
    obtain ⟨i0, hi0, hz0, hz1, hz2⟩ := info_parts pairE_info
    go_enter Tryd.func20, Tryd.ntmps20
    (go_wp2_with fail); (go_at_call 52); (refine (hJ _ _ (hR.keep (((Keep.refl w).alloc _).alloc _)) HX.out).mono ?_); rintro e w2 ⟨rfl, hk2⟩
    have hX := HX.out.keep hk2
    have kk : Keep w w2 := (by ((repeat (first | (with_reducible assumption) | ((with_reducible refine Keep.setCell ?_ ?_ _); rotate_left; focus (first | omega | (simp; done) | (simp; omega))) | (with_reducible refine Keep.alloc ?_ _) | (with_reducible refine Keep.drewN ?_ _) | (with_reducible refine Keep.drew ?_) | (with_reducible exact Keep.refl _) | refine Keep.trans ?_ (by with_reducible assumption) | exact Keep.refl _ | assumption))))
    clear hk2 HX hJ
    go_wp2_with fail
    go_loopg [7, 8] l.length (fun k s6 s19 wr => ∃ (i : Nat) (v6 : Value), i + k = l.length ∧ s19 = .int .i64 i ∧ s6 = v6 ∧ wr.ownsRow (w.heap.size + 1) 70 2 v6 (akL (akP s z T l) l.length i).length (prs (akL (akP s z T l) l.length i)) ∧ Bx wr w.heap.size #[.int .i16 s, .int .i16 z, .int .i16 p] 42 ∧ Keep w wr)
    case atStart => exact ⟨0, _, by omega, rfl, rfl, own_emptyP w2 _ (by have := hX.lt; omega), hX.alloc _, (by ((repeat (first | (with_reducible assumption) | ((with_reducible refine Keep.setCell ?_ ?_ _); rotate_left; focus (first | omega | (simp; done) | (simp; omega))) | (with_reducible refine Keep.alloc ?_ _) | (with_reducible refine Keep.drewN ?_ _) | (with_reducible refine Keep.drew ?_) | (with_reducible exact Keep.refl _) | refine Keep.trans ?_ (by with_reducible assumption) | exact Keep.refl _ | assumption))))⟩
    case round =>
      obtain ⟨i, v6, hi, rfl, hv6, hown, hX0, hk0⟩ := hrel
      obtain rfl := hv6.symm
      have HO0 := Aside.mk hown
      have HX0 := Aside.mk hX0
      clear hown hX hX0
      by_cases hlt : i < l.length
      · obtain ⟨bi, oi, hA, hci⟩ := (hR.keep hk0).at (k := i) (by rw [strs_len]; exact hlt)
        have HCI := Aside.mk (strs_at l i hlt)
        have hzi := hz l[i] (List.getElem_mem hlt)
        have HD := Aside.mk (fun k (hk : k < l.length) => akP_at s z T hlt hk)
        have hwi := fun W h1 h2 h3 => spec_l03Holes s z p l[i] (T l[i].data.toList) w.heap.size 0 W hzi m1 m2 m3 m4 (HT.out _) h1 h2 h3
        rw [show whLo s z (chk l[i].data.toList) (T l[i].data.toList) = wLo s z T l[i] from rfl, show whHi s z (chk l[i].data.toList) (T l[i].data.toList) = wHi s z T l[i] from rfl] at hwi
        have hWI := Aside.mk hwi
        have hal := akL_len (akP s z T l) l.length i
        have HST := Aside.mk (akR_start (akP s z T l) i (i + 1) (Nat.le_refl _))
        have HNX := Aside.mk (show akL (akP s z T l) l.length (i + 1) = akL (akP s z T l) l.length i ++ akR (akP s z T l) i l.length from rfl)
        subst hA
        clear hci hzi hwi
        generalize wLo s z T l[i] = a1 at *
        generalize wHi s z T l[i] = b1 at *
        generalize l[i] = x at *
        generalize akL (akP s z T l) l.length i = L0 at *
        go_wp2_with fail
        go_loopg [7, 9] (l.length - (i + 1)) (fun k2 s6 s9 wq => ∃ (j : Nat) (u6 : Value), j + k2 = l.length ∧ i + 1 ≤ j ∧ s9 = .int .i64 j ∧ s6 = u6 ∧ wq.ownsRow (w.heap.size + 1) 70 2 u6 (L0 ++ akR (akP s z T l) i j).length (prs (L0 ++ akR (akP s z T l) i j)) ∧ Bx wq w.heap.size #[.int .i16 s, .int .i16 z, .int .i16 p] 42 ∧ Keep w wq)
        case atStart => exact ⟨i + 1, _, by omega, Nat.le_refl _, by go_num, rfl, by rw [HST.out, List.append_nil]; exact HO0.out, HX0.out, (by ((repeat (first | (with_reducible assumption) | ((with_reducible refine Keep.setCell ?_ ?_ _); rotate_left; focus (first | omega | (simp; done) | (simp; omega))) | (with_reducible refine Keep.alloc ?_ _) | (with_reducible refine Keep.drewN ?_ _) | (with_reducible refine Keep.drew ?_) | (with_reducible exact Keep.refl _) | refine Keep.trans ?_ (by with_reducible assumption) | exact Keep.refl _ | assumption))))⟩
        case round =>
          obtain ⟨j, u6, hj, hij, rfl, hu6, hown2, hXq, hkq⟩ := hrel
          obtain rfl := hu6.symm
          have HOq := Aside.mk hown2
          clear hown2
          by_cases hjl : j < l.length
          · obtain ⟨b2, o2, e2, hc2⟩ := (hR.keep hkq).at (k := j) (by rw [strs_len]; exact hjl)
            obtain ⟨rfl, rfl⟩ : bi = b2 ∧ oi = o2 := by simpa using e2
            have p0 := hc2 i _ HCI.out
            have p1 := hc2 j _ (strs_at l j hjl)
            have hzj := hz l[j] (List.getElem_mem hjl)
            have HDj := Aside.mk (HD.out j hjl)
            have hwj := fun W h1 h2 h3 => spec_l03Holes s z p l[j] (T l[j].data.toList) w.heap.size 0 W hzj m1 m2 m3 m4 (HT.out _) h1 h2 h3
            rw [show whLo s z (chk l[j].data.toList) (T l[j].data.toList) = wLo s z T l[j] from rfl, show whHi s z (chk l[j].data.toList) (T l[j].data.toList) = wHi s z T l[j] from rfl] at hwj
            have hWJ := Aside.mk hwj
            have HY := Aside.mk (fun h => akR_yes (p := akP s z T l) (i := i) (m := j) (by omega) h)
            have HN := Aside.mk (fun h => akR_no (p := akP s z T l) (i := i) (m := j) h)
            have har := akR_len (akP s z T l) i j
            clear hc2 hzj hwj e2
            generalize wLo s z T l[j] = a2 at *
            generalize wHi s z T l[j] = b2 at *
            generalize l[j] = y at *
            go_wp2_with fail
            refine wp_region_keep (by kernel_rfl) (by kernel_rfl) ?_
            repeat
              first
                | (apply QuietL.run
                   focus go_simp
                   focus
                     intro w2 hk
                     have p0' := hk.cell p0
                     have p1' := hk.cell p1
                     obtain ⟨hXq_0, hXq_1, hXq_2, hXq_3, hXq_4, hXq_5, hXq_6⟩ := (hXq.keep hk).three
                     apply QAt.mk
                     go_simp
                     first
                       | done
                       | exact rfl
                       | (go_at_call 53; with_reducible exact quiet_call hk (hWI.out _ hXq_0 hXq_1 hXq_2))
                       | (go_at_call 53; with_reducible exact quiet_call hk (hWJ.out _ hXq_0 hXq_1 hXq_2))
                   simp only [Act.put, List.setIfInBounds_toArray, List.set_cons_succ, List.set_cons_zero])
                | (apply QuietL.skip
                   focus go_simp
                   simp only [Act.put, List.setIfInBounds_toArray, List.set_cons_succ, List.set_cons_zero])
            apply QuietL.nil
            intro w2 hk
            have p0' := hk.cell p0
            have p1' := hk.cell p1
            have hXq := hXq.keep hk
            obtain ⟨hXq_0, hXq_1, hXq_2, hXq_3, hXq_4, hXq_5, hXq_6⟩ := hXq.three
            have HO1 := Aside.mk (own_keep HOq.out hk)
            have k1 := hkq.trans hk
            clear HOq hk hkq p0 p0' p1 p1'
            cases hb : (a1 == a2 && b1 == b2)
            · have E1 := Aside.mk (HN.out (by rw [HDj.out]; exact hb))
              clear HY HN HD HDj
              go_wp2
              go_roundg (l.length - (j + 1))
              case measure => omega
              case rel => exact ⟨j + 1, _, by omega, by omega, by go_num, rfl, by rw [E1.out]; exact HO1.out, hXq, (by ((repeat (first | (with_reducible assumption) | ((with_reducible refine Keep.setCell ?_ ?_ _); rotate_left; focus (first | omega | (simp; done) | (simp; omega))) | (with_reducible refine Keep.alloc ?_ _) | (with_reducible refine Keep.drewN ?_ _) | (with_reducible refine Keep.drew ?_) | (with_reducible exact Keep.refl _) | refine Keep.trans ?_ (by with_reducible assumption) | exact Keep.refl _ | assumption))))⟩
            · have E1 := Aside.mk (HY.out (by rw [HDj.out]; exact hb))
              have HLL : (L0 ++ akR (akP s z T l) i j).length ≤ 3200 := by
                have : i * l.length ≤ 40 * 40 := Nat.mul_le_mul (by omega) h40
                rw [List.length_append]; omega
              clear HY HN HD HDj
              go_wp2_with (at_builtin; refine wpList_append_own _ rfl _ _ 39 rfl (w.heap.size + 1) 70 i0 (.agg #[.int .i64 0, .int .i64 0]) 2 16 Tryd.underlying39 hi0 hz0 hz1 hz2 rfl (by decide) _ _ _ rfl (own_keep HO1.out ((Keep.refl _).alloc _)) ⟨w2.heap.size, 0, none⟩ 1 1 [.int .i64 i, .int .i64 j] rfl rfl ?c1 ?c2 ?c3 ?c4 ?c5 ?_)
              case c1 =>
                intro y u hu
                match y, hu with
                | 0, hu => simp at hu; subst hu; simp [Addr.add]
                | 1, hu => simp at hu; subst hu; simp [Addr.add]
              case c2 => intro u hu; simp at hu; rcases hu with rfl | rfl <;> rfl
              case c3 => unfold maxLen; omega
              case c4 => omega
              case c5 => have := k1.size; have := hXq.lt; simp; omega
              intro v' w3 hown2 hg _
              have hr : ∀ k, Value.ownBlock _ = some k → _ := HO1.out.lt
              have k2 : Keep w w3 := (k1.alloc _).grown hg (fun k hk => by have := hr _ hk; omega)
              have hX3 := (hXq.alloc (.cells #[.int .i64 i, .int .i64 j] 70)).grownBy hg (fun h => by have := hr _ h.symm; omega)
              have HO := Aside.mk hown2
              clear HO1 hown2 hg hr hXq
              go_wp2
              go_roundg (l.length - (j + 1))
              case measure => omega
              case rel => exact ⟨j + 1, _, by omega, by omega, by go_num, rfl, by rw [E1.out, ← List.append_assoc, prs_app, prs_one, List.length_append, List.length_append]; exact HO.out, hX3, k2⟩
          · obtain rfl : j = l.length := by omega
            go_wp2
            go_roundg (l.length - (i + 1))
            case measure => omega
            case rel => exact ⟨i + 1, _, by omega, by go_num, rfl, by rw [HNX.out]; exact HOq.out, hXq, (by ((repeat (first | (with_reducible assumption) | ((with_reducible refine Keep.setCell ?_ ?_ _); rotate_left; focus (first | omega | (simp; done) | (simp; omega))) | (with_reducible refine Keep.alloc ?_ _) | (with_reducible refine Keep.drewN ?_ _) | (with_reducible refine Keep.drew ?_) | (with_reducible exact Keep.refl _) | refine Keep.trans ?_ (by with_reducible assumption) | exact Keep.refl _ | assumption))))⟩
      · obtain rfl : i = l.length := by omega
        have hX0 := HX0.out
        clear HX0
        go_wp2
        go_ret2; exact ⟨_, rfl, own_base HO0.out (by omega), (by ((repeat (first | (with_reducible assumption) | ((with_reducible refine Keep.setCell ?_ ?_ _); rotate_left; focus (first | omega | (simp; done) | (simp; omega))) | (with_reducible refine Keep.alloc ?_ _) | (with_reducible refine Keep.drewN ?_ _) | (with_reducible refine Keep.drew ?_) | (with_reducible exact Keep.refl _) | refine Keep.trans ?_ (by with_reducible assumption) | exact Keep.refl _ | assumption))))⟩
  · rw [alL_no h0]
    clear hT h1
    generalize alE s z p l = y at *
    go_enter Tryd.func20, Tryd.ntmps20
    (go_wp2_with fail); (go_at_call 52); (refine (hJ _ _ (hR.keep (((Keep.refl w).alloc _).alloc _)) HX.out).mono ?_); rintro e w2 ⟨rfl, hk2⟩
    have hz9 : w.heap.size ≤ w2.heap.size := by have := hk2.size; simp at this; omega
    go_wp2
    go_ret2; exact ⟨_, rfl, own_emptyP w2 w.heap.size hz9, (by ((repeat (first | (with_reducible assumption) | ((with_reducible refine Keep.setCell ?_ ?_ _); rotate_left; focus (first | omega | (simp; done) | (simp; omega))) | (with_reducible refine Keep.alloc ?_ _) | (with_reducible refine Keep.drewN ?_ _) | (with_reducible refine Keep.drew ?_) | (with_reducible exact Keep.refl _) | refine Keep.trans ?_ (by with_reducible assumption) | exact Keep.refl _ | assumption))))⟩
end Go.Proofs.YtbbnhbfofdhnbaaDoor

set_option linter.unusedVariables false
set_option linter.unusedSimpArgs false
namespace Go.Proofs.YtbbnhbfofdhnbaaDoor
open Go.RowKit
set_option maxHeartbeats 1000000
set_option maxRecDepth 20000
theorem prs_at : ∀ (l : List (Int × Int)) (i : Nat) (h : i < l.length), (prs l)[i * 2]? = some (.int .i64 l[i].1) ∧ (prs l)[i * 2 + 1]? = some (.int .i64 l[i].2)
  | x :: l, 0, _ => ⟨rfl, rfl⟩
  | x :: l, i + 1, h => by
    have ih := prs_at l i (by simpa using h)
    have e : prs (x :: l) = [.int .i64 x.1, .int .i64 x.2] ++ prs l := rfl
    rw [e]
    constructor
    · rw [List.getElem?_append_right (by simp; omega), show (i + 1) * 2 - [Value.int .i64 x.1, .int .i64 x.2].length = i * 2 by simp; omega]; exact ih.1
    · rw [List.getElem?_append_right (by simp; omega), show (i + 1) * 2 + 1 - [Value.int .i64 x.1, .int .i64 x.2].length = i * 2 + 1 by simp; omega]; exact ih.2
theorem own_rdp {w : World} {B : Nat} {T : TypeId} {A : Option Addr} {n c : Nat} {xs : List Value} (h : w.ownsRow B T 2 (.slice A n c) n xs) : Rd w A xs := (Own.new h).rd
theorem laws_eqInt64A2 (x y : Int) (w : World) :
    Calls Tryd.prog 56 #[.agg #[.int .i64 x, .int .i64 y], .agg #[.int .i64 x, .int .i64 y]] w fun e w' => e = .returned (.bool true) ∧ Keep w w' := by
  go_enter Tryd.func56, Tryd.ntmps56
  go_wp2_with fail
  refine wp_gen (fun W => Bx W w.heap.size #[.int .i64 x, .int .i64 y] 70 ∧ Bx W (w.heap.size + 1) #[.int .i64 x, .int .i64 y] 70 ∧ Keep w W) ⟨(Bx.new _ _ _).alloc _, Bx.new1 _ _ _ _, (by ((repeat (first | (with_reducible assumption) | ((with_reducible refine Keep.setCell ?_ ?_ _); rotate_left; focus (first | omega | (simp; done) | (simp; omega))) | (with_reducible refine Keep.alloc ?_ _) | (with_reducible refine Keep.drewN ?_ _) | (with_reducible refine Keep.drew ?_) | (with_reducible exact Keep.refl _) | refine Keep.trans ?_ (by with_reducible assumption) | exact Keep.refl _ | assumption))))⟩ ?_
  rintro W ⟨hA, hB, hW⟩
  have hAs := hA.two
  have hBs := hB.two
  refine wp_loop_rounds 3 ?_
  rw [rounds_succ]
  go_wp2
  go_quiet (fail)
  go_wp2_with fail
  rw [rounds_succ]
  go_wp2
  go_quiet (fail)
  go_wp2_with fail
  rw [rounds_succ]
  go_wp2
  go_ret; exact ⟨rfl, (by ((repeat (first | (with_reducible assumption) | ((with_reducible refine Keep.setCell ?_ ?_ _); rotate_left; focus (first | omega | (simp; done) | (simp; omega))) | (with_reducible refine Keep.alloc ?_ _) | (with_reducible refine Keep.drewN ?_ _) | (with_reducible refine Keep.drew ?_) | (with_reducible exact Keep.refl _) | refine Keep.trans ?_ (by with_reducible assumption) | exact Keep.refl _ | assumption))))⟩
theorem laws_eqInt64A2S (A B : Option Addr) (l : List (Int × Int)) (c d : Nat) (w : World) (hn : l.length ≤ 1048576) (hR : Rd w A (prs l)) (hS : Rd w B (prs l)) :
    Calls Tryd.prog 23 #[.slice A l.length c, .slice B l.length d] w fun e w' => e = .returned (.bool true) ∧ Keep w w' := by
  go_enter Tryd.func23, Tryd.ntmps23
  go_wp2_with fail
  go_loopg [5] l.length (fun k s wr => ∃ i : Nat, i + k = l.length ∧ s = .int .i64 i ∧ Keep w wr)
  case atStart => exact ⟨0, by omega, rfl, (by ((repeat (first | (with_reducible assumption) | ((with_reducible refine Keep.setCell ?_ ?_ _); rotate_left; focus (first | omega | (simp; done) | (simp; omega))) | (with_reducible refine Keep.alloc ?_ _) | (with_reducible refine Keep.drewN ?_ _) | (with_reducible refine Keep.drew ?_) | (with_reducible exact Keep.refl _) | refine Keep.trans ?_ (by with_reducible assumption) | exact Keep.refl _ | assumption))))⟩
  case round =>
    obtain ⟨i, hi, rfl, hk⟩ := hrel
    by_cases hlt : i < l.length
    · obtain ⟨bb, o, rfl, hc⟩ := (hR.keep hk).at (k := i) (by rw [prs_len]; omega)
      obtain ⟨b2, o2, rfl, hc2⟩ := (hS.keep hk).at (k := i) (by rw [prs_len]; omega)
      obtain ⟨r1, r2⟩ := prs_at l i hlt
      have p1 := hc _ _ r1
      have p2 := hc _ _ r2
      have q1 := hc2 _ _ r1
      have q2 := hc2 _ _ r2
      rw [← Nat.add_assoc] at p2 q2
      clear hc hc2 r1 r2
      generalize l[i] = x at *
      obtain ⟨x, y⟩ := x
      simp only at p1 p2 q1 q2
      go_wp2_with fail
      refine wp_region_keep (by kernel_rfl) (by kernel_rfl) ?_
      repeat
        first
          | (apply QuietL.run
             focus go_simp
             focus
               intro w2 hk
               have p1' := hk.cell p1
               have p2' := hk.cell p2
               have q1' := hk.cell q1
               have q2' := hk.cell q2
               apply QAt.mk
               go_simp
               first
                 | done
                 | exact rfl
                 | (go_at_call 56; exact quiet_call hk (laws_eqInt64A2 _ _ _))
             simp only [Act.put, List.setIfInBounds_toArray, List.set_cons_succ, List.set_cons_zero])
          | (apply QuietL.skip
             focus go_simp
             simp only [Act.put, List.setIfInBounds_toArray, List.set_cons_succ, List.set_cons_zero])
      apply QuietL.nil
      intro w2 hk
      have p1' := hk.cell p1
      have p2' := hk.cell p2
      have q1' := hk.cell q1
      have q2' := hk.cell q2
      go_wp2
      go_roundg (l.length - (i + 1))
      case measure => omega
      case rel => exact ⟨i + 1, by omega, by go_num, (by ((repeat (first | (with_reducible assumption) | ((with_reducible refine Keep.setCell ?_ ?_ _); rotate_left; focus (first | omega | (simp; done) | (simp; omega))) | (with_reducible refine Keep.alloc ?_ _) | (with_reducible refine Keep.drewN ?_ _) | (with_reducible refine Keep.drew ?_) | (with_reducible exact Keep.refl _) | refine Keep.trans ?_ (by with_reducible assumption) | exact Keep.refl _ | assumption))))⟩
    · have e2 : i = l.length := by omega
      subst e2
      go_wp2
      go_ret; exact ⟨rfl, (by ((repeat (first | (with_reducible assumption) | ((with_reducible refine Keep.setCell ?_ ?_ _); rotate_left; focus (first | omega | (simp; done) | (simp; omega))) | (with_reducible refine Keep.alloc ?_ _) | (with_reducible refine Keep.drewN ?_ _) | (with_reducible refine Keep.drew ?_) | (with_reducible exact Keep.refl _) | refine Keep.trans ?_ (by with_reducible assumption) | exact Keep.refl _ | assumption))))⟩
theorem drop_two {xs : List Value} {j : Nat} (h : j + 1 < xs.length) : ∃ a b, xs.drop j = a :: b :: xs.drop (j + 2) := by
  rw [List.drop_eq_getElem_cons (by omega), List.drop_eq_getElem_cons (by omega)]
  exact ⟨_, _, rfl⟩
theorem marks2_set (k : Int) (i : Nat) (xs : List Value) (h : i * 2 + 1 < xs.length) :
    ((marksV k (i * 2) ++ xs.drop (i * 2)).set (i * 2) (.int .i64 (k + (i * 2 : Nat)))).set (i * 2 + 1) (.int .i64 (k + (i * 2 : Nat) + 1)) = marksV k ((i + 1) * 2) ++ xs.drop ((i + 1) * 2) := by
  rw [marks_set k (i * 2) xs (by omega), show k + ((i * 2 : Nat) : Int) + 1 = k + ((i * 2 + 1 : Nat) : Int) by omega, marks_set k (i * 2 + 1) xs (by omega), show (i + 1) * 2 = i * 2 + 1 + 1 by omega]
theorem marks2_some (k : Int) (i : Nat) (xs : List Value) (h : i * 2 + 1 < xs.length) : ∃ a b, (marksV k (i * 2) ++ xs.drop (i * 2))[i * 2]? = some a ∧ (marksV k (i * 2) ++ xs.drop (i * 2))[i * 2 + 1]? = some b := by
  obtain ⟨a, b, e⟩ := drop_two h
  have l := marksV_len k (i * 2)
  rw [e]
  refine ⟨a, b, ?_, ?_⟩
  · rw [List.getElem?_append_right (by omega), l, show i * 2 - i * 2 = 0 by omega]; rfl
  · rw [List.getElem?_append_right (by omega), l, show i * 2 + 1 - i * 2 = 1 by omega]; rfl
theorem own_head2 {w : World} {base sz : Nat} {e : TypeId} {A : Option Addr} {n c : Nat} {xs : List Value} (h : w.ownsRow base e sz (.slice A n c) n xs) (hn : 0 < n) : ∃ g, A = some ⟨g, 0, none⟩ ∧ base ≤ g := by
  rcases h.2 with ⟨h1, h2⟩ | ⟨g, cap, cur, h1, h2, _⟩
  · omega
  · simp only [Value.slice.injEq] at h1
    exact ⟨g, h1.1, h2⟩
theorem laws_markInt64A2S (A : Option Addr) (n c base : Nat) (xs : List Value) (k : Int) (w : World) (hn : n ≤ 1048576) (hk0 : 0 ≤ k) (hk1 : k ≤ 1048576) (hown : w.ownsRow base 70 2 (.slice A n c) n xs) :
    Calls Tryd.prog 24 #[.slice A n c, .int .i64 k] w fun e w' => e = .returned (.int .i64 (k + ((n * 2 : Nat) : Int))) ∧ w'.ownsRow base 70 2 (.slice A n c) n (marksV k (n * 2)) ∧ w.grownBy w' (Value.ownBlock (.slice A n c)) := by
  have hlen : xs.length = n * 2 := hown.1
  go_enter Tryd.func24, Tryd.ntmps24
  go_wp2_with fail
  go_loopg [1, 5] n (fun m s1 s5 wr => ∃ i : Nat, i + m = n ∧ s1 = .int .i64 (k + ((i * 2 : Nat) : Int)) ∧ s5 = .int .i64 i ∧ wr.ownsRow base 70 2 (.slice A n c) n (marksV k (i * 2) ++ xs.drop (i * 2)) ∧ w.grownBy wr (Value.ownBlock (.slice A n c)))
  case atStart => exact ⟨0, by omega, by simp, rfl, by simpa [marksV] using hown, grown_refl _ _⟩
  case round =>
    obtain ⟨i, hi, rfl, rfl, hown, hg⟩ := hrel
    by_cases hlt : i < n
    · obtain ⟨g, rfl, hgb⟩ := own_head2 hown (by omega)
      obtain ⟨a, b, q1, q2⟩ := marks2_some k i xs (by omega)
      have HS := Aside.mk (marks2_set k i xs (by omega))
      have HO := Aside.mk hown
      have HG := Aside.mk hg
      obtain ⟨kk, hkk⟩ : ∃ kk, k + ((i * 2 : Nat) : Int) = kk := ⟨_, rfl⟩
      have hkb : 0 ≤ kk ∧ kk ≤ 4000000 := by omega
      rw [hkk] at HS
      simp only [hkk]
      have hcA := (hown.cellAt (i * 2) (by omega)).trans q1
      have hcB := (hown.cellAt (i * 2 + 1) (by omega)).trans q2
      have hfA := hown.frozenAt (i * 2)
      have hfB := hown.frozenAt (i * 2 + 1)
      clear hown hg q1 q2
      have HK := Aside.mk hkk
      clear hkk
      go_wp2_with fail
      refine wp_loop_rounds 3 ?_
      rw [rounds_succ]
      go_wp2_with fail
      rw [rounds_succ]
      go_wp2_with fail
      rw [rounds_succ]
      go_wp2_with fail
      have s1 := HO.out.stored (i * 2) (.int .i64 kk)
      have s2 := s1.1.stored (i * 2 + 1) (.int .i64 (kk + 1))
      have hst := s2.1
      rw [HS.out] at hst
      have HO2 := Aside.mk hst
      have HG2 := Aside.mk (grown_trans HG.out (grown_trans s1.2 s2.2))
      clear hst s1 s2 HO HG HS
      go_roundg (n - (i + 1))
      case measure => omega
      case rel => exact ⟨i + 1, by omega, by rw [show k + (((i + 1) * 2 : Nat) : Int) = kk + 1 + 1 by have := HK.out; omega], by go_num, HO2.out, HG2.out⟩
    · have e2 : i = n := by omega
      subst e2
      have HO := Aside.mk hown
      have HG := Aside.mk hg
      clear hown hg
      go_wp2
      go_ret; exact ⟨rfl, by have := HO.out; rw [List.drop_of_length_le (by omega), List.append_nil] at this; exact this, HG.out⟩
theorem laws_heldInt64A2S (A : Option Addr) (n c : Nat) (k : Int) (w : World) (hn : n ≤ 1048576) (hk0 : 0 ≤ k) (hk1 : k ≤ 1048576) (hR : Rd w A (marksV k (n * 2))) :
    Calls Tryd.prog 25 #[.slice A n c, .int .i64 k] w fun e w' => e = .returned (.int .i64 (k + ((n * 2 : Nat) : Int))) ∧ Keep w w' := by
  go_enter Tryd.func25, Tryd.ntmps25
  go_wp2_with fail
  go_loopg [1, 5] n (fun m s1 s5 wr => ∃ i : Nat, i + m = n ∧ s1 = .int .i64 (k + ((i * 2 : Nat) : Int)) ∧ s5 = .int .i64 i ∧ Keep w wr)
  case atStart => exact ⟨0, by omega, by simp, rfl, (by ((repeat (first | (with_reducible assumption) | ((with_reducible refine Keep.setCell ?_ ?_ _); rotate_left; focus (first | omega | (simp; done) | (simp; omega))) | (with_reducible refine Keep.alloc ?_ _) | (with_reducible refine Keep.drewN ?_ _) | (with_reducible refine Keep.drew ?_) | (with_reducible exact Keep.refl _) | refine Keep.trans ?_ (by with_reducible assumption) | exact Keep.refl _ | assumption))))⟩
  case round =>
    obtain ⟨i, hi, rfl, rfl, hk⟩ := hrel
    by_cases hlt : i < n
    · obtain ⟨bb, o, rfl, hc⟩ := (hR.keep hk).at (k := i) (by rw [marksV_len]; omega)
      have p1 := hc _ _ (marksV_at k (n * 2) (i * 2) (by omega))
      have p2 := hc _ _ (marksV_at k (n * 2) (i * 2 + 1) (by omega))
      rw [← Nat.add_assoc] at p2
      rw [show k + ((i * 2 + 1 : Nat) : Int) = k + ((i * 2 : Nat) : Int) + 1 by omega] at p2
      obtain ⟨kk, hkk⟩ : ∃ kk, k + ((i * 2 : Nat) : Int) = kk := ⟨_, rfl⟩
      have hkb : 0 ≤ kk ∧ kk ≤ 4000000 := by omega
      rw [hkk] at p1 p2
      simp only [hkk]
      have HK := Aside.mk hkk
      clear hkk hc
      go_wp2_with fail
      refine wp_loop_rounds 3 ?_
      rw [rounds_succ]
      go_wp2_with fail
      rw [rounds_succ]
      go_wp2_with fail
      rw [rounds_succ]
      go_wp2_with fail
      go_roundg (n - (i + 1))
      case measure => omega
      case rel => exact ⟨i + 1, by omega, by rw [show k + (((i + 1) * 2 : Nat) : Int) = kk + 1 + 1 by have := HK.out; omega], by go_num, (by ((repeat (first | (with_reducible assumption) | ((with_reducible refine Keep.setCell ?_ ?_ _); rotate_left; focus (first | omega | (simp; done) | (simp; omega))) | (with_reducible refine Keep.alloc ?_ _) | (with_reducible refine Keep.drewN ?_ _) | (with_reducible refine Keep.drew ?_) | (with_reducible exact Keep.refl _) | refine Keep.trans ?_ (by with_reducible assumption) | exact Keep.refl _ | assumption))))⟩
    · have e2 : i = n := by omega
      subst e2
      go_wp2
      go_ret; exact ⟨rfl, (by ((repeat (first | (with_reducible assumption) | ((with_reducible refine Keep.setCell ?_ ?_ _); rotate_left; focus (first | omega | (simp; done) | (simp; omega))) | (with_reducible refine Keep.alloc ?_ _) | (with_reducible refine Keep.drewN ?_ _) | (with_reducible refine Keep.drew ?_) | (with_reducible exact Keep.refl _) | refine Keep.trans ?_ (by with_reducible assumption) | exact Keep.refl _ | assumption))))⟩
end Go.Proofs.YtbbnhbfofdhnbaaDoor

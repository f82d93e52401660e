/- Words that may be in a mask: the walks. -/
import Derived.Test.YtbbnhbfofdhnbaaDoorX7
import Derived.Test.YtbbnhbfofdhnbaaDoorX6
import Derived.Test.YtbbnhbfofdhnbaaDoorX8
import Derived.Test.YtbbnhbfofdhnbaaDoorOW
import Derived.Test.YtbbnhbfofdhnbaaDoorS1
set_option linter.unusedVariables false
set_option linter.unusedSimpArgs false
namespace Go.Proofs.YtbbnhbfofdhnbaaDoor
open Go.RowKit
set_option maxHeartbeats 2000000
set_option maxRecDepth 20000
/-- May the word at this place be in the mask? -/
def mwAt (s z : Int) (T : List UInt8 → Nat) (a b : Wd) (l : List ByteArray) (i : Nat) : Bool := match l[i]? with
  | some x => withinB (wLo s z T x) (wHi s z T x) a b
  | none => false
theorem mwAt_at (s z : Int) (T : List UInt8 → Nat) (a b : Wd) {l : List ByteArray} {i : Nat} (h : i < l.length) : mwAt s z T a b l i = withinB (wLo s z T l[i]) (wHi s z T l[i]) a b := by
  unfold mwAt; rw [List.getElem?_eq_getElem h]
/-- The places, of the first so many, at which something holds. -/
def plN (p : Nat → Bool) : Nat → List Int
  | 0 => []
  | i + 1 => plN p i ++ (if p i then [(i : Int)] else [])
theorem plN_yes {p : Nat → Bool} {i : Nat} (h : p i = true) : plN p (i + 1) = plN p i ++ [(i : Int)] := by simp [plN, h]
theorem plN_no {p : Nat → Bool} {i : Nat} (h : p i = false) : plN p (i + 1) = plN p i := by simp [plN, h]
theorem plN_len (p : Nat → Bool) : ∀ i, (plN p i).length ≤ i
  | 0 => by simp [plN]
  | i + 1 => by
    have := plN_len p i
    cases h : p i
    · rw [plN_no h]; omega
    · rw [plN_yes h, List.length_append]; simp; omega
theorem impl_maybe (s z p : Int) (a b : Wd) (A : Option Addr) (l : List ByteArray) (c : Nat) (T : List UInt8 → Nat) (w : World) (hm : l.length ≤ 1048576) (hz : Szs l) (hR : Rd w A (strs l)) (s0 : 0 ≤ s) (z0 : 1 ≤ z) (hx : s + z ≤ 96) (hp : 0 ≤ p ∧ p ≤ 96) (hT : Tim s z p T) :
    Calls Tryd.prog 59 #[.agg #[.int .i16 s, .int .i16 z, .int .i16 p], .agg #[.int .u64 (U a), .int .u64 (U b)], .slice A l.length c] w fun e w' => ∃ v, e = .returned v ∧ w'.ownsRow w.heap.size 2 1 v (plN (mwAt s z T a b l) l.length).length (ints (plN (mwAt s z T a b l) l.length)) ∧ Keep w w' := by
  obtain ⟨i0, hi0, hz0, hz1, hz2⟩ := info_parts int64_info
  go_enter Tryd.func59, Tryd.ntmps59
  go_wp2_with fail
  go_loopg [7, 13] l.length (fun k s7 s13 wr => ∃ i : Nat, i + k = l.length ∧ s13 = .int .i64 i ∧ wr.ownsRow (w.heap.size + 2) 2 1 s7 (plN (mwAt s z T a b l) i).length (ints (plN (mwAt s z T a b l) i)) ∧ Bx wr w.heap.size #[.int .i16 s, .int .i16 z, .int .i16 p] 42 ∧ Bx wr (w.heap.size + 1) #[.int .u64 (U a), .int .u64 (U b)] 50 ∧ Keep w wr)
  case atStart => exact ⟨0, by omega, rfl, by simpa [plN, ints] using own_empty ((w.alloc (.cells #[.int .i16 s, .int .i16 z, .int .i16 p] 42)).alloc (.cells #[.int .u64 (U a), .int .u64 (U b)] 50)) (w.heap.size + 2) 2 (by first | (simp; done) | (simp; omega)), ((Bx.new _ _ _).alloc _).alloc _, (Bx.new1 _ _ _ _).alloc _, (by ((repeat (first | (with_reducible assumption) | ((with_reducible refine Keep.setCell ?_ ?_ _); rotate_left; focus (first | omega | (simp; done) | (simp; omega))) | (with_reducible refine Keep.alloc ?_ _) | (with_reducible refine Keep.drewN ?_ _) | (with_reducible refine Keep.drew ?_) | (with_reducible exact Keep.refl _) | refine Keep.trans ?_ (by with_reducible assumption) | exact Keep.refl _ | assumption))))⟩
  case round =>
    obtain ⟨i, hi, rfl, hown, hX, hM, hk0⟩ := hrel
    have HO0 := Aside.mk hown
    clear hown
    by_cases hlt : i < l.length
    · obtain ⟨bb, o, rfl, hc⟩ := (hR.keep hk0).at (k := i) (by rw [strs_len]; exact hlt)
      have hcell := hc i _ (strs_at l i hlt)
      have hzs := hz l[i] (List.getElem_mem hlt)
      have HD := Aside.mk (mwAt_at s z T a b hlt)
      have HY := Aside.mk (fun h => plN_yes (p := mwAt s z T a b l) (i := i) h)
      have HN := Aside.mk (fun h => plN_no (p := mwAt s z T a b l) (i := i) h)
      have hal := plN_len (mwAt s z T a b l) i
      have hw := fun W => impl_wordHoles s z p l[i] (T l[i].data.toList) W hzs s0 z0 hx hp (hT _)
      rw [show whLo s z (chk l[i].data.toList) (T l[i].data.toList) = wLo s z T l[i] from rfl, show whHi s z (chk l[i].data.toList) (T l[i].data.toList) = wHi s z T l[i] from rfl] at hw
      have hW := Aside.mk hw
      clear hc hzs hT hw
      generalize wLo s z T l[i] = u at *
      generalize wHi s z T l[i] = u2 at *
      generalize l[i] = x at *
      go_wp2_with fail
      refine wp_region_keep (by kernel_rfl) (by kernel_rfl) ?_
      repeat
        first
          | (apply QuietL.run
             focus go_simp
             focus
               intro w2 hk
               obtain ⟨hX_0, hX_1, hX_2, hX_3, hX_4, hX_5, hX_6⟩ := (hX.keep hk).three
               obtain ⟨hM_0, hM_1, hM_2, hM_3, hM_4⟩ := (hM.keep hk).two
               apply QAt.mk
               go_simp
               first
                 | done
                 | exact rfl
                 | (go_at_call 55; exact quiet_call hk (hW.out _))
                 | (go_at_call 38; exact quiet_call hk (impl_IsWithin _ _ _ _ _))
             simp only [Act.put, List.setIfInBounds_toArray, List.set_cons_succ, List.set_cons_zero])
          | (apply QuietL.skip
             focus go_simp
             simp only [Act.put, List.setIfInBounds_toArray, List.set_cons_succ, List.set_cons_zero])
      apply QuietL.nil
      intro w2 hk
      have hX := hX.keep hk
      obtain ⟨hX_0, hX_1, hX_2, hX_3, hX_4, hX_5, hX_6⟩ := hX.three
      have hM := hM.keep hk
      obtain ⟨hM_0, hM_1, hM_2, hM_3, hM_4⟩ := hM.two
      have HO1 := Aside.mk (own_keep HO0.out hk)
      have k1 := hk0.trans hk
      clear HO0 hk hk0 hcell
      cases hb : withinB u u2 a b
      · have E1 := Aside.mk (HN.out (by rw [HD.out]; exact hb))
        clear HY HN HD
        go_wp2
        go_roundg (l.length - (i + 1))
        case measure => omega
        case rel => exact ⟨i + 1, by omega, by go_num, by rw [E1.out]; exact HO1.out, hX, hM, (by ((repeat (first | (with_reducible assumption) | ((with_reducible refine Keep.setCell ?_ ?_ _); rotate_left; focus (first | omega | (simp; done) | (simp; omega))) | (with_reducible refine Keep.alloc ?_ _) | (with_reducible refine Keep.drewN ?_ _) | (with_reducible refine Keep.drew ?_) | (with_reducible exact Keep.refl _) | refine Keep.trans ?_ (by with_reducible assumption) | exact Keep.refl _ | assumption))))⟩
      · have E1 := Aside.mk (HY.out (by rw [HD.out]; exact hb))
        clear HY HN HD
        go_wp2_with (at_builtin; refine wpList_append_own _ rfl _ _ 26 rfl (w.heap.size + 2) 2 i0 (.int .i64 0) 1 8 Tryd.underlying26 hi0 hz0 hz1 hz2 rfl (by decide) _ _ _ rfl (own_keep HO1.out ((Keep.refl _).alloc _)) ⟨w2.heap.size, 0, none⟩ 1 1 [.int .i64 i] rfl rfl ?c1 ?c2 ?c3 ?c4 ?c5 ?_)
        case c1 =>
          intro j u hj
          match j, hj with
          | 0, hj => simp at hj; subst hj; simp [Addr.add]
        case c2 => intro u hu; simp at hu; subst hu; rfl
        case c3 => unfold maxLen; omega
        case c4 => omega
        case c5 => have := k1.size; have := hM.lt; simp; omega
        intro v' w3 hown2 hg _
        have hr : ∀ k, Value.ownBlock _ = some k → _ := HO1.out.lt
        have k2 : Keep w w3 := (k1.alloc _).grown hg (fun k hk => by have := hr _ hk; omega)
        have hX3 := (hX.alloc (.cells #[.int .i64 i] 2)).grownBy hg (fun h => by have := hr _ h.symm; omega)
        have hM3 := (hM.alloc (.cells #[.int .i64 i] 2)).grownBy hg (fun h => by have := hr _ h.symm; omega)
        have HO := Aside.mk hown2
        clear HO1 hown2 hg hr hX hM
        go_wp2
        go_roundg (l.length - (i + 1))
        case measure => omega
        case rel => exact ⟨i + 1, by omega, by go_num, by rw [E1.out]; simpa [ints] using HO.out, hX3, hM3, k2⟩
    · have e2 : i = l.length := by omega
      subst e2
      go_wp2
      go_ret; exact ⟨_, rfl, own_base HO0.out (by omega), (by ((repeat (first | (with_reducible assumption) | ((with_reducible refine Keep.setCell ?_ ?_ _); rotate_left; focus (first | omega | (simp; done) | (simp; omega))) | (with_reducible refine Keep.alloc ?_ _) | (with_reducible refine Keep.drewN ?_ _) | (with_reducible refine Keep.drew ?_) | (with_reducible exact Keep.refl _) | refine Keep.trans ?_ (by with_reducible assumption) | exact Keep.refl _ | assumption))))⟩
theorem spec_l03Maybe (s z p : Int) (g o : Nat) (a b : Wd) (A : Option Addr) (l : List ByteArray) (c : Nat) (T : List UInt8 → Nat) (w : World) (hm : l.length ≤ 1048576) (hz : Szs l) (hR : Rd w A (strs l)) (s0 : 0 ≤ s) (z0 : 1 ≤ z) (hx : s + z ≤ 96) (hp : 0 ≤ p ∧ p ≤ 96) (hT : Tim s z p T)
    (c0 : w.cell? ⟨g, o, none⟩ = some (.int .i16 s)) (c1 : w.cell? ⟨g, o + 1, none⟩ = some (.int .i16 z)) (c2 : w.cell? ⟨g, o + 2, none⟩ = some (.int .i16 p)) :
    Calls Tryd.prog 57 #[.pointer (some ⟨g, o, none⟩), .agg #[.int .u64 (U a), .int .u64 (U b)], .slice A l.length c] w fun e w' => ∃ v, e = .returned v ∧ w'.ownsRow w.heap.size 2 1 v (plN (mwAt s z T a b l) l.length).length (ints (plN (mwAt s z T a b l) l.length)) ∧ Keep w w' := by
  obtain ⟨i0, hi0, hz0, hz1, hz2⟩ := info_parts int64_info
  go_enter Tryd.func57, Tryd.ntmps57
  go_wp2_with fail
  go_loopg [7, 8] l.length (fun k s7 s8 wr => ∃ i : Nat, i + k = l.length ∧ s8 = .int .i64 i ∧ wr.ownsRow (w.heap.size + 1) 2 1 s7 (plN (mwAt s z T a b l) i).length (ints (plN (mwAt s z T a b l) i)) ∧ Bx wr w.heap.size #[.int .u64 (U a), .int .u64 (U b)] 50 ∧ Keep w wr)
  case atStart => exact ⟨0, by omega, rfl, by simpa [plN, ints] using own_empty (w.alloc (.cells #[.int .u64 (U a), .int .u64 (U b)] 50)) (w.heap.size + 1) 2 (by simp), (Bx.new _ _ _).alloc _, (by ((repeat (first | (with_reducible assumption) | ((with_reducible refine Keep.setCell ?_ ?_ _); rotate_left; focus (first | omega | (simp; done) | (simp; omega))) | (with_reducible refine Keep.alloc ?_ _) | (with_reducible refine Keep.drewN ?_ _) | (with_reducible refine Keep.drew ?_) | (with_reducible exact Keep.refl _) | refine Keep.trans ?_ (by with_reducible assumption) | exact Keep.refl _ | assumption))))⟩
  case round =>
    obtain ⟨i, hi, rfl, hown, hM, hk0⟩ := hrel
    have HO0 := Aside.mk hown
    clear hown
    by_cases hlt : i < l.length
    · obtain ⟨bb, o', rfl, hc⟩ := (hR.keep hk0).at (k := i) (by rw [strs_len]; exact hlt)
      have hcell := hc i _ (strs_at l i hlt)
      have hzs := hz l[i] (List.getElem_mem hlt)
      have HD := Aside.mk (mwAt_at s z T a b hlt)
      have HY := Aside.mk (fun h => plN_yes (p := mwAt s z T a b l) (i := i) h)
      have HN := Aside.mk (fun h => plN_no (p := mwAt s z T a b l) (i := i) h)
      have hal := plN_len (mwAt s z T a b l) i
      have d0 := hk0.cell c0
      have d1 := hk0.cell c1
      have d2 := hk0.cell c2
      have hw := fun W h1 h2 h3 => spec_l03Holes s z p l[i] (T l[i].data.toList) g o W hzs s0 z0 hx hp (hT _) h1 h2 h3
      rw [show whLo s z (chk l[i].data.toList) (T l[i].data.toList) = wLo s z T l[i] from rfl, show whHi s z (chk l[i].data.toList) (T l[i].data.toList) = wHi s z T l[i] from rfl] at hw
      have hW := Aside.mk hw
      clear hc hzs hT hw
      generalize wLo s z T l[i] = u at *
      generalize wHi s z T l[i] = u2 at *
      generalize l[i] = x at *
      go_wp2_with fail
      refine wp_region_keep (by kernel_rfl) (by kernel_rfl) ?_
      repeat
        first
          | (apply QuietL.run
             focus go_simp
             focus
               intro w2 hk
               have hcell' := hk.cell hcell
               have d0' := hk.cell d0
               have d1' := hk.cell d1
               have d2' := hk.cell d2
               obtain ⟨hM_0, hM_1, hM_2, hM_3, hM_4⟩ := (hM.keep hk).two
               apply QAt.mk
               go_simp
               first
                 | done
                 | exact rfl
                 | (go_at_call 53; exact quiet_call hk (hW.out _ d0' d1' d2'))
                 | (go_at_call 89; exact quiet_call hk (spec_IsWithin _ _ _ _ _))
             simp only [Act.put, List.setIfInBounds_toArray, List.set_cons_succ, List.set_cons_zero])
          | (apply QuietL.skip
             focus go_simp
             simp only [Act.put, List.setIfInBounds_toArray, List.set_cons_succ, List.set_cons_zero])
      apply QuietL.nil
      intro w2 hk
      have hcell' := hk.cell hcell
      have d0' := hk.cell d0
      have d1' := hk.cell d1
      have d2' := hk.cell d2
      have hM := hM.keep hk
      obtain ⟨hM_0, hM_1, hM_2, hM_3, hM_4⟩ := hM.two
      have HO1 := Aside.mk (own_keep HO0.out hk)
      have k1 := hk0.trans hk
      clear HO0 hk hk0 hcell hcell' d0 d1 d2 d0' d1' d2'
      cases hb : withinB u u2 a b
      · have E1 := Aside.mk (HN.out (by rw [HD.out]; exact hb))
        clear HY HN HD
        go_wp2
        go_roundg (l.length - (i + 1))
        case measure => omega
        case rel => exact ⟨i + 1, by omega, by go_num, by rw [E1.out]; exact HO1.out, hM, (by ((repeat (first | (with_reducible assumption) | ((with_reducible refine Keep.setCell ?_ ?_ _); rotate_left; focus (first | omega | (simp; done) | (simp; omega))) | (with_reducible refine Keep.alloc ?_ _) | (with_reducible refine Keep.drewN ?_ _) | (with_reducible refine Keep.drew ?_) | (with_reducible exact Keep.refl _) | refine Keep.trans ?_ (by with_reducible assumption) | exact Keep.refl _ | assumption))))⟩
      · have E1 := Aside.mk (HY.out (by rw [HD.out]; exact hb))
        clear HY HN HD
        go_wp2_with (at_builtin; refine wpList_append_own _ rfl _ _ 26 rfl (w.heap.size + 1) 2 i0 (.int .i64 0) 1 8 Tryd.underlying26 hi0 hz0 hz1 hz2 rfl (by decide) _ _ _ rfl (own_keep HO1.out ((Keep.refl _).alloc _)) ⟨w2.heap.size, 0, none⟩ 1 1 [.int .i64 i] rfl rfl ?c1 ?c2 ?c3 ?c4 ?c5 ?_)
        case c1 =>
          intro j u hj
          match j, hj with
          | 0, hj => simp at hj; subst hj; simp [Addr.add]
        case c2 => intro u hu; simp at hu; subst hu; rfl
        case c3 => unfold maxLen; omega
        case c4 => omega
        case c5 => have := k1.size; have := hM.lt; simp; omega
        intro v' w3 hown2 hg _
        have hr : ∀ k, Value.ownBlock _ = some k → _ := HO1.out.lt
        have k2 : Keep w w3 := (k1.alloc _).grown hg (fun k hk => by have := hr _ hk; omega)
        have hM3 := (hM.alloc (.cells #[.int .i64 i] 2)).grownBy hg (fun h => by have := hr _ h.symm; omega)
        have HO := Aside.mk hown2
        clear HO1 hown2 hg hr hM
        go_wp2
        go_roundg (l.length - (i + 1))
        case measure => omega
        case rel => exact ⟨i + 1, by omega, by go_num, by rw [E1.out]; simpa [ints] using HO.out, hM3, k2⟩
    · have e2 : i = l.length := by omega
      subst e2
      go_wp2
      go_ret; exact ⟨_, rfl, own_base HO0.out (by omega), (by ((repeat (first | (with_reducible assumption) | ((with_reducible refine Keep.setCell ?_ ?_ _); rotate_left; focus (first | omega | (simp; done) | (simp; omega))) | (with_reducible refine Keep.alloc ?_ _) | (with_reducible refine Keep.drewN ?_ _) | (with_reducible refine Keep.drew ?_) | (with_reducible exact Keep.refl _) | refine Keep.trans ?_ (by with_reducible assumption) | exact Keep.refl _ | assumption))))⟩
end Go.Proofs.YtbbnhbfofdhnbaaDoor

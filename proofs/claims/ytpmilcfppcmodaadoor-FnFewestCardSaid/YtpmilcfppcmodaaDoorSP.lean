/- A pass of a needle: what stays, and what drops: the walks. -/
import Derived.Test.YtpmilcfppcmodaaDoorD1
import Derived.Test.YtpmilcfppcmodaaDoorDS
import Derived.Test.YtpmilcfppcmodaaDoorS1
import Derived.Test.YtpmilcfppcmodaaDoorDK2
import Derived.Test.YtpmilcfppcmodaaDoorOW
import Derived.Deep.AppendLies
set_option linter.unusedVariables false
set_option linter.unusedSimpArgs false
namespace Go.Proofs.YtpmilcfppcmodaaDoor
open Go.RowKit
set_option maxHeartbeats 1000000
set_option maxRecDepth 20000
/-- Is the card notched at this hole? -/
def hasC (h : Int) (c : Cd) : Bool := hasB c.a c.b h
def stL (h : Int) (l : List Cd) : List Cd := l.filter fun c => !hasC h c
def drL (h : Int) (l : List Cd) : List Cd := l.filter fun c => hasC h c
theorem stL_yes {h : Int} {l : List Cd} {i : Nat} (hi : i < l.length) (hb : hasC h l[i] = true) : stL h (l.take (i + 1)) = stL h (l.take i) ∧ drL h (l.take (i + 1)) = drL h (l.take i) ++ [l[i]] := by
  unfold stL drL; rw [List.take_succ_eq_append_getElem hi, List.filter_append, List.filter_append]; simp [hb]
theorem stL_no {h : Int} {l : List Cd} {i : Nat} (hi : i < l.length) (hb : hasC h l[i] = false) : stL h (l.take (i + 1)) = stL h (l.take i) ++ [l[i]] ∧ drL h (l.take (i + 1)) = drL h (l.take i) := by
  unfold stL drL; rw [List.take_succ_eq_append_getElem hi, List.filter_append, List.filter_append]; simp [hb]
theorem stL_len (h : Int) (l : List Cd) : (stL h l).length + (drL h l).length = l.length := by
  unfold stL drL
  induction l with
  | nil => rfl
  | cons x l ih => cases hb : hasC h x <;> simp [hb] <;> omega
theorem stL_len_take (h : Int) (l : List Cd) (i : Nat) : (stL h (l.take i)).length + (drL h (l.take i)).length ≤ l.length := by
  rw [stL_len, List.length_take]; omega
/-- Two rows of cards of the call's own, in two blocks. -/
def Two (w : World) (B : Nat) (v1 v2 : Value) (l1 l2 : List Cd) : Prop :=
  ∃ g1 c1 g2 c2, v1 = .slice (some ⟨g1, 0, none⟩) l1.length c1 ∧ v2 = .slice (some ⟨g2, 0, none⟩) l2.length c2 ∧ w.ownsRow B 108 3 v1 l1.length (cds l1) ∧ w.ownsRow B 108 3 v2 l2.length (cds l2) ∧ g1 ≠ g2 ∧ g1 < w.heap.size ∧ g2 < w.heap.size
theorem own_emptyN (w : World) (B : Nat) (T : TypeId) (n : Nat) (hB : B ≤ w.heap.size) : (w.alloc (.cells #[] T)).ownsRow B T n (.slice (some ⟨w.heap.size, 0, none⟩) 0 0) 0 [] :=
  World.ownsRow_made w #[] 0 hB (by unfold maxLen; omega) (by simp)
theorem impl_split (A : Option Addr) (l : List Cd) (c : Nat) (h : Int) (w : World) (hm : l.length ≤ 1048576) (hh : 0 ≤ h ∧ h < 96) (hR : Rd w A (cds l)) :
    Calls Tryd.prog 95 #[.slice A l.length c, .int .i64 h] w fun e w' => ∃ v1 v2, e = .returned (.tuple #[v1, v2]) ∧ Two w' w.heap.size v1 v2 (stL h l) (drL h l) ∧ Keep w w' := by
  obtain ⟨i0, hi0, hz0, hz1, hz2⟩ := info_parts cardE_info
  go_enter Tryd.func95, Tryd.ntmps95
  go_wp2_with fail
  go_loopg [6, 7, 14] l.length (fun k s6 s7 s14 wr => ∃ i : Nat, i + k = l.length ∧ s14 = .int .i64 i ∧ Two wr w.heap.size s6 s7 (stL h (l.take i)) (drL h (l.take i)) ∧ Keep w wr)
  case atStart => exact ⟨0, by omega, rfl, ⟨_, _, _, _, rfl, rfl, own_keep (own_emptyN w _ 108 3 (Nat.le_refl _)) ((Keep.refl _).alloc _), (by have := own_emptyN (w.alloc (.cells #[] 108)) w.heap.size 108 3 (by simp); rw [show (w.alloc (.cells #[] 108)).heap.size = w.heap.size + 1 by simp] at this; exact this), by omega, by simp; omega, by simp⟩, (by ((repeat (first | (with_reducible assumption) | ((with_reducible refine Keep.setCell ?_ ?_ _); rotate_left; focus (first | omega | (simp; done) | (simp; omega))) | (with_reducible refine Keep.alloc ?_ _) | (with_reducible refine Keep.drewN ?_ _) | (with_reducible refine Keep.drew ?_) | (with_reducible exact Keep.refl _) | refine Keep.trans ?_ (by with_reducible assumption) | exact Keep.refl _ | assumption))))⟩
  case round =>
    obtain ⟨i, hi, rfl, ⟨g1, c1, g2, c2, rfl, rfl, ho1, ho2, hne, hg1, hg2⟩, hk0⟩ := hrel
    have HO1 := Aside.mk ho1
    have HO2 := Aside.mk ho2
    have hb1 := (ho1.lt g1 rfl).1
    have hb2 := (ho2.lt g2 rfl).1
    clear ho1 ho2
    by_cases hlt : i < l.length
    · obtain ⟨bb, o, rfl, hc⟩ := (hR.keep hk0).at (k := i) (by rw [cds_len]; omega)
      obtain ⟨r1, r2, r3⟩ := cds_at l i hlt
      have p1 := hc _ _ r1
      have p2 := hc _ _ r2
      have p3 := hc _ _ r3
      rw [← Nat.add_assoc] at p2 p3
      have HY := Aside.mk (fun e => stL_yes (h := h) hlt e)
      have HN := Aside.mk (fun e => stL_no (h := h) hlt e)
      have hlen := stL_len_take h l i
      clear hc r1 r2 r3
      generalize l[i] = x at *
      obtain ⟨s, a, b⟩ := x
      simp only [hasC] at p1 p2 p3 HY HN
      generalize stL h (l.take i) = L1 at *
      generalize drL h (l.take i) = L2 at *
      (go_wp2_with fail); (go_at_call 101); (refine (impl_has _ _ _ hh.1 hh.2 _).mono ?_); rintro e w1 ⟨rfl, hk1⟩
      have hX : Bx w1 wr.heap.size #[.string s, .int .u64 (U a), .int .u64 (U b)] 108 := (Bx.new _ _ _).keep hk1
      have kk : Keep wr w1 := (by ((repeat (first | (with_reducible assumption) | ((with_reducible refine Keep.setCell ?_ ?_ _); rotate_left; focus (first | omega | (simp; done) | (simp; omega))) | (with_reducible refine Keep.alloc ?_ _) | (with_reducible refine Keep.drewN ?_ _) | (with_reducible refine Keep.drew ?_) | (with_reducible exact Keep.refl _) | refine Keep.trans ?_ (by with_reducible assumption) | exact Keep.refl _ | assumption))))
      have k1 := hk0.trans kk
      have HO1k := Aside.mk (own_keep HO1.out kk)
      have HO2k := Aside.mk (own_keep HO2.out kk)
      have zz1 := kk.size
      have hXs := hX.three
      clear hk1 p1 p2 p3 HO1 HO2
      cases hb : hasB a b h
      · obtain ⟨e1, e2⟩ := HN.out hb
        have E1 := Aside.mk e1
        have E2 := Aside.mk e2
        clear e1 e2 HY HN
        have hcard : (w1.alloc (.cells #[.string s, .int .u64 (U a), .int .u64 (U b)] 108)).heap.size = w1.heap.size + 1 := by simp
        go_wp2_with (at_builtin; refine wpList_append_lies _ rfl _ _ 26 rfl w.heap.size 108 i0 (.agg #[.string ByteArray.empty, .int .u64 0, .int .u64 0]) 3 32 Tryd.underlying26 hi0 hz0 hz1 hz2 rfl (by decide) _ _ _ rfl (own_keep HO1k.out ((Keep.refl _).alloc _)) ⟨w1.heap.size, 0, none⟩ 1 1 [.string s, .int .u64 (U a), .int .u64 (U b)] rfl rfl ?c1 ?c2 (by decide) ?c3 ?c4 ?c5 _ rfl ?_)
        case c1 => exact World.news_of_block (Bx.new w1 #[.string s, .int .u64 (U a), .int .u64 (U b)] 108)
        case c2 => intro u hu; simp at hu; rcases hu with rfl | rfl | rfl <;> rfl
        case c3 => unfold maxLen; omega
        case c4 => omega
        case c5 => have := k1.size; simp; omega
        intro g cap w2 hown hg hat hg3
        have n1 : g ≠ g2 := by
          rcases hat with e | e
          · simp [Value.ownBlock] at e; omega
          · (try simp at e); omega
        have k2 : Keep w w2 := (k1.alloc _).grown hg (fun k hk => by simp [Value.ownBlock] at hk; omega)
        have HT : Aside (Two w2 w.heap.size (.slice (some ⟨g, 0, none⟩) (L1.length + 1) cap) (.slice (some ⟨g2, 0, none⟩) L2.length c2) (stL h (l.take (i + 1))) (drL h (l.take (i + 1)))) := by
          refine Aside.mk ?_
          rw [E1.out, E2.out]
          refine ⟨g, cap, g2, c2, by simp, rfl, ?_, (own_keep HO2k.out ((Keep.refl _).alloc _)).kept hg (.inr (by simp [Value.ownBlock]; omega)), n1, hg3, Nat.lt_of_lt_of_le (by simp; omega) hg.size⟩
          rw [cds_app, List.length_append]; exact hown
        clear HO1k HO2k hown hg hat hne n1 E1 E2
        go_wp2
        go_roundg (l.length - (i + 1))
        case measure => omega
        case rel => exact ⟨i + 1, by omega, by go_num, HT.out, (by ((repeat (first | (with_reducible assumption) | ((with_reducible refine Keep.setCell ?_ ?_ _); rotate_left; focus (first | omega | (simp; done) | (simp; omega))) | (with_reducible refine Keep.alloc ?_ _) | (with_reducible refine Keep.drewN ?_ _) | (with_reducible refine Keep.drew ?_) | (with_reducible exact Keep.refl _) | refine Keep.trans ?_ (by with_reducible assumption) | exact Keep.refl _ | assumption))))⟩
      · obtain ⟨e1, e2⟩ := HY.out hb
        have E1 := Aside.mk e1
        have E2 := Aside.mk e2
        clear e1 e2 HY HN
        have hcard : (w1.alloc (.cells #[.string s, .int .u64 (U a), .int .u64 (U b)] 108)).heap.size = w1.heap.size + 1 := by simp
        go_wp2_with (at_builtin; refine wpList_append_lies _ rfl _ _ 26 rfl w.heap.size 108 i0 (.agg #[.string ByteArray.empty, .int .u64 0, .int .u64 0]) 3 32 Tryd.underlying26 hi0 hz0 hz1 hz2 rfl (by decide) _ _ _ rfl (own_keep HO2k.out ((Keep.refl _).alloc _)) ⟨w1.heap.size, 0, none⟩ 1 1 [.string s, .int .u64 (U a), .int .u64 (U b)] rfl rfl ?c1 ?c2 (by decide) ?c3 ?c4 ?c5 _ rfl ?_)
        case c1 => exact World.news_of_block (Bx.new w1 #[.string s, .int .u64 (U a), .int .u64 (U b)] 108)
        case c2 => intro u hu; simp at hu; rcases hu with rfl | rfl | rfl <;> rfl
        case c3 => unfold maxLen; omega
        case c4 => omega
        case c5 => have := k1.size; simp; omega
        intro g cap w2 hown hg hat hg3
        have n1 : g1 ≠ g := by
          rcases hat with e | e
          · simp [Value.ownBlock] at e; omega
          · (try simp at e); omega
        have k2 : Keep w w2 := (k1.alloc _).grown hg (fun k hk => by simp [Value.ownBlock] at hk; omega)
        have HT : Aside (Two w2 w.heap.size (.slice (some ⟨g1, 0, none⟩) L1.length c1) (.slice (some ⟨g, 0, none⟩) (L2.length + 1) cap) (stL h (l.take (i + 1))) (drL h (l.take (i + 1)))) := by
          refine Aside.mk ?_
          rw [E1.out, E2.out]
          refine ⟨g1, c1, g, cap, rfl, by simp, (own_keep HO1k.out ((Keep.refl _).alloc _)).kept hg (.inr (by simp [Value.ownBlock]; omega)), ?_, n1, Nat.lt_of_lt_of_le (by simp; omega) hg.size, hg3⟩
          rw [cds_app, List.length_append]; exact hown
        clear HO1k HO2k hown hg hat hne n1 E1 E2
        go_wp2
        go_roundg (l.length - (i + 1))
        case measure => omega
        case rel => exact ⟨i + 1, by omega, by go_num, HT.out, (by ((repeat (first | (with_reducible assumption) | ((with_reducible refine Keep.setCell ?_ ?_ _); rotate_left; focus (first | omega | (simp; done) | (simp; omega))) | (with_reducible refine Keep.alloc ?_ _) | (with_reducible refine Keep.drewN ?_ _) | (with_reducible refine Keep.drew ?_) | (with_reducible exact Keep.refl _) | refine Keep.trans ?_ (by with_reducible assumption) | exact Keep.refl _ | assumption))))⟩
    · have e2 : i = l.length := by omega
      subst e2
      rw [List.take_length] at HO1 HO2
      have HT : Aside (Two wr w.heap.size (.slice (some ⟨g1, 0, none⟩) (stL h l).length c1) (.slice (some ⟨g2, 0, none⟩) (drL h l).length c2) (stL h l) (drL h l)) := Aside.mk ⟨g1, c1, g2, c2, rfl, rfl, HO1.out, HO2.out, hne, hg1, hg2⟩
      clear HO1 HO2
      rw [List.take_length]
      go_wp2
      go_ret2; exact ⟨_, _, rfl, HT.out, (by ((repeat (first | (with_reducible assumption) | ((with_reducible refine Keep.setCell ?_ ?_ _); rotate_left; focus (first | omega | (simp; done) | (simp; omega))) | (with_reducible refine Keep.alloc ?_ _) | (with_reducible refine Keep.drewN ?_ _) | (with_reducible refine Keep.drew ?_) | (with_reducible exact Keep.refl _) | refine Keep.trans ?_ (by with_reducible assumption) | exact Keep.refl _ | assumption))))⟩
theorem spec_l02Split (A : Option Addr) (l : List Cd) (c : Nat) (h : Int) (w : World) (hm : l.length ≤ 1048576) (hh : 0 ≤ h ∧ h < 96) (hR : Rd w A (cds l)) :
    Calls Tryd.prog 94 #[.slice A l.length c, .int .i64 h] w fun e w' => ∃ v1 v2, e = .returned (.tuple #[v1, v2]) ∧ Two w' w.heap.size v1 v2 (stL h l) (drL h l) ∧ Keep w w' := by
  obtain ⟨i0, hi0, hz0, hz1, hz2⟩ := info_parts cardE_info
  go_enter Tryd.func94, Tryd.ntmps94
  go_wp2_with fail
  go_loopg [6, 7, 8] l.length (fun k s6 s7 s8 wr => ∃ i : Nat, i + k = l.length ∧ s8 = .int .i64 i ∧ Two wr w.heap.size s6 s7 (stL h (l.take i)) (drL h (l.take i)) ∧ Keep w wr)
  case atStart => exact ⟨0, by omega, rfl, ⟨_, _, _, _, rfl, rfl, own_keep (own_emptyN w _ 108 3 (Nat.le_refl _)) ((Keep.refl _).alloc _), (by have := own_emptyN (w.alloc (.cells #[] 108)) w.heap.size 108 3 (by simp); rw [show (w.alloc (.cells #[] 108)).heap.size = w.heap.size + 1 by simp] at this; exact this), by omega, by simp; omega, by simp⟩, (by ((repeat (first | (with_reducible assumption) | ((with_reducible refine Keep.setCell ?_ ?_ _); rotate_left; focus (first | omega | (simp; done) | (simp; omega))) | (with_reducible refine Keep.alloc ?_ _) | (with_reducible refine Keep.drewN ?_ _) | (with_reducible refine Keep.drew ?_) | (with_reducible exact Keep.refl _) | refine Keep.trans ?_ (by with_reducible assumption) | exact Keep.refl _ | assumption))))⟩
  case round =>
    obtain ⟨i, hi, rfl, ⟨g1, c1, g2, c2, rfl, rfl, ho1, ho2, hne, hg1, hg2⟩, hk0⟩ := hrel
    have HO1 := Aside.mk ho1
    have HO2 := Aside.mk ho2
    have hb1 := (ho1.lt g1 rfl).1
    have hb2 := (ho2.lt g2 rfl).1
    clear ho1 ho2
    by_cases hlt : i < l.length
    · obtain ⟨bb, o, rfl, hc⟩ := (hR.keep hk0).at (k := i) (by rw [cds_len]; omega)
      obtain ⟨r1, r2, r3⟩ := cds_at l i hlt
      have p1 := hc _ _ r1
      have p2 := hc _ _ r2
      have p3 := hc _ _ r3
      rw [← Nat.add_assoc] at p2 p3
      have HY := Aside.mk (fun e => stL_yes (h := h) hlt e)
      have HN := Aside.mk (fun e => stL_no (h := h) hlt e)
      have hlen := stL_len_take h l i
      clear hc r1 r2 r3
      generalize l[i] = x at *
      obtain ⟨s, a, b⟩ := x
      simp only [hasC] at p1 p2 p3 HY HN
      generalize stL h (l.take i) = L1 at *
      generalize drL h (l.take i) = L2 at *
      (go_wp2_with fail); (go_at_call 98); (refine (spec_l01Has _ _ _ hh.1 hh.2 _).mono ?_); rintro e w1 ⟨rfl, hk1⟩
      have kk : Keep wr w1 := (by ((repeat (first | (with_reducible assumption) | ((with_reducible refine Keep.setCell ?_ ?_ _); rotate_left; focus (first | omega | (simp; done) | (simp; omega))) | (with_reducible refine Keep.alloc ?_ _) | (with_reducible refine Keep.drewN ?_ _) | (with_reducible refine Keep.drew ?_) | (with_reducible exact Keep.refl _) | refine Keep.trans ?_ (by with_reducible assumption) | exact Keep.refl _ | assumption))))
      have k1 := hk0.trans kk
      have HO1k := Aside.mk (own_keep HO1.out kk)
      have HO2k := Aside.mk (own_keep HO2.out kk)
      have zz1 := kk.size
      replace p1 := kk.cell p1
      replace p2 := kk.cell p2
      replace p3 := kk.cell p3
      clear hk1 HO1 HO2
      cases hb : hasB a b h
      · obtain ⟨e1, e2⟩ := HN.out hb
        have E1 := Aside.mk e1
        have E2 := Aside.mk e2
        clear e1 e2 HY HN
        have hcard : (w1.alloc (.cells #[.string s, .int .u64 (U a), .int .u64 (U b)] 108)).heap.size = w1.heap.size + 1 := by simp
        go_wp2_with (at_builtin; refine wpList_append_lies _ rfl _ _ 26 rfl w.heap.size 108 i0 (.agg #[.string ByteArray.empty, .int .u64 0, .int .u64 0]) 3 32 Tryd.underlying26 hi0 hz0 hz1 hz2 rfl (by decide) _ _ _ rfl (own_keep HO1k.out ((Keep.refl _).alloc _)) ⟨w1.heap.size, 0, none⟩ 1 1 [.string s, .int .u64 (U a), .int .u64 (U b)] rfl rfl ?c1 ?c2 (by decide) ?c3 ?c4 ?c5 _ rfl ?_)
        case c1 => exact World.news_of_block (Bx.new w1 #[.string s, .int .u64 (U a), .int .u64 (U b)] 108)
        case c2 => intro u hu; simp at hu; rcases hu with rfl | rfl | rfl <;> rfl
        case c3 => unfold maxLen; omega
        case c4 => omega
        case c5 => have := k1.size; simp; omega
        intro g cap w2 hown hg hat hg3
        have n1 : g ≠ g2 := by
          rcases hat with e | e
          · simp [Value.ownBlock] at e; omega
          · (try simp at e); omega
        have k2 : Keep w w2 := (k1.alloc _).grown hg (fun k hk => by simp [Value.ownBlock] at hk; omega)
        have HT : Aside (Two w2 w.heap.size (.slice (some ⟨g, 0, none⟩) (L1.length + 1) cap) (.slice (some ⟨g2, 0, none⟩) L2.length c2) (stL h (l.take (i + 1))) (drL h (l.take (i + 1)))) := by
          refine Aside.mk ?_
          rw [E1.out, E2.out]
          refine ⟨g, cap, g2, c2, by simp, rfl, ?_, (own_keep HO2k.out ((Keep.refl _).alloc _)).kept hg (.inr (by simp [Value.ownBlock]; omega)), n1, hg3, Nat.lt_of_lt_of_le (by simp; omega) hg.size⟩
          rw [cds_app, List.length_append]; exact hown
        clear HO1k HO2k hown hg hat hne n1 E1 E2
        go_wp2
        go_roundg (l.length - (i + 1))
        case measure => omega
        case rel => exact ⟨i + 1, by omega, by go_num, HT.out, (by ((repeat (first | (with_reducible assumption) | ((with_reducible refine Keep.setCell ?_ ?_ _); rotate_left; focus (first | omega | (simp; done) | (simp; omega))) | (with_reducible refine Keep.alloc ?_ _) | (with_reducible refine Keep.drewN ?_ _) | (with_reducible refine Keep.drew ?_) | (with_reducible exact Keep.refl _) | refine Keep.trans ?_ (by with_reducible assumption) | exact Keep.refl _ | assumption))))⟩
      · obtain ⟨e1, e2⟩ := HY.out hb
        have E1 := Aside.mk e1
        have E2 := Aside.mk e2
        clear e1 e2 HY HN
        have hcard : (w1.alloc (.cells #[.string s, .int .u64 (U a), .int .u64 (U b)] 108)).heap.size = w1.heap.size + 1 := by simp
        go_wp2_with (at_builtin; refine wpList_append_lies _ rfl _ _ 26 rfl w.heap.size 108 i0 (.agg #[.string ByteArray.empty, .int .u64 0, .int .u64 0]) 3 32 Tryd.underlying26 hi0 hz0 hz1 hz2 rfl (by decide) _ _ _ rfl (own_keep HO2k.out ((Keep.refl _).alloc _)) ⟨w1.heap.size, 0, none⟩ 1 1 [.string s, .int .u64 (U a), .int .u64 (U b)] rfl rfl ?c1 ?c2 (by decide) ?c3 ?c4 ?c5 _ rfl ?_)
        case c1 => exact World.news_of_block (Bx.new w1 #[.string s, .int .u64 (U a), .int .u64 (U b)] 108)
        case c2 => intro u hu; simp at hu; rcases hu with rfl | rfl | rfl <;> rfl
        case c3 => unfold maxLen; omega
        case c4 => omega
        case c5 => have := k1.size; simp; omega
        intro g cap w2 hown hg hat hg3
        have n1 : g1 ≠ g := by
          rcases hat with e | e
          · simp [Value.ownBlock] at e; omega
          · (try simp at e); omega
        have k2 : Keep w w2 := (k1.alloc _).grown hg (fun k hk => by simp [Value.ownBlock] at hk; omega)
        have HT : Aside (Two w2 w.heap.size (.slice (some ⟨g1, 0, none⟩) L1.length c1) (.slice (some ⟨g, 0, none⟩) (L2.length + 1) cap) (stL h (l.take (i + 1))) (drL h (l.take (i + 1)))) := by
          refine Aside.mk ?_
          rw [E1.out, E2.out]
          refine ⟨g1, c1, g, cap, rfl, by simp, (own_keep HO1k.out ((Keep.refl _).alloc _)).kept hg (.inr (by simp [Value.ownBlock]; omega)), ?_, n1, Nat.lt_of_lt_of_le (by simp; omega) hg.size, hg3⟩
          rw [cds_app, List.length_append]; exact hown
        clear HO1k HO2k hown hg hat hne n1 E1 E2
        go_wp2
        go_roundg (l.length - (i + 1))
        case measure => omega
        case rel => exact ⟨i + 1, by omega, by go_num, HT.out, (by ((repeat (first | (with_reducible assumption) | ((with_reducible refine Keep.setCell ?_ ?_ _); rotate_left; focus (first | omega | (simp; done) | (simp; omega))) | (with_reducible refine Keep.alloc ?_ _) | (with_reducible refine Keep.drewN ?_ _) | (with_reducible refine Keep.drew ?_) | (with_reducible exact Keep.refl _) | refine Keep.trans ?_ (by with_reducible assumption) | exact Keep.refl _ | assumption))))⟩
    · have e2 : i = l.length := by omega
      subst e2
      rw [List.take_length] at HO1 HO2
      have HT : Aside (Two wr w.heap.size (.slice (some ⟨g1, 0, none⟩) (stL h l).length c1) (.slice (some ⟨g2, 0, none⟩) (drL h l).length c2) (stL h l) (drL h l)) := Aside.mk ⟨g1, c1, g2, c2, rfl, rfl, HO1.out, HO2.out, hne, hg1, hg2⟩
      clear HO1 HO2
      rw [List.take_length]
      go_wp2
      go_ret2; exact ⟨_, _, rfl, HT.out, (by ((repeat (first | (with_reducible assumption) | ((with_reducible refine Keep.setCell ?_ ?_ _); rotate_left; focus (first | omega | (simp; done) | (simp; omega))) | (with_reducible refine Keep.alloc ?_ _) | (with_reducible refine Keep.drewN ?_ _) | (with_reducible refine Keep.drew ?_) | (with_reducible exact Keep.refl _) | refine Keep.trans ?_ (by with_reducible assumption) | exact Keep.refl _ | assumption))))⟩
end Go.Proofs.YtpmilcfppcmodaaDoor

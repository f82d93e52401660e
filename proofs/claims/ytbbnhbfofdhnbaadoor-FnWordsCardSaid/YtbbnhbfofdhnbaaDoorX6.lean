/- The holes of a list of words: the walks. -/
import Derived.Test.YtbbnhbfofdhnbaaDoorX5
import Derived.Test.YtbbnhbfofdhnbaaDoorM2
set_option linter.unusedVariables false
set_option linter.unusedSimpArgs false
namespace Go.Proofs.YtbbnhbfofdhnbaaDoor
open Go.RowKit
set_option maxHeartbeats 4000000
set_option maxRecDepth 20000
def wLo (s z : Int) (T : List UInt8 → Nat) (x : ByteArray) : Wd := whLo s z (chk x.data.toList) (T x.data.toList)
def wHi (s z : Int) (T : List UInt8 → Nat) (x : ByteArray) : Wd := whHi s z (chk x.data.toList) (T x.data.toList)
/-- The holes of all these words. -/
def aLo (s z : Int) (T : List UInt8 → Nat) (l : List ByteArray) : Wd := l.foldl (fun a x => a ||| wLo s z T x) 0#64
def aHi (s z : Int) (T : List UInt8 → Nat) (l : List ByteArray) : Wd := l.foldl (fun a x => a ||| wHi s z T x) 0#64
theorem aLo_take (s z : Int) (T : List UInt8 → Nat) (l : List ByteArray) (i : Nat) (h : i < l.length) : aLo s z T (l.take (i + 1)) = aLo s z T (l.take i) ||| wLo s z T l[i] := by
  unfold aLo; rw [List.take_succ_eq_append_getElem h, List.foldl_append]; rfl
theorem aHi_take (s z : Int) (T : List UInt8 → Nat) (l : List ByteArray) (i : Nat) (h : i < l.length) : aHi s z T (l.take (i + 1)) = aHi s z T (l.take i) ||| wHi s z T l[i] := by
  unfold aHi; rw [List.take_succ_eq_append_getElem h, List.foldl_append]; rfl
theorem impl_holesOf (s z p : Int) (A : Option Addr) (l : List ByteArray) (c : Nat) (T : List UInt8 → Nat) (w : World) (hm : l.length ≤ 9223372036854775807) (hz : Szs l) (hR : Rd w A (strs l)) (s0 : 0 ≤ s) (z0 : 1 ≤ z) (hx : s + z ≤ 96) (hp : 0 ≤ p ∧ p ≤ 96) (hT : Tim s z p T) :
    Calls Tryd.prog 76 #[.agg #[.int .i16 s, .int .i16 z, .int .i16 p], .slice A l.length c] w fun e w' => e = .returned (.agg #[.int .u64 (U (aLo s z T l)), .int .u64 (U (aHi s z T l))]) ∧ Keep w w' := by
  go_enter Tryd.func76, Tryd.ntmps76
  go_wp2_with fail
  go_loopg [7, 11] l.length (fun k s7 s11 wr => ∃ i : Nat, i + k = l.length ∧ s11 = .int .i64 i ∧ Bx wr w.heap.size #[.int .i16 s, .int .i16 z, .int .i16 p] 42 ∧ Bx wr (w.heap.size + 1) #[.int .u64 0, .int .u64 0] 50 ∧ Bx wr (w.heap.size + 1 + 1) #[.int .u64 (U (aLo s z T (l.take i))), .int .u64 (U (aHi s z T (l.take i)))] 50 ∧ Keep w wr)
  case atStart => exact ⟨0, by omega, rfl, ((Bx.new _ _ _).alloc _).alloc _, (Bx.new1 _ _ _ _).alloc _, Bx.new2 _ _ _ _ _, (by ((repeat (first | (with_reducible assumption) | ((with_reducible refine Keep.setCell ?_ ?_ _); rotate_left; focus (first | omega | (simp; done) | (simp; omega))) | (with_reducible refine Keep.alloc ?_ _) | (with_reducible refine Keep.drewN ?_ _) | (with_reducible refine Keep.drew ?_) | (with_reducible exact Keep.refl _) | refine Keep.trans ?_ (by with_reducible assumption) | exact Keep.refl _ | assumption))))⟩
  case round =>
    obtain ⟨i, hi, rfl, hX, hR', hM, hk0⟩ := hrel
    by_cases hlt : i < l.length
    · obtain ⟨bb, o, rfl, hc⟩ := (hR.keep hk0).at (k := i) (by rw [strs_len]; exact hlt)
      have hcell := hc i _ (strs_at l i hlt)
      have hzs := hz l[i] (List.getElem_mem hlt)
      have HLo := Aside.mk (aLo_take s z T l i hlt)
      have HHi := Aside.mk (aHi_take s z T l i hlt)
      have hw := fun W => impl_wordHoles s z p l[i] (T l[i].data.toList) W hzs s0 z0 hx hp (hT _)
      rw [show whLo s z (chk l[i].data.toList) (T l[i].data.toList) = wLo s z T l[i] from rfl, show whHi s z (chk l[i].data.toList) (T l[i].data.toList) = wHi s z T l[i] from rfl] at hw
      generalize wLo s z T l[i] = u at *
      generalize wHi s z T l[i] = v' at *
      generalize aLo s z T (l.take i) = lo at *
      generalize aHi s z T (l.take i) = hi' at *
      clear hc hzs hT
      generalize l[i] = x at *
      have hXs := hX.three
      have hRs := hR'.two
      have hMs := hM.two
      go_wp2_with fail
      clear hXs hRs hMs
      apply wp_region_mono 5 [Fx _, Fx _, Fx _, Fx _, Fx _] (by kernel_rfl) (by kernel_rfl) (mono_of ⟨Fx.mono _, Fx.mono _, Fx.mono _, Fx.mono _, Fx.mono _, trivial⟩) ?st5 ?tl5
      case st5 =>
        simp only [List.take_succ_cons, List.take_zero, List.drop_succ_cons, List.drop_zero, putAll, Act.put, List.setIfInBounds_toArray, List.set_cons_succ, List.set_cons_zero, Nat.zero_add, Nat.reduceAdd]
        refine steps_cons ?_ (steps_cons ?_ (steps_cons ?_ (steps_cons ?_ (steps_cons ?_ steps_nil))))
        all_goals
          intro v w2 hk hd
          obtain ⟨hX_0, hX_1, hX_2, hX_3, hX_4, hX_5, hX_6⟩ := (hX.keep hk).three
          obtain ⟨hR'_0, hR'_1, hR'_2, hR'_3, hR'_4⟩ := (hR'.keep hk).two
          obtain ⟨hM_0, hM_1, hM_2, hM_3, hM_4⟩ := (hM.keep hk).two
          have hkz := hk.size
          simp [DepsOf, factAt, Fx, Region.binds] at hd
          simp only [factAt, List.getD_cons_zero, List.getD_cons_succ]
          refine Gives.mk ?_
          go_simp
          first | exact ⟨Keep.refl _, Fx.self _ _⟩ | exact ⟨(Keep.refl _).alloc _, _, rfl, Bx.new _ _ _, by first | omega | (simp; omega)⟩ | (go_at_call 55; exact gives_fx (hw _)) | (go_at_call 39; exact gives_fx (impl_JoinMasks _ _ _ _ _))
      simp only [List.take_succ_cons, List.take_zero, List.drop_succ_cons, List.drop_zero, putAll, Act.put, List.setIfInBounds_toArray, List.set_cons_succ, List.set_cons_zero, Nat.zero_add, Nat.reduceAdd]
      intro v w2 hk hh
      obtain ⟨hX_0, hX_1, hX_2, hX_3, hX_4, hX_5, hX_6⟩ := (hX.keep hk).three
      obtain ⟨hR'_0, hR'_1, hR'_2, hR'_3, hR'_4⟩ := (hR'.keep hk).two
      obtain ⟨hM_0, hM_1, hM_2, hM_3, hM_4⟩ := (hM.keep hk).two
      have hkz := hk.size
      simp only [Held, factAt, List.getD_cons_zero, List.getD_cons_succ, Fx, true_and] at hh
      obtain ⟨⟨⟨⟨v_0, v_1⟩, v_2⟩, v_3⟩, v_4⟩ := hh
      simp only [v_0, v_1, v_2, v_3, v_4]
      have v0 := Aside.mk (((hX.keep hk).set' (a := ⟨w.heap.size + 1 + 1, 0, none⟩) (by simp; try omega) (.int .u64 (U (lo ||| u)))).set' (a := ⟨w.heap.size + 1 + 1, 1, none⟩) (by simp; try omega) (.int .u64 (U (hi' ||| v'))))
      have v1 := Aside.mk (((hR'.keep hk).set' (a := ⟨w.heap.size + 1 + 1, 0, none⟩) (by simp; try omega) (.int .u64 (U (lo ||| u)))).set' (a := ⟨w.heap.size + 1 + 1, 1, none⟩) (by simp; try omega) (.int .u64 (U (hi' ||| v'))))
      have v2 : Aside (Bx ((w2.setCell ⟨w.heap.size + 1 + 1, 0, none⟩ (.int .u64 (U (lo ||| u)))).setCell ⟨w.heap.size + 1 + 1, 1, none⟩ (.int .u64 (U (hi' ||| v')))) (w.heap.size + 1 + 1) #[.int .u64 (U (lo ||| u)), .int .u64 (U (hi' ||| v'))] 50) := Aside.mk (((hM.keep hk).set (i := 0) _).set (i := 1) _)
      clear hX hR' hM hw
      go_wp2
      go_roundg (l.length - (i + 1))
      case measure => omega
      case rel => exact ⟨i + 1, by omega, by go_num, v0.out, v1.out, by rw [HLo.out, HHi.out]; exact v2.out, (by ((repeat (first | (with_reducible assumption) | ((with_reducible refine Keep.setCell ?_ ?_ _); rotate_left; focus (first | omega | (simp; done) | (simp; omega))) | (with_reducible refine Keep.alloc ?_ _) | (with_reducible refine Keep.drewN ?_ _) | (with_reducible refine Keep.drew ?_) | (with_reducible exact Keep.refl _) | refine Keep.trans ?_ (by with_reducible assumption) | exact Keep.refl _ | assumption))))⟩
    · have e2 : i = l.length := by omega
      subst e2
      rw [List.take_length] at hM
      clear hT hi
      obtain ⟨lo, hlo⟩ : ∃ x, aLo s z T l = x := ⟨_, rfl⟩
      obtain ⟨hi', hhi⟩ : ∃ x, aHi s z T l = x := ⟨_, rfl⟩
      rw [hlo, hhi] at hM
      have HL := Aside.mk hlo
      have HH := Aside.mk hhi
      clear hlo hhi
      have hRs := hR'.two
      have hMs := hM.two
      go_wp2
      (apply bodyPost_ret; rotate_left; rfl; exact ⟨rfl, (by ((repeat (first | (with_reducible assumption) | ((with_reducible refine Keep.setCell ?_ ?_ _); rotate_left; focus (first | omega | (simp; done) | (simp; omega))) | (with_reducible refine Keep.alloc ?_ _) | (with_reducible refine Keep.drewN ?_ _) | (with_reducible refine Keep.drew ?_) | (with_reducible exact Keep.refl _) | refine Keep.trans ?_ (by with_reducible assumption) | exact Keep.refl _ | assumption))))⟩; simp [results, Tryd.results76, go_sem, U_zero, *])
      exact ⟨by rw [HL.out], by rw [HH.out]⟩
end Go.Proofs.YtbbnhbfofdhnbaaDoor

/- Words that may be in a mask: the functions. -/
import Derived.Test.YtbbnhbfofdhnbaaDoorMW
import Derived.Test.YtbbnhbfofdhnbaaDoorX9
set_option linter.unusedVariables false
set_option linter.unusedSimpArgs false
namespace Go.Proofs.YtbbnhbfofdhnbaaDoor
open Go.RowKit
set_option maxHeartbeats 2000000
set_option maxRecDepth 20000
def mwE (s z p : Int) (b : Wd) (l : List ByteArray) : Int := cond (mixB s z p) (cond (okB b) (wsE l 40) 1) 1
def mwL (s z p : Int) (a b : Wd) (T : List UInt8 → Nat) (l : List ByteArray) : List Int := cond (mwE s z p b l == 0) (plN (mwAt s z T a b l) l.length) []
theorem mwE_ak (s z p : Int) (a b : Wd) (l : List ByteArray) : akE s z p [(a, b)] l 40 = mwE s z p b l := by
  unfold akE mwE okM
  cases mixB s z p <;> cases h : okB b <;> simp [h]
theorem mwE_cases (s z p : Int) (b : Wd) (l : List ByteArray) : (mwE s z p b l = 0 ∧ mixB s z p = true ∧ okB b = true ∧ l.length ≤ 40) ∨ mwE s z p b l ≠ 0 := by
  cases h1 : mixB s z p
  · right; simp [mwE, h1]
  · cases h2 : okB b
    · right; simp [mwE, h1, h2]
    · cases h3 : wsB l 40
      · right; simp [mwE, h1, h2, wsE, h3]
      · left
        refine ⟨by simp [mwE, h1, h2, wsE, h3], rfl, rfl, ?_⟩
        unfold wsB at h3; simp at h3; omega
theorem mwL_no {s z p : Int} {a b : Wd} {T : List UInt8 → Nat} {l : List ByteArray} (h : mwE s z p b l ≠ 0) : mwL s z p a b T l = [] := by
  unfold mwL
  have : (mwE s z p b l == 0) = false := by simpa using h
  rw [this]; rfl
theorem mwL_yes {s z p : Int} {a b : Wd} {T : List UInt8 → Nat} {l : List ByteArray} (h : mwE s z p b l = 0) : mwL s z p a b T l = plN (mwAt s z T a b l) l.length := by
  unfold mwL; rw [h]; rfl
theorem impl_checkVocabulary (s z p : Int) (a b : Wd) (A : Option Addr) (l : List ByteArray) (c : Nat) (w : World) (hw : I16 s ∧ I16 z ∧ I16 p) (hm : l.length ≤ 9223372036854775807) (hz : Szs l) (hR : Rd w A (strs l)) :
    Calls Tryd.prog 58 #[.agg #[.int .i16 s, .int .i16 z, .int .i16 p], .agg #[.int .u64 (U a), .int .u64 (U b)], .slice A l.length c] w fun e w' => e = .returned (.int .i64 (mwE s z p b l)) ∧ Keep w w' := by
  cases h1 : mixB s z p
  · simp only [mwE, h1, cond_false]
    go_enter Tryd.func58, Tryd.ntmps58
    (go_wp2_with fail); (go_at_call 54); (refine (impl_isMix _ _ _ _ hw.2.1 hw.2.2 hw.1).mono ?_); rintro e w1 ⟨rfl, hk1⟩
    rw [h1]
    go_wp2
    go_ret; exact ⟨rfl, (by ((repeat (first | (with_reducible assumption) | ((with_reducible refine Keep.setCell ?_ ?_ _); rotate_left; focus (first | omega | (simp; done) | (simp; omega))) | (with_reducible refine Keep.alloc ?_ _) | (with_reducible refine Keep.drewN ?_ _) | (with_reducible refine Keep.drew ?_) | (with_reducible exact Keep.refl _) | refine Keep.trans ?_ (by with_reducible assumption) | exact Keep.refl _ | assumption))))⟩
  · cases h2 : okB b
    · simp only [mwE, h1, h2, cond_true, cond_false]
      go_enter Tryd.func58, Tryd.ntmps58
      (go_wp2_with fail); (go_at_call 54); (refine (impl_isMix _ _ _ _ hw.2.1 hw.2.2 hw.1).mono ?_); rintro e w1 ⟨rfl, hk1⟩
      rw [h1]
      have hM : Bx w1 (w.heap.size + 1) #[.int .u64 (U a), .int .u64 (U b)] 50 := (Bx.new1 _ _ _ _).keep hk1
      have hMs := hM.two
      (go_wp2_with fail); (go_at_call 75); (refine (impl_isMask _ _ _).mono ?_); rintro e w2 ⟨rfl, hk2⟩
      rw [h2]
      go_wp2
      go_ret; exact ⟨rfl, (by ((repeat (first | (with_reducible assumption) | ((with_reducible refine Keep.setCell ?_ ?_ _); rotate_left; focus (first | omega | (simp; done) | (simp; omega))) | (with_reducible refine Keep.alloc ?_ _) | (with_reducible refine Keep.drewN ?_ _) | (with_reducible refine Keep.drew ?_) | (with_reducible exact Keep.refl _) | refine Keep.trans ?_ (by with_reducible assumption) | exact Keep.refl _ | assumption))))⟩
    · simp only [mwE, h1, h2, cond_true]
      have hI := fun W h => impl_areWords A l c 40 W hm hz h
      unfold wsE
      generalize wsB l 40 = r at *
      go_enter Tryd.func58, Tryd.ntmps58
      (go_wp2_with fail); (go_at_call 54); (refine (impl_isMix _ _ _ _ hw.2.1 hw.2.2 hw.1).mono ?_); rintro e w1 ⟨rfl, hk1⟩
      rw [h1]
      have hM : Bx w1 (w.heap.size + 1) #[.int .u64 (U a), .int .u64 (U b)] 50 := (Bx.new1 _ _ _ _).keep hk1
      have hMs := hM.two
      (go_wp2_with fail); (go_at_call 75); (refine (impl_isMask _ _ _).mono ?_); rintro e w2 ⟨rfl, hk2⟩
      rw [h2]
      have k2 : Keep w w2 := (by ((repeat (first | (with_reducible assumption) | ((with_reducible refine Keep.setCell ?_ ?_ _); rotate_left; focus (first | omega | (simp; done) | (simp; omega))) | (with_reducible refine Keep.alloc ?_ _) | (with_reducible refine Keep.drewN ?_ _) | (with_reducible refine Keep.drew ?_) | (with_reducible exact Keep.refl _) | refine Keep.trans ?_ (by with_reducible assumption) | exact Keep.refl _ | assumption))))
      clear hk1 hk2 hM hMs
      (go_wp2_with fail); (go_at_call 48); (refine (hI _ (hR.keep k2)).mono ?_); rintro e w3 ⟨rfl, hk3⟩
      cases r
      · go_wp2
        go_ret; exact ⟨rfl, (by ((repeat (first | (with_reducible assumption) | ((with_reducible refine Keep.setCell ?_ ?_ _); rotate_left; focus (first | omega | (simp; done) | (simp; omega))) | (with_reducible refine Keep.alloc ?_ _) | (with_reducible refine Keep.drewN ?_ _) | (with_reducible refine Keep.drew ?_) | (with_reducible exact Keep.refl _) | refine Keep.trans ?_ (by with_reducible assumption) | exact Keep.refl _ | assumption))))⟩
      · go_wp2
        go_ret; exact ⟨rfl, (by ((repeat (first | (with_reducible assumption) | ((with_reducible refine Keep.setCell ?_ ?_ _); rotate_left; focus (first | omega | (simp; done) | (simp; omega))) | (with_reducible refine Keep.alloc ?_ _) | (with_reducible refine Keep.drewN ?_ _) | (with_reducible refine Keep.drew ?_) | (with_reducible exact Keep.refl _) | refine Keep.trans ?_ (by with_reducible assumption) | exact Keep.refl _ | assumption))))⟩
theorem impl_MaybeWords (s z p : Int) (a b : Wd) (A : Option Addr) (l : List ByteArray) (c : Nat) (T : List UInt8 → Nat) (w : World) (hw : I16 s ∧ I16 z ∧ I16 p) (hm : l.length ≤ 9223372036854775807) (hz : Szs l) (hR : Rd w A (strs l)) (hT : MTim s z p T) :
    Calls Tryd.prog 28 #[.agg #[.int .i16 s, .int .i16 z, .int .i16 p], .agg #[.int .u64 (U a), .int .u64 (U b)], .slice A l.length c] w fun e w' => ∃ v, e = .returned (.tuple #[v, .int .i64 (mwE s z p b l)]) ∧ w'.ownsRow w.heap.size 2 1 v (mwL s z p a b T l).length (ints (mwL s z p a b T l)) ∧ Keep w w' := by
  have hc := fun W h => impl_checkVocabulary s z p a b A l c W hw hm hz h
  rcases mwE_cases s z p b l with ⟨h0, hmx, hb, h40⟩ | h0
  · have hmf := mix_facts hmx
    have hh := Aside.mk (fun W h => impl_maybe s z p a b A l c T W (by omega) hz h hmf.1 (by omega) hmf.2.2.1 ⟨by omega, by omega⟩ (hT hmx))
    rw [mwL_yes h0]
    rw [h0] at hc
    rw [h0]
    clear hT h0
    generalize plN (mwAt s z T a b l) l.length = L at *
    go_enter Tryd.func28, Tryd.ntmps28
    (go_wp2_with fail); (go_at_call 58); (refine (hc _ (hR.keep (((Keep.refl _).alloc _).alloc _))).mono ?_); rintro e w1 ⟨rfl, hk1⟩
    have hX : Bx w1 w.heap.size #[.int .i16 s, .int .i16 z, .int .i16 p] 42 := ((Bx.new _ _ _).alloc _).keep hk1
    have hM : Bx w1 (w.heap.size + 1) #[.int .u64 (U a), .int .u64 (U b)] 50 := (Bx.new1 _ _ _ _).keep hk1
    have k1 : Keep w w1 := (by ((repeat (first | (with_reducible assumption) | ((with_reducible refine Keep.setCell ?_ ?_ _); rotate_left; focus (first | omega | (simp; done) | (simp; omega))) | (with_reducible refine Keep.alloc ?_ _) | (with_reducible refine Keep.drewN ?_ _) | (with_reducible refine Keep.drew ?_) | (with_reducible exact Keep.refl _) | refine Keep.trans ?_ (by with_reducible assumption) | exact Keep.refl _ | assumption))))
    clear hk1
    have hXs := hX.three
    have hMs := hM.two
    (go_wp2_with fail); (go_at_call 59); (refine (hh.out _ (hR.keep k1)).mono ?_); rintro e w2 ⟨v, rfl, ho, hk2⟩
    have HO := Aside.mk (own_base ho k1.size)
    have k2 : Keep w w2 := (by ((repeat (first | (with_reducible assumption) | ((with_reducible refine Keep.setCell ?_ ?_ _); rotate_left; focus (first | omega | (simp; done) | (simp; omega))) | (with_reducible refine Keep.alloc ?_ _) | (with_reducible refine Keep.drewN ?_ _) | (with_reducible refine Keep.drew ?_) | (with_reducible exact Keep.refl _) | refine Keep.trans ?_ (by with_reducible assumption) | exact Keep.refl _ | assumption))))
    clear ho hk2 hX hM hXs hMs
    go_wp2
    go_ret2; exact ⟨_, rfl, HO.out, (by ((repeat (first | (with_reducible assumption) | ((with_reducible refine Keep.setCell ?_ ?_ _); rotate_left; focus (first | omega | (simp; done) | (simp; omega))) | (with_reducible refine Keep.alloc ?_ _) | (with_reducible refine Keep.drewN ?_ _) | (with_reducible refine Keep.drew ?_) | (with_reducible exact Keep.refl _) | refine Keep.trans ?_ (by with_reducible assumption) | exact Keep.refl _ | assumption))))⟩
  · rw [mwL_no h0]
    clear hT
    generalize mwE s z p b l = y at *
    go_enter Tryd.func28, Tryd.ntmps28
    (go_wp2_with fail); (go_at_call 58); (refine (hc _ (hR.keep (((Keep.refl _).alloc _).alloc _))).mono ?_); rintro e w1 ⟨rfl, hk1⟩
    go_wp2
    go_ret2; exact ⟨_, rfl, World.ownsRow_nil _ _ _ _, (by ((repeat (first | (with_reducible assumption) | ((with_reducible refine Keep.setCell ?_ ?_ _); rotate_left; focus (first | omega | (simp; done) | (simp; omega))) | (with_reducible refine Keep.alloc ?_ _) | (with_reducible refine Keep.drewN ?_ _) | (with_reducible refine Keep.drew ?_) | (with_reducible exact Keep.refl _) | refine Keep.trans ?_ (by with_reducible assumption) | exact Keep.refl _ | assumption))))⟩
theorem spec_MaybeWords (s z p : Int) (a b : Wd) (A : Option Addr) (l : List ByteArray) (c : Nat) (T : List UInt8 → Nat) (w : World) (hw : I16 s ∧ I16 z ∧ I16 p) (hm : l.length ≤ 9223372036854775807) (hz : Szs l) (hR : Rd w A (strs l)) (hT : MTim s z p T) :
    Calls Tryd.prog 26 #[.agg #[.int .i16 s, .int .i16 z, .int .i16 p], .agg #[.int .u64 (U a), .int .u64 (U b)], .slice A l.length c] w fun e w' => ∃ v, e = .returned (.tuple #[v, .int .i64 (mwE s z p b l)]) ∧ w'.ownsRow w.heap.size 2 1 v (mwL s z p a b T l).length (ints (mwL s z p a b T l)) ∧ Keep w w' := by
  have hc : ∀ W g, Rd W A (strs l) → Bx W w.heap.size #[.int .i16 s, .int .i16 z, .int .i16 p] 42 → Bx W g #[.int .u64 (U a), .int .u64 (U b)] 50 → Calls Tryd.prog 52 #[.pointer (some ⟨w.heap.size, 0, none⟩), .slice (some ⟨g, 0, none⟩) 1 1, .slice A l.length c, .int .i64 40] W fun e w' => e = .returned (.int .i64 (mwE s z p b l)) ∧ Keep W w' :=
    fun W g h hX hg => by
      obtain ⟨b0, b1, b2, _⟩ := hX.three
      have := spec_l03Asked s z p w.heap.size 0 (some ⟨g, 0, none⟩) [(a, b)] 1 A l c 40 W hw (by simp) (rd_mask hg) hm hz h b0 b1 b2
      rw [mwE_ak] at this
      exact this
  have HX := Aside.mk (((Bx.new w #[.int .i16 s, .int .i16 z, .int .i16 p] 42).alloc (.cells #[.int .u64 (U a), .int .u64 (U b)] 50)).alloc (.cells #[.int .u64 (U a), .int .u64 (U b)] 50))
  rcases mwE_cases s z p b l with ⟨h0, hmx, hb, h40⟩ | h0
  · have hmf := mix_facts hmx
    have hh := Aside.mk (fun W h h1 h2 h3 => spec_l03Maybe s z p w.heap.size 0 a b A l c T W (by omega) hz h hmf.1 (by omega) hmf.2.2.1 ⟨by omega, by omega⟩ (hT hmx) h1 h2 h3)
    rw [mwL_yes h0]
    rw [h0] at hc
    rw [h0]
    clear hT h0
    generalize plN (mwAt s z T a b l) l.length = L at *
    go_enter Tryd.func26, Tryd.ntmps26
    (go_wp2_with fail); (go_at_call 52); (refine (hc _ _ (hR.keep ((((Keep.refl _).alloc _).alloc _).alloc _)) HX.out (Bx.new2 _ _ _ _ _)).mono ?_); rintro e w1 ⟨rfl, hk1⟩
    have hX : Bx w1 w.heap.size #[.int .i16 s, .int .i16 z, .int .i16 p] 42 := HX.out.keep hk1
    have hM : Bx w1 (w.heap.size + 1) #[.int .u64 (U a), .int .u64 (U b)] 50 := ((Bx.new1 _ _ _ _).alloc _).keep hk1
    have k1 : Keep w w1 := (by ((repeat (first | (with_reducible assumption) | ((with_reducible refine Keep.setCell ?_ ?_ _); rotate_left; focus (first | omega | (simp; done) | (simp; omega))) | (with_reducible refine Keep.alloc ?_ _) | (with_reducible refine Keep.drewN ?_ _) | (with_reducible refine Keep.drew ?_) | (with_reducible exact Keep.refl _) | refine Keep.trans ?_ (by with_reducible assumption) | exact Keep.refl _ | assumption))))
    clear hk1 HX
    have hXs := hX.three
    have hMs := hM.two
    (go_wp2_with fail); (go_at_call 57); (refine (hh.out _ (hR.keep k1) hXs.1 hXs.2.1 hXs.2.2.1).mono ?_); rintro e w2 ⟨v, rfl, ho, hk2⟩
    have HO := Aside.mk (own_base ho k1.size)
    have k2 : Keep w w2 := (by ((repeat (first | (with_reducible assumption) | ((with_reducible refine Keep.setCell ?_ ?_ _); rotate_left; focus (first | omega | (simp; done) | (simp; omega))) | (with_reducible refine Keep.alloc ?_ _) | (with_reducible refine Keep.drewN ?_ _) | (with_reducible refine Keep.drew ?_) | (with_reducible exact Keep.refl _) | refine Keep.trans ?_ (by with_reducible assumption) | exact Keep.refl _ | assumption))))
    clear ho hk2 hX hM hXs hMs
    go_wp2
    go_ret2; exact ⟨_, rfl, HO.out, (by ((repeat (first | (with_reducible assumption) | ((with_reducible refine Keep.setCell ?_ ?_ _); rotate_left; focus (first | omega | (simp; done) | (simp; omega))) | (with_reducible refine Keep.alloc ?_ _) | (with_reducible refine Keep.drewN ?_ _) | (with_reducible refine Keep.drew ?_) | (with_reducible exact Keep.refl _) | refine Keep.trans ?_ (by with_reducible assumption) | exact Keep.refl _ | assumption))))⟩
  · rw [mwL_no h0]
    clear hT
    generalize mwE s z p b l = y at *
    go_enter Tryd.func26, Tryd.ntmps26
    (go_wp2_with fail); (go_at_call 52); (refine (hc _ _ (hR.keep ((((Keep.refl _).alloc _).alloc _).alloc _)) HX.out (Bx.new2 _ _ _ _ _)).mono ?_); rintro e w1 ⟨rfl, hk1⟩
    have hz9 : w.heap.size ≤ w1.heap.size := by have := hk1.size; simp at this; omega
    go_wp2
    go_ret2; exact ⟨_, rfl, by simpa [ints] using own_empty w1 w.heap.size 2 hz9, (by ((repeat (first | (with_reducible assumption) | ((with_reducible refine Keep.setCell ?_ ?_ _); rotate_left; focus (first | omega | (simp; done) | (simp; omega))) | (with_reducible refine Keep.alloc ?_ _) | (with_reducible refine Keep.drewN ?_ _) | (with_reducible refine Keep.drew ?_) | (with_reducible exact Keep.refl _) | refine Keep.trans ?_ (by with_reducible assumption) | exact Keep.refl _ | assumption))))⟩
end Go.Proofs.YtbbnhbfofdhnbaaDoor

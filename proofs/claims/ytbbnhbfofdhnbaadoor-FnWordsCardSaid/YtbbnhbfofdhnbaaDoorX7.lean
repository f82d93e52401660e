/- Masks in a row; what is asked with them. -/
import Derived.Test.YtbbnhbfofdhnbaaDoorX5
import Derived.Test.YtbbnhbfofdhnbaaDoorM2
import Derived.Test.YtbbnhbfofdhnbaaDoorMK
set_option linter.unusedVariables false
set_option linter.unusedSimpArgs false
namespace Go.Proofs.YtbbnhbfofdhnbaaDoor
open Go.RowKit
set_option maxHeartbeats 2000000
set_option maxRecDepth 20000
def okM (m : Wd × Wd) : Bool := okB m.2
def akE (s z p : Int) (ms : List (Wd × Wd)) (l : List ByteArray) (n : Int) : Int := cond (mixB s z p) (cond (ms.any fun m => !okM m) 1 (cond (decide (ms.length ≤ 60)) (wsE l n) 2)) 1
theorem spec_l03Asked (s z p : Int) (g o : Nat) (M : Option Addr) (ms : List (Wd × Wd)) (mc : Nat) (A : Option Addr) (l : List ByteArray) (c : Nat) (n : Int) (w : World) (hw : I16 s ∧ I16 z ∧ I16 p) (hmm : ms.length ≤ 9223372036854775807) (hM : Rd w M (msks ms)) (hm : l.length ≤ 9223372036854775807) (hz : Szs l) (hR : Rd w A (strs l))
    (c0 : w.cell? ⟨g, o, none⟩ = some (.int .i16 s)) (c1 : w.cell? ⟨g, o + 1, none⟩ = some (.int .i16 z)) (c2 : w.cell? ⟨g, o + 2, none⟩ = some (.int .i16 p)) :
    Calls Tryd.prog 52 #[.pointer (some ⟨g, o, none⟩), .slice M ms.length mc, .slice A l.length c, .int .i64 n] w fun e w' => e = .returned (.int .i64 (akE s z p ms l n)) ∧ Keep w w' := by
  cases h1 : mixB s z p <;> simp only [akE, h1, cond_true, cond_false]
  · go_enter Tryd.func52, Tryd.ntmps52
    (go_wp2_with fail); (go_at_call 84); (refine (spec_l03Ok s z p _ _ _ hw.2.1 hw.2.2 hw.1 c0 c1 c2).mono ?_); rintro e w1 ⟨rfl, hk1⟩
    rw [h1]
    go_wp2
    go_ret; exact ⟨rfl, (by ((repeat (first | (with_reducible assumption) | ((with_reducible refine Keep.setCell ?_ ?_ _); rotate_left; focus (first | omega | (simp; done) | (simp; omega))) | (with_reducible refine Keep.alloc ?_ _) | (with_reducible refine Keep.drewN ?_ _) | (with_reducible refine Keep.drew ?_) | (with_reducible exact Keep.refl _) | refine Keep.trans ?_ (by with_reducible assumption) | exact Keep.refl _ | assumption))))⟩
  · go_enter Tryd.func52, Tryd.ntmps52
    (go_wp2_with fail); (go_at_call 84); (refine (spec_l03Ok s z p _ _ _ hw.2.1 hw.2.2 hw.1 c0 c1 c2).mono ?_); rintro e w1 ⟨rfl, hk1⟩
    rw [h1]
    have k1 : Keep w w1 := (by ((repeat (first | (with_reducible assumption) | ((with_reducible refine Keep.setCell ?_ ?_ _); rotate_left; focus (first | omega | (simp; done) | (simp; omega))) | (with_reducible refine Keep.alloc ?_ _) | (with_reducible refine Keep.drewN ?_ _) | (with_reducible refine Keep.drew ?_) | (with_reducible exact Keep.refl _) | refine Keep.trans ?_ (by with_reducible assumption) | exact Keep.refl _ | assumption))))
    clear hk1
    go_wp2_with fail
    go_loopg [9] ms.length (fun k s9 wr => ∃ i : Nat, i + k = ms.length ∧ s9 = .int .i64 i ∧ (ms.take i).any (fun m => !okM m) = false ∧ Keep w wr)
    case atStart => exact ⟨0, by omega, rfl, rfl, (by ((repeat (first | (with_reducible assumption) | ((with_reducible refine Keep.setCell ?_ ?_ _); rotate_left; focus (first | omega | (simp; done) | (simp; omega))) | (with_reducible refine Keep.alloc ?_ _) | (with_reducible refine Keep.drewN ?_ _) | (with_reducible refine Keep.drew ?_) | (with_reducible exact Keep.refl _) | refine Keep.trans ?_ (by with_reducible assumption) | exact Keep.refl _ | assumption))))⟩
    case round =>
      obtain ⟨i, hi, rfl, hal, hk⟩ := hrel
      have HL := Aside.mk hal
      clear hal
      by_cases hlt : i < ms.length
      · obtain ⟨bb, o', rfl, hc⟩ := (hM.keep hk).at (k := i) (by rw [msks_len]; omega)
        have hcell := hc _ _ (msks_at ms i hlt).1
        have hcell2 := hc _ _ (msks_at ms i hlt).2
        have hT := any_take (q := fun m => !okM m) hlt
        rw [HL.out, Bool.false_or] at hT
        have HQ := Aside.mk (fun h => any_of (q := fun m => !okM m) hlt h)
        have HT := Aside.mk hT
        rw [← Nat.add_assoc] at hcell2
        clear hc hT
        rw [show okM ms[i] = okB ms[i].2 from rfl] at HT HQ
        generalize ms[i].1 = a at *
        generalize ms[i].2 = b at *
        (go_wp2_with fail); (go_at_call 85); (refine (spec_ValidMask _ _ _).mono ?_); rintro e w2 ⟨rfl, hk2⟩
        cases hb : okB b
        · have hA := HQ.out (by rw [hb]; rfl)
          have HA := Aside.mk hA
          clear hA
          go_wp2
          go_ret; exact ⟨by rw [HA.out]; rfl, (by ((repeat (first | (with_reducible assumption) | ((with_reducible refine Keep.setCell ?_ ?_ _); rotate_left; focus (first | omega | (simp; done) | (simp; omega))) | (with_reducible refine Keep.alloc ?_ _) | (with_reducible refine Keep.drewN ?_ _) | (with_reducible refine Keep.drew ?_) | (with_reducible exact Keep.refl _) | refine Keep.trans ?_ (by with_reducible assumption) | exact Keep.refl _ | assumption))))⟩
        · rw [hb] at HT
          go_wp2
          go_roundg (ms.length - (i + 1))
          case measure => omega
          case rel => exact ⟨i + 1, by omega, by go_num, HT.out, (by ((repeat (first | (with_reducible assumption) | ((with_reducible refine Keep.setCell ?_ ?_ _); rotate_left; focus (first | omega | (simp; done) | (simp; omega))) | (with_reducible refine Keep.alloc ?_ _) | (with_reducible refine Keep.drewN ?_ _) | (with_reducible refine Keep.drew ?_) | (with_reducible exact Keep.refl _) | refine Keep.trans ?_ (by with_reducible assumption) | exact Keep.refl _ | assumption))))⟩
      · have e2 : i = ms.length := by omega
        subst e2
        have hal : ms.any (fun m => !okM m) = false := by have := HL.out; rwa [List.take_length] at this
        have HA := Aside.mk hal
        clear hal
        by_cases h60 : ms.length ≤ 60
        · have HB := Aside.mk (decide_eq_true h60)
          have hW := fun W h => spec_l03Words A l c n W hm hz h
          obtain ⟨y, hy⟩ : ∃ y, wsE l n = y := ⟨_, rfl⟩
          rw [hy] at hW
          have HY := Aside.mk hy
          clear hy
          (go_wp2_with fail); (go_at_call 46); (refine (hW _ (hR.keep hk)).mono ?_); rintro e w2 ⟨rfl, hk2⟩
          go_wp2
          go_ret; exact ⟨by rw [HA.out, HB.out, HY.out]; rfl, (by ((repeat (first | (with_reducible assumption) | ((with_reducible refine Keep.setCell ?_ ?_ _); rotate_left; focus (first | omega | (simp; done) | (simp; omega))) | (with_reducible refine Keep.alloc ?_ _) | (with_reducible refine Keep.drewN ?_ _) | (with_reducible refine Keep.drew ?_) | (with_reducible exact Keep.refl _) | refine Keep.trans ?_ (by with_reducible assumption) | exact Keep.refl _ | assumption))))⟩
        · have HB := Aside.mk (decide_eq_false h60)
          go_wp2
          go_ret; exact ⟨by rw [HA.out, HB.out]; rfl, (by ((repeat (first | (with_reducible assumption) | ((with_reducible refine Keep.setCell ?_ ?_ _); rotate_left; focus (first | omega | (simp; done) | (simp; omega))) | (with_reducible refine Keep.alloc ?_ _) | (with_reducible refine Keep.drewN ?_ _) | (with_reducible refine Keep.drew ?_) | (with_reducible exact Keep.refl _) | refine Keep.trans ?_ (by with_reducible assumption) | exact Keep.refl _ | assumption))))⟩
end Go.Proofs.YtbbnhbfofdhnbaaDoor

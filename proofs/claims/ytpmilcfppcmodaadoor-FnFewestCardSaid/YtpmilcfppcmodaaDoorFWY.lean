/- The fewest needles: the wanted cards. -/
import Derived.Test.YtpmilcfppcmodaaDoorGM
import Derived.Test.YtpmilcfppcmodaaDoorAQ
import Derived.Test.YtpmilcfppcmodaaDoorAO
import Derived.Test.YtpmilcfppcmodaaDoorDK2
import Derived.Test.YtpmilcfppcmodaaDoorPN
import Derived.Test.YtpmilcfppcmodaaDoorLate
import Derived.Test.YtpmilcfppcmodaaDoorL1
import Derived.Test.YtpmilcfppcmodaaDoorP1
set_option linter.unusedVariables false
set_option linter.unusedSimpArgs false
namespace Go.Proofs.YtpmilcfppcmodaaDoor
open Go.RowKit Go.Shelf
set_option maxHeartbeats 1000000
set_option maxRecDepth 20000
theorem slices_EqualI (A B : Option Addr) (l m : List Int) (c d : Nat) (w : World) (hl : l.length ≤ 9223372036854775807) (hm : m.length ≤ 9223372036854775807) (hR : Rd w A (ints l)) (hS : Rd w B (ints m)) :
    Calls Tryd.prog 131 #[.slice A l.length c, .slice B m.length d] w fun e w' => e = .returned (.bool (decide (l = m))) ∧ Keep w w' := by
  by_cases hne : l.length = m.length
  · have HN := Aside.mk hne
    have hne' : (l.length : Int) = m.length := by omega
    clear hne
    go_enter Tryd.func131, Tryd.ntmps131
    go_wp2_with fail
    go_loopg [13] l.length (fun k s5 wr => ∃ i : Nat, i + k = l.length ∧ s5 = .int .i64 i ∧ l.take i = m.take i ∧ Keep w wr)
    case atStart => exact ⟨0, by omega, rfl, rfl, (by ((repeat (first | (with_reducible assumption) | ((with_reducible refine Keep.setCell ?_ ?_ _); rotate_left; focus (first | omega | (simp; done) | (simp; omega))) | (with_reducible refine Keep.alloc ?_ _) | (with_reducible refine Keep.drewN ?_ _) | (with_reducible refine Keep.drew ?_) | (with_reducible exact Keep.refl _) | refine Keep.trans ?_ (by with_reducible assumption) | exact Keep.refl _ | assumption))))⟩
    case round =>
      obtain ⟨i, hi, rfl, htk, hk0⟩ := hrel
      have HT := Aside.mk htk
      clear htk
      by_cases hlt : i < l.length
      · have hlt2 : i < m.length := by have := HN.out; omega
        obtain ⟨bb, o, rfl, hc⟩ := (hR.keep hk0).at (k := i) (by rw [ints_len]; omega)
        obtain ⟨b2, o2, rfl, hc2⟩ := (hS.keep hk0).at (k := i) (by rw [ints_len]; omega)
        have p1 := hc _ _ (ints_at l i hlt)
        have q1 := hc2 _ _ (ints_at m i hlt2)
        have HQ := Aside.mk (fun h => neI_at hlt hlt2 h)
        have HE := Aside.mk (takeI_eq hlt hlt2 HT.out)
        clear hc hc2
        generalize l[i] = x at *
        generalize m[i] = y at *
        go_wp2_with fail
        refine wp_region_keep (by kernel_rfl) (by kernel_rfl) ?_
        repeat
          first
            | (apply QuietL.run
               focus go_simp
               focus
                 intro w2 hk
                 have p1' := hk.cell p1
                 have q1' := hk.cell q1
                 apply QAt.mk
                 go_simp
                 first
                   | done
                   | exact rfl
               simp only [Act.put, List.setIfInBounds_toArray, List.set_cons_succ, List.set_cons_zero])
            | (apply QuietL.skip
               focus go_simp
               simp only [Act.put, List.setIfInBounds_toArray, List.set_cons_succ, List.set_cons_zero])
        apply QuietL.nil
        intro w2 hk
        have p1' := hk.cell p1
        have q1' := hk.cell q1
        have k2 : Keep w w2 := Keep.trans hk0 hk
        by_cases hxy : x = y
        · have HE2 := Aside.mk (HE.out.2 hxy)
          subst hxy
          clear p1 q1 p1' q1' hk hk0
          go_wp2
          go_roundg (l.length - (i + 1))
          case measure => omega
          case rel => exact ⟨i + 1, by omega, by go_num, HE2.out, (by ((repeat (first | (with_reducible assumption) | ((with_reducible refine Keep.setCell ?_ ?_ _); rotate_left; focus (first | omega | (simp; done) | (simp; omega))) | (with_reducible refine Keep.alloc ?_ _) | (with_reducible refine Keep.drewN ?_ _) | (with_reducible refine Keep.drew ?_) | (with_reducible exact Keep.refl _) | refine Keep.trans ?_ (by with_reducible assumption) | exact Keep.refl _ | assumption))))⟩
        · have HF := Aside.mk (HQ.out hxy)
          clear p1 q1 p1' q1' hk hk0
          go_wp2
          go_ret; exact ⟨rb HF.out.symm, (by ((repeat (first | (with_reducible assumption) | ((with_reducible refine Keep.setCell ?_ ?_ _); rotate_left; focus (first | omega | (simp; done) | (simp; omega))) | (with_reducible refine Keep.alloc ?_ _) | (with_reducible refine Keep.drewN ?_ _) | (with_reducible refine Keep.drew ?_) | (with_reducible exact Keep.refl _) | refine Keep.trans ?_ (by with_reducible assumption) | exact Keep.refl _ | assumption))))⟩
      · have e2 : i = l.length := by omega
        subst e2
        have hal : l = m := by have := HT.out; rwa [List.take_length, HN.out, List.take_length] at this
        have HA := Aside.mk (decide_eq_true hal)
        clear hal
        go_wp2
        go_ret; exact ⟨rb HA.out.symm, (by ((repeat (first | (with_reducible assumption) | ((with_reducible refine Keep.setCell ?_ ?_ _); rotate_left; focus (first | omega | (simp; done) | (simp; omega))) | (with_reducible refine Keep.alloc ?_ _) | (with_reducible refine Keep.drewN ?_ _) | (with_reducible refine Keep.drew ?_) | (with_reducible exact Keep.refl _) | refine Keep.trans ?_ (by with_reducible assumption) | exact Keep.refl _ | assumption))))⟩
  · have e : decide (l = m) = false := decide_eq_false (fun h => hne (by rw [h]))
    rw [e]
    go_enter Tryd.func131, Tryd.ntmps131
    go_wp2
    go_ret; exact ⟨rfl, (by ((repeat (first | (with_reducible assumption) | ((with_reducible refine Keep.setCell ?_ ?_ _); rotate_left; focus (first | omega | (simp; done) | (simp; omega))) | (with_reducible refine Keep.alloc ?_ _) | (with_reducible refine Keep.drewN ?_ _) | (with_reducible refine Keep.drew ?_) | (with_reducible exact Keep.refl _) | refine Keep.trans ?_ (by with_reducible assumption) | exact Keep.refl _ | assumption))))⟩
/-- Do these needles drop the wanted cards and no others? -/
def fitB (l : List Cd) (wd : List Int) (a b : Wd) : Bool := decide (ansL l [⟨a, b, 0#64, 0#64⟩] = wd)
/-- Is no card notched at all holes of a mask? -/
def freeB (l : List Cd) (a b : Wd) : Bool := !(l.any fun c => withinB a b c.a c.b)
theorem spec_l02Free (A : Option Addr) (l : List Cd) (c : Nat) (a b : Wd) (w : World) (hm : l.length ≤ 1048576) (hR : Rd w A (cds l)) :
    Calls Tryd.prog 133 #[.slice A l.length c, .agg #[.int .u64 (U a), .int .u64 (U b)]] w fun e w' => e = .returned (.bool (freeB l a b)) ∧ Keep w w' := by
  go_enter Tryd.func133, Tryd.ntmps133
  go_wp2_with fail
  go_loopg [5] l.length (fun k s5 wr => ∃ i : Nat, i + k = l.length ∧ s5 = .int .i64 i ∧ (l.take i).any (fun c => withinB a b c.a c.b) = false ∧ Bx wr w.heap.size #[.int .u64 (U a), .int .u64 (U b)] 33 ∧ Keep w wr)
  case atStart => exact ⟨0, by omega, rfl, rfl, Bx.new _ _ _, (by ((repeat (first | (with_reducible assumption) | ((with_reducible refine Keep.setCell ?_ ?_ _); rotate_left; focus (first | omega | (simp; done) | (simp; omega))) | (with_reducible refine Keep.alloc ?_ _) | (with_reducible refine Keep.drewN ?_ _) | (with_reducible refine Keep.drew ?_) | (with_reducible exact Keep.refl _) | refine Keep.trans ?_ (by with_reducible assumption) | exact Keep.refl _ | assumption))))⟩
  case round =>
    obtain ⟨i, hi, rfl, hal, hX, hk0⟩ := hrel
    have HL := Aside.mk hal
    clear hal
    by_cases hlt : i < l.length
    · obtain ⟨bb, o, rfl, hc⟩ := (hR.keep hk0).at (k := i) (by rw [cds_len]; omega)
      obtain ⟨r1, r2, r3⟩ := cds_at l i hlt
      have p2 := hc _ _ r2
      have p3 := hc _ _ r3
      rw [← Nat.add_assoc] at p2 p3
      have hT := any_takeD (q := fun c : Cd => withinB a b c.a c.b) hlt
      rw [HL.out, Bool.false_or] at hT
      have HT := Aside.mk hT
      have HQ := Aside.mk (fun h => any_ofD (q := fun c : Cd => withinB a b c.a c.b) hlt h)
      clear hc hT r1 r2 r3
      generalize l[i] = x at *
      obtain ⟨s, xa, xb⟩ := x
      simp only at p2 p3 HT HQ
      go_wp2_with fail
      refine wp_region_keep (by kernel_rfl) (by kernel_rfl) ?_
      repeat
        first
          | (apply QuietL.run
             focus go_simp
             focus
               intro w2 hk
               have p2' := hk.cell p2
               have p3' := hk.cell p3
               obtain ⟨hX_0, hX_1, hX_2, hX_3, hX_4⟩ := (hX.keep hk).two
               apply QAt.mk
               go_simp
               first
                 | done
                 | exact rfl
                 | (go_at_call 158; exact quiet_call hk (spec_IsWithin _ _ _ _ _))
             simp only [Act.put, List.setIfInBounds_toArray, List.set_cons_succ, List.set_cons_zero])
          | (apply QuietL.skip
             focus go_simp
             simp only [Act.put, List.setIfInBounds_toArray, List.set_cons_succ, List.set_cons_zero])
      apply QuietL.nil
      intro w2 hk
      have p2' := hk.cell p2
      have p3' := hk.cell p3
      have hX := hX.keep hk
      obtain ⟨hX_0, hX_1, hX_2, hX_3, hX_4⟩ := hX.two
      have kk := hk0.trans hk
      clear p2 p3 p2' p3'
      cases hb : withinB a b xa xb
      · rw [hb] at HT
        clear HQ
        go_wp2
        go_roundg (l.length - (i + 1))
        case measure => omega
        case rel => exact ⟨i + 1, by omega, by go_num, HT.out, hX, kk⟩
      · have HA := Aside.mk (show freeB l a b = false by unfold freeB; rw [HQ.out hb]; rfl)
        clear HQ HT
        go_wp2
        go_ret; exact ⟨rb HA.out.symm, kk⟩
    · have e2 : i = l.length := by omega
      subst e2
      have hal := HL.out
      rw [List.take_length] at hal
      have HA := Aside.mk (show freeB l a b = true by unfold freeB; rw [hal]; rfl)
      clear hal
      go_wp2
      go_ret; exact ⟨rb HA.out.symm, (by ((repeat (first | (with_reducible assumption) | ((with_reducible refine Keep.setCell ?_ ?_ _); rotate_left; focus (first | omega | (simp; done) | (simp; omega))) | (with_reducible refine Keep.alloc ?_ _) | (with_reducible refine Keep.drewN ?_ _) | (with_reducible refine Keep.drew ?_) | (with_reducible exact Keep.refl _) | refine Keep.trans ?_ (by with_reducible assumption) | exact Keep.refl _ | assumption))))⟩
theorem spec_l02Fits (A B : Option Addr) (l : List Cd) (wd : List Int) (c d : Nat) (a b : Wd) (w : World) (hm : l.length ≤ 1048576) (hw : wd.length ≤ 9223372036854775807) (hR : Rd w A (cds l)) (hS : Rd w B (ints wd)) :
    Calls Tryd.prog 134 #[.slice A l.length c, .slice B wd.length d, .agg #[.int .u64 (U a), .int .u64 (U b)]] w fun e w' => e = .returned (.bool (fitB l wd a b)) ∧ Keep w w' := by
  have hA := Aside.mk (fun W g (h : Bx W g #[.int .u64 (U a), .int .u64 (U b), .int .u64 (U (0#64)), .int .u64 (U (0#64))] 35) hr => spec_l02Answer A l c (some ⟨g, 0, none⟩) [⟨a, b, 0#64, 0#64⟩] 1 W hm (by simp) hr (rd_qry (q := ⟨a, b, 0#64, 0#64⟩) h))
  have hl : (ansL l [⟨a, b, 0#64, 0#64⟩]).length ≤ 1048576 := by have := anN_len l [⟨a, b, 0#64, 0#64⟩] l.length; unfold ansL; omega
  unfold fitB
  generalize ansL l [⟨a, b, 0#64, 0#64⟩] = L at *
  go_enter Tryd.func134, Tryd.ntmps134
  (go_wp2_with fail); (go_at_call 69); (refine (hA.out _ _ (by first | exact Bx.new _ _ _ | exact Bx.new1 _ _ _ _) (hR.keep (by ((repeat (first | (with_reducible assumption) | ((with_reducible refine Keep.setCell ?_ ?_ _); rotate_left; focus (first | omega | (simp; done) | (simp; omega))) | (with_reducible refine Keep.alloc ?_ _) | (with_reducible refine Keep.drewN ?_ _) | (with_reducible refine Keep.drew ?_) | (with_reducible exact Keep.refl _) | refine Keep.trans ?_ (by with_reducible assumption) | exact Keep.refl _ | assumption)))))).mono ?_); rintro e w3 ⟨v, rfl, ho, hk3⟩
  have hg := Own.new ho
  obtain ⟨A5, c5, rfl⟩ := hg.form
  have hW : Keep w w3 := (by ((repeat (first | (with_reducible assumption) | ((with_reducible refine Keep.setCell ?_ ?_ _); rotate_left; focus (first | omega | (simp; done) | (simp; omega))) | (with_reducible refine Keep.alloc ?_ _) | (with_reducible refine Keep.drewN ?_ _) | (with_reducible refine Keep.drew ?_) | (with_reducible exact Keep.refl _) | refine Keep.trans ?_ (by with_reducible assumption) | exact Keep.refl _ | assumption))))
  clear ho hk3
  (go_wp2_with fail); (go_at_call 83); (refine (spec_l00Same _ _ _ _ _ _ _ (by omega) hw hg.rd (hS.keep hW)).mono ?_); rintro e w4 ⟨rfl, hk4⟩
  go_wp2
  go_ret; exact ⟨rfl, (by ((repeat (first | (with_reducible assumption) | ((with_reducible refine Keep.setCell ?_ ?_ _); rotate_left; focus (first | omega | (simp; done) | (simp; omega))) | (with_reducible refine Keep.alloc ?_ _) | (with_reducible refine Keep.drewN ?_ _) | (with_reducible refine Keep.drew ?_) | (with_reducible exact Keep.refl _) | refine Keep.trans ?_ (by with_reducible assumption) | exact Keep.refl _ | assumption))))⟩
end Go.Proofs.YtpmilcfppcmodaaDoor
namespace Go.Proofs.YtpmilcfppcmodaaDoor
open Go.RowKit Go.Shelf
set_option maxHeartbeats 1000000
set_option maxRecDepth 20000
/-- Is the wanted number at this place an index, and behind the one ahead of it? -/
def wnAt (l : List Int) (n : Nat) (i : Nat) : Bool := match l[i]? with
  | some x => inB x 0 ((n : Int) - 1) && (match i with
    | 0 => true
    | j + 1 => match l[j]? with
      | some y => decide (y < x)
      | none => true)
  | none => true
def wnB (l : List Int) (n : Nat) : Bool := (List.range l.length).all (wnAt l n)
theorem wnAt_zero {l : List Int} {n : Nat} (h : 0 < l.length) : wnAt l n 0 = inB l[0] 0 ((n : Int) - 1) := by
  unfold wnAt; rw [List.getElem?_eq_getElem h]; simp
theorem wnAt_succ {l : List Int} {n m : Nat} (h : m + 1 < l.length) : wnAt l n (m + 1) = (inB l[m + 1] 0 ((n : Int) - 1) && decide (l[m] < l[m + 1])) := by
  unfold wnAt; rw [List.getElem?_eq_getElem h]; simp [List.getElem?_eq_getElem (show m < l.length by omega)]
theorem spec_l02Wanted (B : Option Addr) (l : List Int) (d n : Nat) (w : World) (hm : l.length ≤ 9223372036854775807) (hn : n ≤ 1048576) (hS : Rd w B (ints l)) :
    Calls Tryd.prog 75 #[.slice B l.length d, .int .i64 ((n : Int))] w fun e w' => e = .returned (.bool (wnB l n)) ∧ Keep w w' := by
  have wqn : IntKind.i64.wrap ((n : Int) - 1) = (n : Int) - 1 := wrapI64 ⟨by omega, by omega⟩
  go_enter Tryd.func75, Tryd.ntmps75
  go_wp2_with fail
  go_loopg [5] l.length (fun k s5 wr => ∃ i : Nat, i + k = l.length ∧ s5 = .int .i64 i ∧ (List.range i).all (wnAt l n) = true ∧ Keep w wr)
  case atStart => exact ⟨0, by omega, rfl, rfl, (by ((repeat (first | (with_reducible assumption) | ((with_reducible refine Keep.setCell ?_ ?_ _); rotate_left; focus (first | omega | (simp; done) | (simp; omega))) | (with_reducible refine Keep.alloc ?_ _) | (with_reducible refine Keep.drewN ?_ _) | (with_reducible refine Keep.drew ?_) | (with_reducible exact Keep.refl _) | refine Keep.trans ?_ (by with_reducible assumption) | exact Keep.refl _ | assumption))))⟩
  case round =>
    obtain ⟨i, hi, rfl, hal, hk0⟩ := hrel
    have HL := Aside.mk hal
    clear hal
    by_cases hlt : i < l.length
    · obtain ⟨bb, o, rfl, hc⟩ := (hS.keep hk0).at (k := i) (by rw [ints_len]; omega)
      have p1 := hc _ _ (ints_at l i hlt)
      have HSS := Aside.mk (rall_succ (wnAt l n) i)
      have HNO := Aside.mk (fun h => (rall_no (p := wnAt l n) hlt h : (List.range l.length).all (wnAt l n) = false))
      by_cases hi0 : 0 < i
      · obtain ⟨m, hm1⟩ : ∃ m, i = m + 1 := ⟨i - 1, by omega⟩
        have hml : m < l.length := by omega
        have q1 := hc _ _ (ints_at l m hml)
        have hB : Aside (wnAt l n i = (inB l[i] 0 ((n : Int) - 1) && decide (l[m] < l[i]))) := Aside.mk (by subst hm1; exact wnAt_succ hlt)
        have hsub : ((i : Int) - 1) = (m : Int) := by omega
        have hwm : IntKind.i64.wrap (m : Int) = m := wrapI64 ⟨by omega, by omega⟩
        clear hc hm1
        generalize l[i] = x at *
        generalize l[m] = y at *
        have hin := Aside.mk (fun W => spec_l00In x 0 ((n : Int) - 1) W)
        generalize inB x 0 ((n : Int) - 1) = r at *
        go_wp2_with fail
        cases r
        ·
          refine wp_region_keep (by kernel_rfl) (by kernel_rfl) ?_
          repeat
            first
              | (apply QuietL.run
                 focus go_simp
                 focus
                   intro w2 hk
                   have p1' := hk.cell p1
                   have q1' := hk.cell q1
                   apply QAt.mk
                   go_simp
                   first
                     | done
                     | exact rfl
                     | (go_at_call 132; exact quiet_call hk (hin.out _))
                 simp only [Act.put, List.setIfInBounds_toArray, List.set_cons_succ, List.set_cons_zero])
              | (apply QuietL.skip
                 focus (first | (go_simp; done) | (simp only [undef]; go_simp))
                 simp only [Act.put, List.setIfInBounds_toArray, List.set_cons_succ, List.set_cons_zero])
          apply QuietL.nil
          intro w2 hk
          have p1' := hk.cell p1
          have q1' := hk.cell q1
          have HA := Aside.mk (show wnB l n = false from HNO.out (by rw [hB.out]; rfl))
          clear HNO HSS hB HL
          go_wp2
          go_ret; exact ⟨rb HA.out.symm, Keep.trans hk0 hk⟩
        · by_cases hxy : x ≤ y
          ·
            refine wp_region_keep (by kernel_rfl) (by kernel_rfl) ?_
            repeat
              first
                | (apply QuietL.run
                   focus go_simp
                   focus
                     intro w2 hk
                     have p1' := hk.cell p1
                     have q1' := hk.cell q1
                     apply QAt.mk
                     go_simp
                     first
                       | done
                       | exact rfl
                       | (go_at_call 132; exact quiet_call hk (hin.out _))
                   simp only [Act.put, List.setIfInBounds_toArray, List.set_cons_succ, List.set_cons_zero])
                | (apply QuietL.skip
                   focus (first | (go_simp; done) | (simp only [undef]; go_simp))
                   simp only [Act.put, List.setIfInBounds_toArray, List.set_cons_succ, List.set_cons_zero])
            apply QuietL.nil
            intro w2 hk
            have p1' := hk.cell p1
            have q1' := hk.cell q1
            have HA := Aside.mk (show wnB l n = false from HNO.out (by rw [hB.out]; simp; omega))
            clear HNO HSS hB HL
            go_wp2
            go_ret; exact ⟨rb HA.out.symm, Keep.trans hk0 hk⟩
          ·
            refine wp_region_keep (by kernel_rfl) (by kernel_rfl) ?_
            repeat
              first
                | (apply QuietL.run
                   focus go_simp
                   focus
                     intro w2 hk
                     have p1' := hk.cell p1
                     have q1' := hk.cell q1
                     apply QAt.mk
                     go_simp
                     first
                       | done
                       | exact rfl
                       | (go_at_call 132; exact quiet_call hk (hin.out _))
                   simp only [Act.put, List.setIfInBounds_toArray, List.set_cons_succ, List.set_cons_zero])
                | (apply QuietL.skip
                   focus (first | (go_simp; done) | (simp only [undef]; go_simp))
                   simp only [Act.put, List.setIfInBounds_toArray, List.set_cons_succ, List.set_cons_zero])
            apply QuietL.nil
            intro w2 hk
            have p1' := hk.cell p1
            have q1' := hk.cell q1
            have HA := Aside.mk (show (List.range (i + 1)).all (wnAt l n) = true by rw [HSS.out, HL.out, hB.out]; simp; omega)
            clear HNO HSS hB HL
            go_wp2
            go_roundg (l.length - (i + 1))
            case measure => omega
            case rel => exact ⟨i + 1, by omega, by go_num, HA.out, Keep.trans hk0 hk⟩
      · obtain rfl : i = 0 := by omega
        have hB : Aside (wnAt l n 0 = inB l[0] 0 ((n : Int) - 1)) := Aside.mk (wnAt_zero hlt)
        rw [Nat.add_zero] at p1
        clear hc
        generalize l[0] = x at *
        have hin := Aside.mk (fun W => spec_l00In x 0 ((n : Int) - 1) W)
        generalize inB x 0 ((n : Int) - 1) = r at *
        go_wp2_with fail
        cases r
        ·
          refine wp_region_keep (by kernel_rfl) (by kernel_rfl) ?_
          repeat
            first
              | (apply QuietL.run
                 focus go_simp
                 focus
                   intro w2 hk
                   have p1' := hk.cell p1
                   apply QAt.mk
                   go_simp
                   first
                     | done
                     | exact rfl
                     | (go_at_call 132; exact quiet_call hk (hin.out _))
                 simp only [Act.put, List.setIfInBounds_toArray, List.set_cons_succ, List.set_cons_zero])
              | (apply QuietL.skip
                 focus (first | (go_simp; done) | (simp only [undef]; go_simp))
                 simp only [Act.put, List.setIfInBounds_toArray, List.set_cons_succ, List.set_cons_zero])
          apply QuietL.nil
          intro w2 hk
          have p1' := hk.cell p1
          have HA := Aside.mk (show wnB l n = false from HNO.out (by rw [hB.out]))
          clear HNO HSS hB HL
          go_wp2
          go_ret; exact ⟨rb HA.out.symm, Keep.trans hk0 hk⟩
        ·
          refine wp_region_keep (by kernel_rfl) (by kernel_rfl) ?_
          repeat
            first
              | (apply QuietL.run
                 focus go_simp
                 focus
                   intro w2 hk
                   have p1' := hk.cell p1
                   apply QAt.mk
                   go_simp
                   first
                     | done
                     | exact rfl
                     | (go_at_call 132; exact quiet_call hk (hin.out _))
                 simp only [Act.put, List.setIfInBounds_toArray, List.set_cons_succ, List.set_cons_zero])
              | (apply QuietL.skip
                 focus (first | (go_simp; done) | (simp only [undef]; go_simp))
                 simp only [Act.put, List.setIfInBounds_toArray, List.set_cons_succ, List.set_cons_zero])
          apply QuietL.nil
          intro w2 hk
          have p1' := hk.cell p1
          have HA := Aside.mk (show (List.range (0 + 1)).all (wnAt l n) = true by rw [HSS.out, HL.out, hB.out]; rfl)
          clear HNO HSS hB HL
          go_wp2
          go_roundg (l.length - (0 + 1))
          case measure => omega
          case rel => exact ⟨0 + 1, by omega, by go_num, HA.out, Keep.trans hk0 hk⟩
    · have e2 : i = l.length := by omega
      subst e2
      have HA := Aside.mk (show wnB l n = true from HL.out)
      go_wp2
      go_ret; exact ⟨rb HA.out.symm, (by ((repeat (first | (with_reducible assumption) | ((with_reducible refine Keep.setCell ?_ ?_ _); rotate_left; focus (first | omega | (simp; done) | (simp; omega))) | (with_reducible refine Keep.alloc ?_ _) | (with_reducible refine Keep.drewN ?_ _) | (with_reducible refine Keep.drew ?_) | (with_reducible exact Keep.refl _) | refine Keep.trans ?_ (by with_reducible assumption) | exact Keep.refl _ | assumption))))⟩
end Go.Proofs.YtpmilcfppcmodaaDoor

set_option linter.unusedVariables false
set_option linter.unusedSimpArgs false
namespace Go.Proofs.YtpmilcfppcmodaaDoor
open Go.RowKit Go.Shelf
set_option maxHeartbeats 2000000
set_option maxRecDepth 20000
/-- The first answer of so many places from a place on. -/
def scan {α : Type} (g : Nat → Option α) (f : Nat) : Nat → Option α
  | 0 => none
  | n + 1 => match scan g f n with
    | some r => some r
    | none => g (f + n)
theorem scan_none {α : Type} {g : Nat → Option α} {f n : Nat} (h : scan g f n = none) (h2 : g (f + n) = none) : scan g f (n + 1) = none := by simp [scan, h, h2]
theorem scan_some {α : Type} {g : Nat → Option α} {f n : Nat} {r : α} (h : scan g f n = none) (h2 : g (f + n) = some r) : ∀ N, n < N → scan g f N = some r
  | 0, hN => by omega
  | N + 1, hN => by
    by_cases e : n = N
    · subst e; simp [scan, h, h2]
    · have := scan_some h h2 N (by omega)
      simp [scan, this]
/-- The first mask that fits, with so many more holes from a hole on. -/
def srch (P : Wd → Wd → Bool) (may : Nat → Bool) : Nat → Nat → Wd → Wd → Option (Wd × Wd)
  | 0, _, a, b => if P a b then some (a, b) else none
  | k + 1, f, a, b => scan (fun h => if may h then srch P may k (h + 1) (a ||| bitLo h) (b ||| bitHi h) else none) f (96 - f)
/-- The mask that the search returns, found or not. -/
def srV (P : Wd → Wd → Bool) (may : Nat → Bool) (k f : Nat) (a b : Wd) : Wd × Wd := match k with
  | 0 => (a, b)
  | k + 1 => match srch P may (k + 1) f a b with
    | some z => z
    | none => (0#64, 0#64)
theorem srV_some {P : Wd → Wd → Bool} {may : Nat → Bool} {k f : Nat} {a b : Wd} {z : Wd × Wd} (h : srch P may k f a b = some z) : srV P may k f a b = z := by
  cases k with
  | zero =>
    unfold srch at h
    by_cases hP : P a b = true
    · rw [if_pos hP] at h; exact Option.some.inj h
    · rw [if_neg hP] at h; simp at h
  | succ k => simp only [srV]; rw [h]
theorem srV_none {P : Wd → Wd → Bool} {may : Nat → Bool} {k f : Nat} {a b : Wd} (h : srch P may (k + 1) f a b = none) : srV P may (k + 1) f a b = (0#64, 0#64) := by
  simp only [srV]; rw [h]
/-- One place of the search. -/
def srG (P : Wd → Wd → Bool) (may : Nat → Bool) (k : Nat) (a b : Wd) (h : Nat) : Option (Wd × Wd) := if may h then srch P may k (h + 1) (a ||| bitLo h) (b ||| bitHi h) else none
theorem srch_succ (P : Wd → Wd → Bool) (may : Nat → Bool) (k f : Nat) (a b : Wd) : srch P may (k + 1) f a b = scan (srG P may k a b) f (96 - f) := rfl
attribute [irreducible] srch
theorem spec_l02More (A B : Option Addr) (l : List Cd) (wd : List Int) (c d : Nat) (ma mb : Wd) (hm : l.length ≤ 1048576) (hw : wd.length ≤ 9223372036854775807) :
    ∀ (k f : Nat) (a b : Wd) (w : World), k ≤ 3 → f ≤ 96 → Rd w A (cds l) → Rd w B (ints wd) →
    Calls Tryd.prog 78 #[.slice A l.length c, .slice B wd.length d, .agg #[.int .u64 (U a), .int .u64 (U b)], .int .i64 ((f : Int)), .int .i64 ((k : Int)), .agg #[.int .u64 (U ma), .int .u64 (U mb)]] w fun e w' => e = .returned (.tuple #[.agg #[.int .u64 (U ((srV (fitB l wd) (fun h => hasB ma mb h) k f a b).1)), .int .u64 (U ((srV (fitB l wd) (fun h => hasB ma mb h) k f a b).2))], .bool (srch (fitB l wd) (fun h => hasB ma mb h) k f a b).isSome]) ∧ Keep w w'
  | 0, f, a, b, w, hk, hf, hR, hS => by
    have hF := Aside.mk (fun W hr hs => spec_l02Fits A B l wd c d a b W hm hw hr hs)
    have e1 : (srch (fitB l wd) (fun h => hasB ma mb h) 0 f a b).isSome = fitB l wd a b := by
      unfold srch; cases fitB l wd a b <;> rfl
    rw [e1, show srV (fitB l wd) (fun h => hasB ma mb h) 0 f a b = (a, b) from rfl]
    clear e1
    generalize fitB l wd a b = q at *
    go_enter Tryd.func78, Tryd.ntmps78
    go_wp2_with fail
    refine wp_gen (fun W => Bx W w.heap.size #[.int .u64 (U a), .int .u64 (U b)] 33 ∧ Bx W (w.heap.size + 1) #[.int .u64 (U ma), .int .u64 (U mb)] 33 ∧ Bx W (w.heap.size + 1 + 1) #[.int .u64 0, .int .u64 0] 33 ∧ Keep w W) ⟨((Bx.new _ _ _).alloc _).alloc _, (Bx.new1 _ _ _ _).alloc _, Bx.new2 _ _ _ _ _, (by ((repeat (first | (with_reducible assumption) | ((with_reducible refine Keep.setCell ?_ ?_ _); rotate_left; focus (first | omega | (simp; done) | (simp; omega))) | (with_reducible refine Keep.alloc ?_ _) | (with_reducible refine Keep.drewN ?_ _) | (with_reducible refine Keep.drew ?_) | (with_reducible exact Keep.refl _) | refine Keep.trans ?_ (by with_reducible assumption) | exact Keep.refl _ | assumption))))⟩ ?_
    rintro W ⟨hM, hY, hZ, hW⟩
    have hR1 := hR.keep hW
    have hS1 := hS.keep hW
    clear hk hf
    apply wp_region_mono 5 [Fx _, Fx _, Fx _, Fx _, Fx _] (by kernel_rfl) (by kernel_rfl) (mono_of ⟨Fx.mono _, Fx.mono _, Fx.mono _, Fx.mono _, Fx.mono _, trivial⟩) ?st13 ?tl13
    case st13 =>
      simp only [List.take_succ_cons, List.take_zero, List.drop_succ_cons, List.drop_zero, putAll, Act.put, List.setIfInBounds_toArray, List.set_cons_succ, List.set_cons_zero, Nat.zero_add, Nat.reduceAdd]
      refine steps_cons ?_ (steps_cons ?_ (steps_cons ?_ (steps_cons ?_ (steps_cons ?_ steps_nil))))
      all_goals
        intro v w2 hk hd
        obtain ⟨hM_0, hM_1, hM_2, hM_3, hM_4⟩ := (hM.keep hk).two
        obtain ⟨hZ_0, hZ_1, hZ_2, hZ_3, hZ_4⟩ := (hZ.keep hk).two
        have hkz := hk.size
        simp [DepsOf, factAt, Fx, Region.binds] at hd
        simp only [factAt, List.getD_cons_zero, List.getD_cons_succ]
        refine Gives.mk ?_
        go_simp
        first | exact ⟨Keep.refl _, Fx.self _ _⟩ | exact ⟨(Keep.refl _).alloc _, _, rfl, Bx.new _ _ _, by first | omega | (simp; omega)⟩ | (go_at_call 134; exact gives_fx (hF.out _ (hR1.keep hk) (hS1.keep hk)))
    simp only [List.take_succ_cons, List.take_zero, List.drop_succ_cons, List.drop_zero, putAll, Act.put, List.setIfInBounds_toArray, List.set_cons_succ, List.set_cons_zero, Nat.zero_add, Nat.reduceAdd]
    intro v w2 hk hh
    obtain ⟨hM_0, hM_1, hM_2, hM_3, hM_4⟩ := (hM.keep hk).two
    obtain ⟨hZ_0, hZ_1, hZ_2, hZ_3, hZ_4⟩ := (hZ.keep hk).two
    have hkz := hk.size
    simp only [Held, factAt, List.getD_cons_zero, List.getD_cons_succ, Fx, true_and] at hh
    obtain ⟨⟨⟨⟨v_0, v_1⟩, v_2⟩, v_3⟩, v_4⟩ := hh
    simp only [v_0, v_1, v_2, v_3, v_4]
    replace hW := hW.trans hk
    go_wp2
    (apply bodyPost_ret; rotate_left; rfl; exact ⟨rfl, (by ((repeat (first | (with_reducible assumption) | ((with_reducible refine Keep.setCell ?_ ?_ _); rotate_left; focus (first | omega | (simp; done) | (simp; omega))) | (with_reducible refine Keep.alloc ?_ _) | (with_reducible refine Keep.drewN ?_ _) | (with_reducible refine Keep.drew ?_) | (with_reducible exact Keep.refl _) | refine Keep.trans ?_ (by with_reducible assumption) | exact Keep.refl _ | assumption))))⟩; simp [results, Tryd.results78, go_sem, U_zero, *])
  | k + 1, f, a, b, w, hk, hf, hR, hS => by
    obtain ⟨P, hP⟩ : ∃ P, fitB l wd = P := ⟨_, rfl⟩
    obtain ⟨may, hmay⟩ : ∃ may : Nat → Bool, (fun h : Nat => hasB ma mb (h : Int)) = may := ⟨_, rfl⟩
    have hrec := fun (h : Nat) (a b : Wd) (W : World) (h2 : h ≤ 96) (h3 : Rd W A (cds l)) (h4 : Rd W B (ints wd)) => spec_l02More A B l wd c d ma mb hm hw k h a b W (by omega) h2 h3 h4
    simp only [hP, hmay] at hrec
    rw [hP, hmay]
    obtain ⟨kk, hkk⟩ : ∃ kk : Int, ((k + 1 : Nat) : Int) = kk := ⟨_, rfl⟩
    have hks : (k : Int) = kk - 1 := by omega
    rw [hks] at hrec
    rw [hkk]
    have HREC := Aside.mk hrec
    have hk1 : ¬ kk = 0 := by omega
    have hkb : (kk == 0) = false := by simpa using hk1
    have hk2 : 0 ≤ kk ∧ kk ≤ 4 := by omega
    have wq : IntKind.i64.wrap (kk - 1) = kk - 1 := wrapI64 ⟨by omega, by omega⟩
    have HS := Aside.mk (srch_succ P may k f a b)
    have HV := Aside.mk (fun z => srV_some (P := P) (may := may) (k := k + 1) (f := f) (a := a) (b := b) (z := z))
    have HN := Aside.mk (srV_none (P := P) (may := may) (k := k) (f := f) (a := a) (b := b))
    obtain ⟨R, hRR⟩ : ∃ R, srch P may (k + 1) f a b = R := ⟨_, rfl⟩
    obtain ⟨V, hVV⟩ : ∃ V, srV P may (k + 1) f a b = V := ⟨_, rfl⟩
    rw [hRR, hVV]
    rw [hRR] at HS
    simp only [hRR, hVV] at HV HN
    clear hRR hVV hks hkk hrec hP
    go_enter Tryd.func78, Tryd.ntmps78
    go_wp2_with fail
    try simp only [hkb]
    go_loopg [14] (96 - f) (fun n s14 wr => ∃ h : Nat, h + n = 96 ∧ f ≤ h ∧ s14 = .int .i64 h ∧ scan (srG P may k a b) f (h - f) = none ∧ Bx wr w.heap.size #[.int .u64 (U a), .int .u64 (U b)] 33 ∧ Bx wr (w.heap.size + 1) #[.int .u64 (U ma), .int .u64 (U mb)] 33 ∧ Bx wr (w.heap.size + 1 + 1) #[.int .u64 0, .int .u64 0] 33 ∧ Keep w wr)
    case atStart => exact ⟨f, by omega, Nat.le_refl _, rfl, by rw [Nat.sub_self]; rfl, ((Bx.new _ _ _).alloc _).alloc _, (Bx.new1 _ _ _ _).alloc _, Bx.new2 _ _ _ _ _, (by ((repeat (first | (with_reducible assumption) | ((with_reducible refine Keep.setCell ?_ ?_ _); rotate_left; focus (first | omega | (simp; done) | (simp; omega))) | (with_reducible refine Keep.alloc ?_ _) | (with_reducible refine Keep.drewN ?_ _) | (with_reducible refine Keep.drew ?_) | (with_reducible exact Keep.refl _) | refine Keep.trans ?_ (by with_reducible assumption) | exact Keep.refl _ | assumption))))⟩
    case round =>
      obtain ⟨h, hh, hfh, rfl, hsc, hM, hY, hZ, hk0⟩ := hrel
      have HSC := Aside.mk hsc
      clear hsc
      by_cases hlt : h < 96
      · have hYs := hY.two
        (go_wp2_with fail); (go_at_call 98); (refine (spec_l01Has _ _ _ (by omega) (by omega) _).mono ?_); rintro e w1 ⟨rfl, hkh⟩
        have hmh : hasB ma mb (h : Int) = may h := by rw [← hmay]
        rw [hmh]
        have kk1 : Keep wr w1 := (by ((repeat (first | (with_reducible assumption) | ((with_reducible refine Keep.setCell ?_ ?_ _); rotate_left; focus (first | omega | (simp; done) | (simp; omega))) | (with_reducible refine Keep.alloc ?_ _) | (with_reducible refine Keep.drewN ?_ _) | (with_reducible refine Keep.drew ?_) | (with_reducible exact Keep.refl _) | refine Keep.trans ?_ (by with_reducible assumption) | exact Keep.refl _ | assumption))))
        replace hM := hM.keep kk1
        replace hY := hY.keep kk1
        replace hZ := hZ.keep kk1
        have k1 := hk0.trans kk1
        clear hkh hYs kk1 hk0 hmh
        cases hmy : may h
        · have HG := Aside.mk (show scan (srG P may k a b) f (h + 1 - f) = none by
            rw [show h + 1 - f = h - f + 1 by omega]
            exact scan_none HSC.out (by rw [show f + (h - f) = h by omega]; unfold srG; rw [hmy]; rfl))
          clear HSC hmy
          go_wp2
          go_roundg (96 - (h + 1))
          case measure => omega
          case rel => exact ⟨h + 1, by omega, by omega, by go_num, HG.out, hM, hY, hZ, (by ((repeat (first | (with_reducible assumption) | ((with_reducible refine Keep.setCell ?_ ?_ _); rotate_left; focus (first | omega | (simp; done) | (simp; omega))) | (with_reducible refine Keep.alloc ?_ _) | (with_reducible refine Keep.drewN ?_ _) | (with_reducible refine Keep.drew ?_) | (with_reducible exact Keep.refl _) | refine Keep.trans ?_ (by with_reducible assumption) | exact Keep.refl _ | assumption))))⟩
        · have hg : srG P may k a b h = srch P may k (h + 1) (a ||| bitLo h) (b ||| bitHi h) := by unfold srG; rw [hmy]; rfl
          have hr := fun W h3 h4 => HREC.out (h + 1) (a ||| bitLo h) (b ||| bitHi h) W (by omega) h3 h4
          rw [show ((h + 1 : Nat) : Int) = (h : Int) + 1 by omega] at hr
          have HE := Aside.mk (fun z => srV_some (P := P) (may := may) (k := k) (f := h + 1) (a := a ||| bitLo h) (b := b ||| bitHi h) (z := z))
          have HSN := Aside.mk (fun (e : srG P may k a b h = none) => (show scan (srG P may k a b) f (h + 1 - f) = none by
            rw [show h + 1 - f = h - f + 1 by omega]
            exact scan_none HSC.out (by rw [show f + (h - f) = h by omega]; exact e)))
          have HSY := Aside.mk (fun z (e : srG P may k a b h = some z) => scan_some (n := h - f) HSC.out (by rw [show f + (h - f) = h by omega]; exact e) (96 - f) (by omega))
          obtain ⟨r2, hr2⟩ : ∃ r, srch P may k (h + 1) (a ||| bitLo h) (b ||| bitHi h) = r := ⟨_, rfl⟩
          obtain ⟨⟨x, y⟩, hv2⟩ : ∃ r, srV P may k (h + 1) (a ||| bitLo h) (b ||| bitHi h) = r := ⟨_, rfl⟩
          rw [hr2] at hg
          simp only [hr2, hv2] at hr HE
          have hc := Aside.mk hr
          have HGG := Aside.mk hg
          clear hr hg hr2 hv2 HSC hmy
          have hR1 := hR.keep k1
          have hS1 := hS.keep k1
          have wqh : IntKind.i64.wrap ((h : Int) + 1) = (h : Int) + 1 := wrapI64 ⟨by omega, by omega⟩
          clear hk hf
          go_wp2_with fail
          apply wp_region_late 16 14 [Fx _, Fx _, Fx _, Fx _, Fx _, Fx _, Fx _, Fx _, Fx _, Fx _, Fx _, Fx _, Fx _, Fx _, Fx _] (Al (w1.heap.size) #[.int .u64 0, .int .u64 0] 33) (Al (w1.heap.size) #[.int .u64 (U x), .int .u64 (U y)] 33) (by kernel_rfl) (by kernel_rfl) rfl (by simp) ⟨Fx.free _, Fx.free _, Fx.free _, Fx.free _, Fx.free _, Fx.free _, Fx.free _, Fx.free _, Fx.free _, Fx.free _, Fx.free _, Fx.free _, Fx.free _, Fx.free _, Fx.free _, trivial⟩ (Al.mono _ _ _) (Al.mono _ _ _) ?st14 ?so14 ?la14 ?tl14
          case st14 =>
            simp only [List.take_succ_cons, List.take_zero, List.drop_succ_cons, List.drop_zero, putAll, Act.put, List.setIfInBounds_toArray, List.set_cons_succ, List.set_cons_zero, Nat.zero_add, Nat.reduceAdd]
            simp only [List.cons_append, List.nil_append]
            refine steps_cons ?_ (steps_cons ?_ (steps_cons ?_ (steps_cons ?_ (steps_cons ?_ (steps_cons ?_ (steps_cons ?_ (steps_cons ?_ (steps_cons ?_ (steps_cons ?_ (steps_cons ?_ (steps_cons ?_ (steps_cons ?_ (steps_cons ?_ (steps_cons ?_ (steps_cons ?_ steps_nil)))))))))))))))
            all_goals
              intro v w2 hk hd
              obtain ⟨hM_0, hM_1, hM_2, hM_3, hM_4⟩ := (hM.keep hk).two
              obtain ⟨hY_0, hY_1, hY_2, hY_3, hY_4⟩ := (hY.keep hk).two
              obtain ⟨hZ_0, hZ_1, hZ_2, hZ_3, hZ_4⟩ := (hZ.keep hk).two
              have hkz := hk.size
              simp [DepsOf, factAt, Fx, Region.binds] at hd
              simp only [factAt, List.getD_cons_zero, List.getD_cons_succ]
              refine Gives.mk ?_
              go_simp
              first | exact ⟨Keep.refl _, Fx.self _ _⟩ | exact ⟨(Keep.refl _).alloc _, _, rfl, Bx.new _ _ _, by first | omega | (simp; omega)⟩ | (go_at_call 123; exact gives_fx (spec_l01Bit _ (by omega) (by omega) _)) | (go_at_call 120; exact gives_fx (spec_l01Join _ _ _ _ _)) | (go_at_call 78; exact gives_fx (hc.out _ (hR1.keep hk) (hS1.keep hk)))
          case so14 =>
            intro v w2 hk hd o ho
            obtain ⟨hM_0, hM_1, hM_2, hM_3, hM_4⟩ := (hM.keep hk).two
            obtain ⟨hY_0, hY_1, hY_2, hY_3, hY_4⟩ := (hY.keep hk).two
            obtain ⟨hZ_0, hZ_1, hZ_2, hZ_3, hZ_4⟩ := (hZ.keep hk).two
            have hkz := hk.size
            have v_0 := hd 0 (by decide) (by decide)
            have v_1 := hd 1 (by decide) (by decide)
            have v_2 := hd 2 (by decide) (by decide)
            have v_3 := hd 3 (by decide) (by decide)
            have v_4 := hd 4 (by decide) (by decide)
            have v_5 := hd 5 (by decide) (by decide)
            have v_6 := hd 6 (by decide) (by decide)
            have v_7 := hd 7 (by decide) (by decide)
            have v_8 := hd 8 (by decide) (by decide)
            have v_9 := hd 9 (by decide) (by decide)
            have v_10 := hd 10 (by decide) (by decide)
            have v_11 := hd 11 (by decide) (by decide)
            have v_12 := hd 12 (by decide) (by decide)
            have v_13 := hd 13 (by decide) (by decide)
            simp only [List.cons_append, List.nil_append, factAt, List.getD_cons_zero, List.getD_cons_succ, Fx] at v_0 v_1 v_2 v_3 v_4 v_5 v_6 v_7 v_8 v_9 v_10 v_11 v_12 v_13
            obtain ⟨g, v_15, hG, hg⟩ := hd 15 (by decide) (by decide)
            obtain ⟨hG_0, hG_1, hG_2, hG_3, hG_4⟩ := hG.two
            obtain rfl := Option.some.inj ho
            simp only [List.take_succ_cons, List.take_zero, List.drop_succ_cons, List.drop_zero, putAll, Act.put, List.setIfInBounds_toArray, List.set_cons_succ, List.set_cons_zero, Nat.zero_add, Nat.reduceAdd]
            refine Gives.mk ?_
            go_simp
            exact ⟨(by ((repeat (first | (with_reducible assumption) | ((with_reducible refine Keep.setCell ?_ ?_ _); rotate_left; focus (first | omega | (simp; done) | (simp; omega))) | (with_reducible refine Keep.alloc ?_ _) | (with_reducible refine Keep.drewN ?_ _) | (with_reducible refine Keep.drew ?_) | (with_reducible exact Keep.refl _) | refine Keep.trans ?_ (by with_reducible assumption) | exact Keep.refl _ | assumption)))), g, (by first | rfl | assumption), ((hG).set _).set _, hg⟩
          case la14 =>
            intro v w2 hk hd o ho
            obtain ⟨hM_0, hM_1, hM_2, hM_3, hM_4⟩ := (hM.keep hk).two
            obtain ⟨hY_0, hY_1, hY_2, hY_3, hY_4⟩ := (hY.keep hk).two
            obtain ⟨hZ_0, hZ_1, hZ_2, hZ_3, hZ_4⟩ := (hZ.keep hk).two
            have hkz := hk.size
            have v_0 := hd 0 (by decide) (by decide)
            have v_1 := hd 1 (by decide) (by decide)
            have v_2 := hd 2 (by decide) (by decide)
            have v_3 := hd 3 (by decide) (by decide)
            have v_4 := hd 4 (by decide) (by decide)
            have v_5 := hd 5 (by decide) (by decide)
            have v_6 := hd 6 (by decide) (by decide)
            have v_7 := hd 7 (by decide) (by decide)
            have v_8 := hd 8 (by decide) (by decide)
            have v_9 := hd 9 (by decide) (by decide)
            have v_10 := hd 10 (by decide) (by decide)
            have v_11 := hd 11 (by decide) (by decide)
            have v_12 := hd 12 (by decide) (by decide)
            have v_13 := hd 13 (by decide) (by decide)
            simp only [List.cons_append, List.nil_append, factAt, List.getD_cons_zero, List.getD_cons_succ, Fx] at v_0 v_1 v_2 v_3 v_4 v_5 v_6 v_7 v_8 v_9 v_10 v_11 v_12 v_13
            obtain ⟨g, v_15, hG, hg⟩ := hd 15 (by decide) (by decide)
            obtain ⟨hG_0, hG_1, hG_2, hG_3, hG_4⟩ := hG.two
            obtain rfl := Option.some.inj ho
            simp only [List.take_succ_cons, List.take_zero, List.drop_succ_cons, List.drop_zero, putAll, Act.put, List.setIfInBounds_toArray, List.set_cons_succ, List.set_cons_zero, Nat.zero_add, Nat.reduceAdd]
            refine Gives.mk ?_
            go_simp
            exact ⟨Keep.refl _, rfl⟩
          simp only [List.take_succ_cons, List.take_zero, List.drop_succ_cons, List.drop_zero, putAll, Act.put, List.setIfInBounds_toArray, List.set_cons_succ, List.set_cons_zero, Nat.zero_add, Nat.reduceAdd]
          simp only [List.cons_append, List.nil_append]
          intro v w2 hk hh
          obtain ⟨hM_0, hM_1, hM_2, hM_3, hM_4⟩ := (hM.keep hk).two
          obtain ⟨hY_0, hY_1, hY_2, hY_3, hY_4⟩ := (hY.keep hk).two
          obtain ⟨hZ_0, hZ_1, hZ_2, hZ_3, hZ_4⟩ := (hZ.keep hk).two
          have hkz := hk.size
          simp only [Held, factAt, List.getD_cons_zero, List.getD_cons_succ, Fx, true_and] at hh
          obtain ⟨⟨⟨⟨⟨⟨⟨⟨⟨⟨⟨⟨⟨⟨⟨v_0, v_1⟩, v_2⟩, v_3⟩, v_4⟩, v_5⟩, v_6⟩, v_7⟩, v_8⟩, v_9⟩, v_10⟩, v_11⟩, v_12⟩, v_13⟩, v_14⟩, g, v_15, hG, hg⟩ := hh
          obtain ⟨hG_0, hG_1, hG_2, hG_3, hG_4⟩ := hG.two
          simp only [v_0, v_1, v_2, v_3, v_4, v_5, v_6, v_7, v_8, v_9, v_10, v_11, v_12, v_13, v_14, v_15]
          have k3 := k1.trans hk
          cases r2 with
          | none =>
            have HG2 := Aside.mk (HSN.out HGG.out)
            have hM2 := Aside.mk (hM.keep hk)
            have hY2 := Aside.mk (hY.keep hk)
            have hZ2 := Aside.mk (hZ.keep hk)
            clear HSN HSY HGG HE hc HREC hM hY hZ
            go_wp2
            go_roundg (96 - (h + 1))
            case measure => omega
            case rel => exact ⟨h + 1, by omega, by omega, by go_num, HG2.out, hM2.out, hY2.out, hZ2.out, (by ((repeat (first | (with_reducible assumption) | ((with_reducible refine Keep.setCell ?_ ?_ _); rotate_left; focus (first | omega | (simp; done) | (simp; omega))) | (with_reducible refine Keep.alloc ?_ _) | (with_reducible refine Keep.drewN ?_ _) | (with_reducible refine Keep.drew ?_) | (with_reducible exact Keep.refl _) | refine Keep.trans ?_ (by with_reducible assumption) | exact Keep.refl _ | assumption))))⟩
          | some z =>
            have e1 : (x, y) = z := HE.out z rfl
            subst e1
            have e2 : R = some (x, y) := HS.out.trans (HSY.out _ HGG.out)
            have e3 : V = (x, y) := HV.out _ e2
            subst e2 e3
            clear HSN HSY HGG HE hc HREC hM hY hZ HS HV HN
            go_wp2
            (apply bodyPost_ret; rotate_left; rfl; exact ⟨rfl, (by ((repeat (first | (with_reducible assumption) | ((with_reducible refine Keep.setCell ?_ ?_ _); rotate_left; focus (first | omega | (simp; done) | (simp; omega))) | (with_reducible refine Keep.alloc ?_ _) | (with_reducible refine Keep.drewN ?_ _) | (with_reducible refine Keep.drew ?_) | (with_reducible exact Keep.refl _) | refine Keep.trans ?_ (by with_reducible assumption) | exact Keep.refl _ | assumption))))⟩; simp [results, Tryd.results78, go_sem, U_zero, *])
      · obtain rfl : h = 96 := by omega
        have e2 : R = none := HS.out.trans HSC.out
        have e3 : V = (0#64, 0#64) := HN.out e2
        subst e2 e3
        have hZs := hZ.two
        clear HS HV HN HREC hM hY
        go_wp2
        (apply bodyPost_ret; rotate_left; rfl; exact ⟨rfl, (by ((repeat (first | (with_reducible assumption) | ((with_reducible refine Keep.setCell ?_ ?_ _); rotate_left; focus (first | omega | (simp; done) | (simp; omega))) | (with_reducible refine Keep.alloc ?_ _) | (with_reducible refine Keep.drewN ?_ _) | (with_reducible refine Keep.drew ?_) | (with_reducible exact Keep.refl _) | refine Keep.trans ?_ (by with_reducible assumption) | exact Keep.refl _ | assumption))))⟩; simp [results, Tryd.results78, go_sem, U_zero, *])
end Go.Proofs.YtpmilcfppcmodaaDoor

set_option linter.unusedVariables false
set_option linter.unusedSimpArgs false
namespace Go.Proofs.YtpmilcfppcmodaaDoor
open Go.RowKit Go.Shelf
set_option maxHeartbeats 2000000
set_option maxRecDepth 20000
theorem wpList_append_none {P : Program} (w : World) {ops : Array Oper} {rest : List Oper} {o : Oper} {a : Act} {Q : Exit → Act → World → Prop} (hgd : o.guard = none) (s x : Operand) (t : TypeId)
    (ho : o.op = .call { callee := .builtin .append, args := #[s, x], argTypes := #[t, t] }) (hty : o.type = o.type)
    (base : Nat) (e : TypeId) (i : TypeInfo) (size : Nat) (ht : P.underlying t = some (.slice e)) (hi : P.info? e = some i)
    (v : Value) (n : Nat) (xs : List Value) (hs : a.eval s = v) (hown : w.ownsRow base e size v n xs) (hx : a.eval x = .slice none 0 0)
    (h : wpList P ops Q rest (a.put o.dst v) w) : wpList P ops Q (o :: rest) a w := by
  refine wpList_plain hgd fun K hK => ?_
  have hr := run_append_owned_none (P := P) (w := w) base t o.type e i size ht hi v n xs hown
  unfold Oper.wp execOp
  simp only [ho, resolve, invoke, builtin, Sem.run_bind, Sem.run_pure, Result.andThen_ok, List.map_toArray, List.map_cons, List.map_nil, hs, hx, hr]
  exact hK _ _ h
theorem wpList_append_rd {P : Program} (w : World) {ops : Array Oper} {rest : List Oper} {o : Oper} {a : Act} {Q : Exit → Act → World → Prop} (hgd : o.guard = none) (s x : Operand) (t : TypeId)
    (ho : o.op = .call { callee := .builtin .append, args := #[s, x], argTypes := #[t, t] }) (hty : o.type = o.type)
    (base : Nat) (e : TypeId) (i : TypeInfo) (z : Value) (ht : P.underlying t = some (.slice e)) (hi : P.info? e = some i) (hz : i.zero = some z) (hsize : i.size = 1) (hby : i.bytes = 8) (hzs : z.cells.size = 1)
    (v : Value) (hs : a.eval s = v) (hown : w.ownsRow base e 1 v 0 []) (H : Option Addr) (l : List Int) (c : Nat) (hx : a.eval x = .slice H l.length c) (hH : H = none → l = [] ∧ c = 0) (hR : Rd w H (ints l)) (hl : l.length ≤ 1000) (hb : base ≤ w.heap.size)
    (h : ∀ v' w', w'.ownsRow base e 1 v' l.length (ints l) → w.grownBy w' v.ownBlock → wpList P ops Q rest (a.put o.dst v') w') : wpList P ops Q (o :: rest) a w := by
  cases H with
  | none =>
    obtain ⟨rfl, rfl⟩ := hH rfl
    exact wpList_append_none w hgd s x t ho rfl base e i 1 ht hi v 0 [] hs hown hx (h v w hown (grown_refl _ _))
  | some ad =>
    refine wpList_append_own w hgd s x t ho base e i z 1 8 ht hi hz hsize hby hzs (by decide) v 0 [] hs hown ad l.length c (ints l) hx (by rw [ints_len]; omega) (fun j u hj => ?_) (fun u hu => ?_) (by unfold maxLen; omega) (by omega) hb (fun v' w' h1 h2 _ => h v' w' (by simpa using h1) h2)
    · rcases hR with h0 | ⟨g, o, e, hc0⟩
      · rw [h0] at hj; simp at hj
      · obtain rfl := Option.some.inj e
        by_cases e0 : j = 0
        · subst e0; simpa [Addr.add] using hc0 0 u hj
        · simpa [Addr.add, e0] using hc0 j u hj
    · unfold ints at hu; obtain ⟨x, _, rfl⟩ := List.mem_map.1 hu; rfl
/-- Is the card with this index notched at a hole? -/
def hasAt (l : List Cd) (h : Int) (k : Int) : Bool := match l[k.toNat]? with
  | some c => hasB c.a c.b h
  | none => false
def mayI (l : List Cd) (wd : List Int) (h : Nat) : Bool := wd.all (hasAt l h)
/-- What the search returns: found or not, and where the holes lie. -/
def Fnd (w : World) (v : Value) (r : Option (Wd × Wd)) : Prop := ∀ z, r = some z → ∃ H c, ∃ hs : List Int, v = .slice H hs.length c ∧ Rd w H (ints hs) ∧ hs.length ≤ 4 ∧ (∀ x ∈ hs, 0 ≤ x ∧ x < 96) ∧ z = (orLo 0#64 hs, orHi 0#64 hs)
theorem impl_needles (A B : Option Addr) (l : List Cd) (wd : List Int) (c d : Nat) (hm : l.length ≤ 1048576) (hw : wd.length ≤ 1048576) (hwd : ∀ x ∈ wd, 0 ≤ x ∧ x < l.length) :
    ∀ (k f : Nat) (hs : List Int) (H : Option Addr) (hc : Nat) (w : World), k + hs.length ≤ 3 → f ≤ 96 → (∀ x ∈ hs, 0 ≤ x ∧ x < 96) → Rd w A (cds l) → Rd w B (ints wd) → Rd w H (ints hs) → (H = none → hs = [] ∧ hc = 0) →
    Calls Tryd.prog 73 #[.slice A l.length c, .slice B wd.length d, .slice H hs.length hc, .int .i64 ((f : Int)), .int .i64 ((k : Int))] w fun e w' => ∃ v, e = .returned (.tuple #[v, .bool (srch (fitB l wd) (mayI l wd) k f (orLo 0#64 hs) (orHi 0#64 hs)).isSome]) ∧ Fnd w' v (srch (fitB l wd) (mayI l wd) k f (orLo 0#64 hs) (orHi 0#64 hs)) ∧ Keep w w'
  | 0, f, hs, H, hc, w, hk, hf, hb, hR, hS, hT, _ => by
    have hwi := Aside.mk (fun W h => impl_with 0#64 0#64 H hs hc W hb (by omega) h)
    have e1 : (srch (fitB l wd) (mayI l wd) 0 f (orLo 0#64 hs) (orHi 0#64 hs)).isSome = fitB l wd (orLo 0#64 hs) (orHi 0#64 hs) := by
      unfold srch; cases fitB l wd (orLo 0#64 hs) (orHi 0#64 hs) <;> rfl
    have hfnd : ∀ W, Rd W H (ints hs) → Fnd W (.slice H hs.length hc) (srch (fitB l wd) (mayI l wd) 0 f (orLo 0#64 hs) (orHi 0#64 hs)) := fun W h z hz => by
      refine ⟨H, hc, hs, rfl, h, by omega, hb, ?_⟩
      unfold srch at hz
      by_cases hP : fitB l wd (orLo 0#64 hs) (orHi 0#64 hs) = true
      · rw [if_pos hP] at hz; exact (Option.some.inj hz).symm
      · rw [if_neg hP] at hz; simp at hz
    have HFN := Aside.mk hfnd
    rw [e1]
    clear e1 hfnd
    generalize srch (fitB l wd) (mayI l wd) 0 f (orLo 0#64 hs) (orHi 0#64 hs) = R at *
    have hA := Aside.mk (fun W g (h : Bx W g #[.int .u64 (U (orLo 0#64 hs)), .int .u64 (U (orHi 0#64 hs)), .int .u64 (U (0#64)), .int .u64 (U (0#64))] 35) hr => impl_droppedBy A l c (some ⟨g, 0, none⟩) [⟨orLo 0#64 hs, orHi 0#64 hs, 0#64, 0#64⟩] 1 W hm (by simp) hr (rd_qry (q := ⟨orLo 0#64 hs, orHi 0#64 hs, 0#64, 0#64⟩) h))
    have hl : (ansL l [⟨orLo 0#64 hs, orHi 0#64 hs, 0#64, 0#64⟩]).length ≤ 1048576 := by have := anN_len l [⟨orLo 0#64 hs, orHi 0#64 hs, 0#64, 0#64⟩] l.length; unfold ansL; omega
    unfold fitB
    generalize ansL l [⟨orLo 0#64 hs, orHi 0#64 hs, 0#64, 0#64⟩] = L at *
    go_enter Tryd.func73, Tryd.ntmps73
    (go_wp2_with fail); (go_at_call 74); (refine (hwi.out _ hT).mono ?_); rintro e w1 ⟨rfl, hk1⟩
    (go_wp2_with fail); (go_at_call 80); (refine (hA.out _ _ (by first | exact Bx.new1 _ _ _ _ | exact Bx.new _ _ _) (hR.keep (by ((repeat (first | (with_reducible assumption) | ((with_reducible refine Keep.setCell ?_ ?_ _); rotate_left; focus (first | omega | (simp; done) | (simp; omega))) | (with_reducible refine Keep.alloc ?_ _) | (with_reducible refine Keep.drewN ?_ _) | (with_reducible refine Keep.drew ?_) | (with_reducible exact Keep.refl _) | refine Keep.trans ?_ (by with_reducible assumption) | exact Keep.refl _ | assumption)))))).mono ?_); rintro e w3 ⟨v, rfl, ho, hk3⟩
    have hg := Own.new ho
    obtain ⟨A5, c5, rfl⟩ := hg.form
    have hW : Keep w w3 := (by ((repeat (first | (with_reducible assumption) | ((with_reducible refine Keep.setCell ?_ ?_ _); rotate_left; focus (first | omega | (simp; done) | (simp; omega))) | (with_reducible refine Keep.alloc ?_ _) | (with_reducible refine Keep.drewN ?_ _) | (with_reducible refine Keep.drew ?_) | (with_reducible exact Keep.refl _) | refine Keep.trans ?_ (by with_reducible assumption) | exact Keep.refl _ | assumption))))
    clear ho hk3 hk1
    (go_wp2_with fail); (go_at_call 131); (refine (slices_EqualI _ _ _ _ _ _ _ (by omega) (by omega) hg.rd (hS.keep hW)).mono ?_); rintro e w4 ⟨rfl, hk4⟩
    have k4 : Keep w w4 := (by ((repeat (first | (with_reducible assumption) | ((with_reducible refine Keep.setCell ?_ ?_ _); rotate_left; focus (first | omega | (simp; done) | (simp; omega))) | (with_reducible refine Keep.alloc ?_ _) | (with_reducible refine Keep.drewN ?_ _) | (with_reducible refine Keep.drew ?_) | (with_reducible exact Keep.refl _) | refine Keep.trans ?_ (by with_reducible assumption) | exact Keep.refl _ | assumption))))
    have HF2 := Aside.mk (HFN.out _ (hT.keep k4))
    clear HFN hA hwi hg hk4
    go_wp2
    go_ret2; exact ⟨_, rfl, HF2.out, (by ((repeat (first | (with_reducible assumption) | ((with_reducible refine Keep.setCell ?_ ?_ _); rotate_left; focus (first | omega | (simp; done) | (simp; omega))) | (with_reducible refine Keep.alloc ?_ _) | (with_reducible refine Keep.drewN ?_ _) | (with_reducible refine Keep.drew ?_) | (with_reducible exact Keep.refl _) | refine Keep.trans ?_ (by with_reducible assumption) | exact Keep.refl _ | assumption))))⟩
  | k + 1, f, hs, H, hc, w, hk, hf, hb, hR, hS, hT, hH => by
    have hrec := fun (h : Nat) (hs : List Int) (H : Option Addr) (hc : Nat) (W : World) (h1 : k + hs.length ≤ 3) (h2 : h ≤ 96) (h0 : ∀ x ∈ hs, 0 ≤ x ∧ x < 96) (h3 : Rd W A (cds l)) (h4 : Rd W B (ints wd)) (h5 : Rd W H (ints hs)) (h6 : H = none → hs = [] ∧ hc = 0) => impl_needles A B l wd c d hm hw hwd k h hs H hc W h1 h2 h0 h3 h4 h5 h6
    obtain ⟨P, hP⟩ : ∃ P, fitB l wd = P := ⟨_, rfl⟩
    simp only [hP] at hrec
    rw [hP]
    obtain ⟨kk, hkk⟩ : ∃ kk : Int, ((k + 1 : Nat) : Int) = kk := ⟨_, rfl⟩
    have hks : (k : Int) = kk - 1 := by omega
    rw [hks] at hrec
    rw [hkk]
    have HREC := Aside.mk hrec
    have hk1 : ¬ kk = 0 := by omega
    have hkb : (kk == 0) = false := by simpa using hk1
    have hk2 : 0 ≤ kk ∧ kk ≤ 4 := by omega
    have wqk : IntKind.i64.wrap (kk - 1) = kk - 1 := wrapI64 ⟨by omega, by omega⟩
    have HS := Aside.mk (srch_succ P (mayI l wd) k f (orLo 0#64 hs) (orHi 0#64 hs))
    obtain ⟨R, hRR⟩ : ∃ R, srch P (mayI l wd) (k + 1) f (orLo 0#64 hs) (orHi 0#64 hs) = R := ⟨_, rfl⟩
    rw [hRR]
    rw [hRR] at HS
    obtain ⟨i0, hi0, hz0, hz1, hz2⟩ := info_parts int64_info
    clear hRR hks hkk hrec hP
    go_enter Tryd.func73, Tryd.ntmps73
    go_wp2_with fail
    try simp only [hkb]
    go_loopg [13] (96 - f) (fun n s13 wr => ∃ h : Nat, h + n = 96 ∧ f ≤ h ∧ s13 = .int .i64 h ∧ scan (srG P (mayI l wd) k (orLo 0#64 hs) (orHi 0#64 hs)) f (h - f) = none ∧ Keep w wr)
    case atStart => exact ⟨f, by omega, Nat.le_refl _, rfl, by rw [Nat.sub_self]; rfl, (by ((repeat (first | (with_reducible assumption) | ((with_reducible refine Keep.setCell ?_ ?_ _); rotate_left; focus (first | omega | (simp; done) | (simp; omega))) | (with_reducible refine Keep.alloc ?_ _) | (with_reducible refine Keep.drewN ?_ _) | (with_reducible refine Keep.drew ?_) | (with_reducible exact Keep.refl _) | refine Keep.trans ?_ (by with_reducible assumption) | exact Keep.refl _ | assumption))))⟩
    case round =>
      obtain ⟨h, hh, hfh, rfl, hsc, hk0⟩ := hrel
      have HSC := Aside.mk hsc
      clear hsc
      by_cases hlt : h < 96
      · have hltd : decide ((h : Int) < 96) = true := decide_eq_true (by omega)
        go_wp2_with fail
        try simp only [hltd]
        go_loopg [14, 39] wd.length (fun n2 s14 s39 wq => ∃ i : Nat, i + n2 = wd.length ∧ s14 = .bool ((wd.take i).all (hasAt l h)) ∧ s39 = .int .i64 i ∧ Keep wr wq)
        case atStart => exact ⟨0, by omega, rfl, rfl, (by ((repeat (first | (with_reducible assumption) | ((with_reducible refine Keep.setCell ?_ ?_ _); rotate_left; focus (first | omega | (simp; done) | (simp; omega))) | (with_reducible refine Keep.alloc ?_ _) | (with_reducible refine Keep.drewN ?_ _) | (with_reducible refine Keep.drew ?_) | (with_reducible exact Keep.refl _) | refine Keep.trans ?_ (by with_reducible assumption) | exact Keep.refl _ | assumption))))⟩
        case round =>
          obtain ⟨i, hi, rfl, rfl, hkq⟩ := hrel
          have hkw := hk0.trans hkq
          by_cases hil : i < wd.length
          · obtain ⟨bb, o, rfl, hcc⟩ := (hS.keep hkw).at (k := i) (by rw [ints_len]; omega)
            have p1 := hcc _ _ (ints_at wd i hil)
            obtain ⟨x0, x1⟩ := hwd wd[i] (List.getElem_mem hil)
            have HT := Aside.mk (show (wd.take (i + 1)).all (hasAt l h) = ((wd.take i).all (hasAt l h) && hasAt l h wd[i]) by
              rw [List.take_succ_eq_append_getElem hil, List.all_append]; simp)
            clear hcc
            generalize wd[i] = x at *
            obtain ⟨n, rfl⟩ : ∃ n : Nat, x = n := ⟨x.toNat, by omega⟩
            have hnl : n < l.length := by omega
            obtain ⟨b2, o2, rfl, hc2⟩ := (hR.keep hkw).at (k := n) (by rw [cds_len]; omega)
            obtain ⟨r1, r2, r3⟩ := cds_at l n hnl
            have q2 := hc2 _ _ r2
            have q3 := hc2 _ _ r3
            rw [← Nat.add_assoc] at q2 q3
            have HA := Aside.mk (show hasAt l h (n : Int) = hasB l[n].a l[n].b h by unfold hasAt; rw [Int.toNat_natCast, List.getElem?_eq_getElem hnl])
            clear hc2 r1 r2 r3
            generalize l[n] = y at *
            obtain ⟨ys, ya, yb⟩ := y
            simp only at q2 q3 HA
            cases hq : (wd.take i).all (hasAt l h)
            · have HT2 := Aside.mk (show (wd.take (i + 1)).all (hasAt l h) = false by rw [HT.out, hq]; rfl)
              clear HT HA
              go_wp2
              go_roundg (wd.length - (i + 1))
              case measure => omega
              case rel => exact ⟨i + 1, by omega, by rw [HT2.out], by go_num, (by ((repeat (first | (with_reducible assumption) | ((with_reducible refine Keep.setCell ?_ ?_ _); rotate_left; focus (first | omega | (simp; done) | (simp; omega))) | (with_reducible refine Keep.alloc ?_ _) | (with_reducible refine Keep.drewN ?_ _) | (with_reducible refine Keep.drew ?_) | (with_reducible exact Keep.refl _) | refine Keep.trans ?_ (by with_reducible assumption) | exact Keep.refl _ | assumption))))⟩
            · (go_wp2_with fail); (go_at_call 101); (refine (impl_has _ _ _ (by omega) (by omega) _).mono ?_); rintro e w1 ⟨rfl, hkh⟩
              have HT2 := Aside.mk (show (wd.take (i + 1)).all (hasAt l h) = hasB ya yb h by rw [HT.out, hq, HA.out]; rfl)
              clear HT HA
              go_wp2
              go_roundg (wd.length - (i + 1))
              case measure => omega
              case rel => exact ⟨i + 1, by omega, by rw [HT2.out], by go_num, (by ((repeat (first | (with_reducible assumption) | ((with_reducible refine Keep.setCell ?_ ?_ _); rotate_left; focus (first | omega | (simp; done) | (simp; omega))) | (with_reducible refine Keep.alloc ?_ _) | (with_reducible refine Keep.drewN ?_ _) | (with_reducible refine Keep.drew ?_) | (with_reducible exact Keep.refl _) | refine Keep.trans ?_ (by with_reducible assumption) | exact Keep.refl _ | assumption))))⟩
          · obtain rfl : i = wd.length := by omega
            rw [List.take_length]
            rw [show wd.all (hasAt l h) = mayI l wd h from rfl]
            cases hmy : mayI l wd h
            · have HG := Aside.mk (show scan (srG P (mayI l wd) k (orLo 0#64 hs) (orHi 0#64 hs)) f (h + 1 - f) = none by
                rw [show h + 1 - f = h - f + 1 by omega]
                exact scan_none HSC.out (by rw [show f + (h - f) = h by omega]; unfold srG; rw [hmy]; rfl))
              clear HSC hmy
              go_wp2
              go_roundg (96 - (h + 1))
              case measure => omega
              case rel => exact ⟨h + 1, by omega, by omega, by go_num, HG.out, (by ((repeat (first | (with_reducible assumption) | ((with_reducible refine Keep.setCell ?_ ?_ _); rotate_left; focus (first | omega | (simp; done) | (simp; omega))) | (with_reducible refine Keep.alloc ?_ _) | (with_reducible refine Keep.drewN ?_ _) | (with_reducible refine Keep.drew ?_) | (with_reducible exact Keep.refl _) | refine Keep.trans ?_ (by with_reducible assumption) | exact Keep.refl _ | assumption))))⟩
            · have hg : srG P (mayI l wd) k (orLo 0#64 hs) (orHi 0#64 hs) h = srch P (mayI l wd) k (h + 1) (orLo 0#64 (hs ++ [(h : Int)])) (orHi 0#64 (hs ++ [(h : Int)])) := by
                unfold srG; rw [hmy, orLo_app, orHi_app]; rfl
              have hbn : ∀ x ∈ hs ++ [(h : Int)], 0 ≤ x ∧ x < 96 := by
                intro x hx
                rcases List.mem_append.1 hx with hx | hx
                · exact hb x hx
                · simp at hx; omega
              have hlen : (hs ++ [(h : Int)]).length = hs.length + 1 := by simp
              have hr := fun W H' c' h3 h4 h5 h6 => HREC.out (h + 1) (hs ++ [(h : Int)]) H' c' W (by rw [hlen]; omega) (by omega) hbn h3 h4 h5 h6
              rw [show ((h + 1 : Nat) : Int) = (h : Int) + 1 by omega] at hr
              simp only [hlen] at hr
              have HSN := Aside.mk (fun (e : srG P (mayI l wd) k (orLo 0#64 hs) (orHi 0#64 hs) h = none) => (show scan (srG P (mayI l wd) k (orLo 0#64 hs) (orHi 0#64 hs)) f (h + 1 - f) = none by
                rw [show h + 1 - f = h - f + 1 by omega]
                exact scan_none HSC.out (by rw [show f + (h - f) = h by omega]; exact e)))
              have HSY := Aside.mk (fun z (e : srG P (mayI l wd) k (orLo 0#64 hs) (orHi 0#64 hs) h = some z) => scan_some (n := h - f) HSC.out (by rw [show f + (h - f) = h by omega]; exact e) (96 - f) (by omega))
              obtain ⟨r2, hr2⟩ : ∃ r, srch P (mayI l wd) k (h + 1) (orLo 0#64 (hs ++ [(h : Int)])) (orHi 0#64 (hs ++ [(h : Int)])) = r := ⟨_, rfl⟩
              rw [hr2] at hg
              simp only [hr2] at hr
              have hcl := Aside.mk hr
              have HGG := Aside.mk hg
              clear hr hg hr2 HSC hmy hbn hlen
              have wqh : IntKind.i64.wrap ((h : Int) + 1) = (h : Int) + 1 := wrapI64 ⟨by omega, by omega⟩
              have hl3 : hs.length ≤ 3 := by omega
              go_wp2_with (at_builtin; refine wpList_append_rd _ rfl _ _ 28 rfl rfl w.heap.size 2 i0 (.int .i64 0) Tryd.underlying28 hi0 hz0 hz1 hz2 rfl _ rfl (own_empty _ w.heap.size 2 (by have := hkw.size; omega)) H hs hc rfl hH (hT.keep (hkw.alloc _)) (by omega) (by have := hkw.size; simp; omega) ?_)
              intro v1 w1 hown1 hg1
              have k1 : Keep w w1 := (hkw.alloc _).grown hg1 (fun k hk => by simp [Value.ownBlock] at hk; have := hkw.size; omega)
              have HO1 := Aside.mk hown1
              clear hown1 hg1
              have hown1 := HO1.out
              have hr1 : ∀ k, Value.ownBlock _ = some k → _ := hown1.lt
              go_wp2_with (at_builtin; refine wpList_append_own _ rfl _ _ 28 rfl w.heap.size 2 i0 (.int .i64 0) 1 8 Tryd.underlying28 hi0 hz0 hz1 hz2 rfl (by decide) _ _ _ rfl (own_keep HO1.out ((Keep.refl _).alloc _)) ⟨w1.heap.size, 0, none⟩ 1 1 [.int .i64 h] rfl rfl ?e1 ?e2 ?e3 ?e4 ?e5 ?_)
              case e1 =>
                intro j u hj
                match j, hj with
                | 0, hj => simp at hj; subst hj; simp [Addr.add]
              case e2 => intro u hu; simp at hu; subst hu; rfl
              case e3 => unfold maxLen; omega
              case e4 => omega
              case e5 => have := k1.size; simp; omega
              intro v2 w2 hown2 hg2 _
              have k2 : Keep w w2 := (k1.alloc _).grown hg2 (fun k hk => by have := hr1 _ hk; omega)
              have HO2 := Aside.mk (show w2.ownsRow w.heap.size 2 1 v2 (hs.length + 1) (ints (hs ++ [(h : Int)])) by simpa [ints] using hown2)
              clear HO1 hown1 hr1 hown2 hg2 k1
              obtain ⟨A2, c2, rfl⟩ := (Own.new HO2.out).form
              have HRD := Aside.mk (Own.new HO2.out).rd
              obtain ⟨g2, rfl, hgb2⟩ := own_head HO2.out (by omega)
              (go_wp2_with fail); (go_at_call 73); (refine (hcl.out _ _ _ (hR.keep k2) (hS.keep k2) HRD.out (fun e => by simp at e)).mono ?_); rintro e w3 ⟨v, rfl, hf3, hk3⟩
              have k3 : Keep w w3 := (by ((repeat (first | (with_reducible assumption) | ((with_reducible refine Keep.setCell ?_ ?_ _); rotate_left; focus (first | omega | (simp; done) | (simp; omega))) | (with_reducible refine Keep.alloc ?_ _) | (with_reducible refine Keep.drewN ?_ _) | (with_reducible refine Keep.drew ?_) | (with_reducible exact Keep.refl _) | refine Keep.trans ?_ (by with_reducible assumption) | exact Keep.refl _ | assumption))))
              have HF3 := Aside.mk hf3
              clear hf3 hk3 HO2 HRD hcl
              cases r2 with
              | none =>
                have HG2 := Aside.mk (HSN.out HGG.out)
                clear HSN HSY HGG HREC HF3
                go_wp2
                go_roundg (96 - (h + 1))
                case measure => omega
                case rel => exact ⟨h + 1, by omega, by omega, by go_num, HG2.out, (by ((repeat (first | (with_reducible assumption) | ((with_reducible refine Keep.setCell ?_ ?_ _); rotate_left; focus (first | omega | (simp; done) | (simp; omega))) | (with_reducible refine Keep.alloc ?_ _) | (with_reducible refine Keep.drewN ?_ _) | (with_reducible refine Keep.drew ?_) | (with_reducible exact Keep.refl _) | refine Keep.trans ?_ (by with_reducible assumption) | exact Keep.refl _ | assumption))))⟩
              | some z =>
                have e2 : R = some z := HS.out.trans (HSY.out _ HGG.out)
                subst e2
                clear HSN HSY HGG HREC HS
                go_wp2
                go_ret2; exact ⟨_, rfl, HF3.out, (by ((repeat (first | (with_reducible assumption) | ((with_reducible refine Keep.setCell ?_ ?_ _); rotate_left; focus (first | omega | (simp; done) | (simp; omega))) | (with_reducible refine Keep.alloc ?_ _) | (with_reducible refine Keep.drewN ?_ _) | (with_reducible refine Keep.drew ?_) | (with_reducible exact Keep.refl _) | refine Keep.trans ?_ (by with_reducible assumption) | exact Keep.refl _ | assumption))))⟩
      · obtain rfl : h = 96 := by omega
        have e2 : R = none := HS.out.trans HSC.out
        subst e2
        clear HS HREC
        go_wp2
        go_ret2; exact ⟨_, rfl, (fun z hz => by simp at hz), (by ((repeat (first | (with_reducible assumption) | ((with_reducible refine Keep.setCell ?_ ?_ _); rotate_left; focus (first | omega | (simp; done) | (simp; omega))) | (with_reducible refine Keep.alloc ?_ _) | (with_reducible refine Keep.drewN ?_ _) | (with_reducible refine Keep.drew ?_) | (with_reducible exact Keep.refl _) | refine Keep.trans ?_ (by with_reducible assumption) | exact Keep.refl _ | assumption))))⟩
end Go.Proofs.YtpmilcfppcmodaaDoor

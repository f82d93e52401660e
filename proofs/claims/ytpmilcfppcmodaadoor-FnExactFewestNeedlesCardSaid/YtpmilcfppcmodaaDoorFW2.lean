/- The fewest needles: the wanted cards. -/
import Derived.Test.YtpmilcfppcmodaaDoorGM
import Derived.Test.YtpmilcfppcmodaaDoorAQ
import Derived.Test.YtpmilcfppcmodaaDoorAO
import Derived.Test.YtpmilcfppcmodaaDoorDK2
import Derived.Test.YtpmilcfppcmodaaDoorPN
set_option linter.unusedVariables false
set_option linter.unusedSimpArgs false
namespace Go.Proofs.YtpmilcfppcmodaaDoor
open Go.RowKit Go.Shelf
set_option maxHeartbeats 1000000
set_option maxRecDepth 20000
theorem slices_EqualI (A B : Option Addr) (l m : List Int) (c d : Nat) (w : World) (hl : l.length ≤ 9223372036854775807) (hm : m.length ≤ 9223372036854775807) (hR : Rd w A (ints l)) (hS : Rd w B (ints m)) :
    Calls Tryd.prog 131 #[.slice A l.length c, .slice B m.length d] w fun e w' => e = .returned (.bool (decide (l = m))) ∧ Keep w w' := by
  by_cases hne : l.length = m.length
  · have HN := Aside.mk hne
    have hne' : (l.length : Int) = m.length := by omega
    clear hne
    go_enter Tryd.func131, Tryd.ntmps131
    go_wp2_with fail
    go_loopg [13] l.length (fun k s5 wr => ∃ i : Nat, i + k = l.length ∧ s5 = .int .i64 i ∧ l.take i = m.take i ∧ Keep w wr)
    case atStart => exact ⟨0, by omega, rfl, rfl, (by ((repeat (first | (with_reducible assumption) | ((with_reducible refine Keep.setCell ?_ ?_ _); rotate_left; focus (first | omega | (simp; done) | (simp; omega))) | (with_reducible refine Keep.alloc ?_ _) | (with_reducible refine Keep.drewN ?_ _) | (with_reducible refine Keep.drew ?_) | (with_reducible exact Keep.refl _) | refine Keep.trans ?_ (by with_reducible assumption) | exact Keep.refl _ | assumption))))⟩
    case round =>
      obtain ⟨i, hi, rfl, htk, hk0⟩ := hrel
      have HT := Aside.mk htk
      clear htk
      by_cases hlt : i < l.length
      · have hlt2 : i < m.length := by have := HN.out; omega
        obtain ⟨bb, o, rfl, hc⟩ := (hR.keep hk0).at (k := i) (by rw [ints_len]; omega)
        obtain ⟨b2, o2, rfl, hc2⟩ := (hS.keep hk0).at (k := i) (by rw [ints_len]; omega)
        have p1 := hc _ _ (ints_at l i hlt)
        have q1 := hc2 _ _ (ints_at m i hlt2)
        have HQ := Aside.mk (fun h => neI_at hlt hlt2 h)
        have HE := Aside.mk (takeI_eq hlt hlt2 HT.out)
        clear hc hc2
        generalize l[i] = x at *
        generalize m[i] = y at *
        go_wp2_with fail
        refine wp_region_keep (by kernel_rfl) (by kernel_rfl) ?_
        repeat
          first
            | (apply QuietL.run
               focus go_simp
               focus
                 intro w2 hk
                 have p1' := hk.cell p1
                 have q1' := hk.cell q1
                 apply QAt.mk
                 go_simp
                 first
                   | done
                   | exact rfl
               simp only [Act.put, List.setIfInBounds_toArray, List.set_cons_succ, List.set_cons_zero])
            | (apply QuietL.skip
               focus go_simp
               simp only [Act.put, List.setIfInBounds_toArray, List.set_cons_succ, List.set_cons_zero])
        apply QuietL.nil
        intro w2 hk
        have p1' := hk.cell p1
        have q1' := hk.cell q1
        have k2 : Keep w w2 := Keep.trans hk0 hk
        by_cases hxy : x = y
        · have HE2 := Aside.mk (HE.out.2 hxy)
          subst hxy
          clear p1 q1 p1' q1' hk hk0
          go_wp2
          go_roundg (l.length - (i + 1))
          case measure => omega
          case rel => exact ⟨i + 1, by omega, by go_num, HE2.out, (by ((repeat (first | (with_reducible assumption) | ((with_reducible refine Keep.setCell ?_ ?_ _); rotate_left; focus (first | omega | (simp; done) | (simp; omega))) | (with_reducible refine Keep.alloc ?_ _) | (with_reducible refine Keep.drewN ?_ _) | (with_reducible refine Keep.drew ?_) | (with_reducible exact Keep.refl _) | refine Keep.trans ?_ (by with_reducible assumption) | exact Keep.refl _ | assumption))))⟩
        · have HF := Aside.mk (HQ.out hxy)
          clear p1 q1 p1' q1' hk hk0
          go_wp2
          go_ret; exact ⟨rb HF.out.symm, (by ((repeat (first | (with_reducible assumption) | ((with_reducible refine Keep.setCell ?_ ?_ _); rotate_left; focus (first | omega | (simp; done) | (simp; omega))) | (with_reducible refine Keep.alloc ?_ _) | (with_reducible refine Keep.drewN ?_ _) | (with_reducible refine Keep.drew ?_) | (with_reducible exact Keep.refl _) | refine Keep.trans ?_ (by with_reducible assumption) | exact Keep.refl _ | assumption))))⟩
      · have e2 : i = l.length := by omega
        subst e2
        have hal : l = m := by have := HT.out; rwa [List.take_length, HN.out, List.take_length] at this
        have HA := Aside.mk (decide_eq_true hal)
        clear hal
        go_wp2
        go_ret; exact ⟨rb HA.out.symm, (by ((repeat (first | (with_reducible assumption) | ((with_reducible refine Keep.setCell ?_ ?_ _); rotate_left; focus (first | omega | (simp; done) | (simp; omega))) | (with_reducible refine Keep.alloc ?_ _) | (with_reducible refine Keep.drewN ?_ _) | (with_reducible refine Keep.drew ?_) | (with_reducible exact Keep.refl _) | refine Keep.trans ?_ (by with_reducible assumption) | exact Keep.refl _ | assumption))))⟩
  · have e : decide (l = m) = false := decide_eq_false (fun h => hne (by rw [h]))
    rw [e]
    go_enter Tryd.func131, Tryd.ntmps131
    go_wp2
    go_ret; exact ⟨rfl, (by ((repeat (first | (with_reducible assumption) | ((with_reducible refine Keep.setCell ?_ ?_ _); rotate_left; focus (first | omega | (simp; done) | (simp; omega))) | (with_reducible refine Keep.alloc ?_ _) | (with_reducible refine Keep.drewN ?_ _) | (with_reducible refine Keep.drew ?_) | (with_reducible exact Keep.refl _) | refine Keep.trans ?_ (by with_reducible assumption) | exact Keep.refl _ | assumption))))⟩
/-- Do these needles drop the wanted cards and no others? -/
def fitB (l : List Cd) (wd : List Int) (a b : Wd) : Bool := decide (ansL l [⟨a, b, 0#64, 0#64⟩] = wd)
/-- Is no card notched at all holes of a mask? -/
def freeB (l : List Cd) (a b : Wd) : Bool := !(l.any fun c => withinB a b c.a c.b)
theorem spec_l02Free (A : Option Addr) (l : List Cd) (c : Nat) (a b : Wd) (w : World) (hm : l.length ≤ 1048576) (hR : Rd w A (cds l)) :
    Calls Tryd.prog 133 #[.slice A l.length c, .agg #[.int .u64 (U a), .int .u64 (U b)]] w fun e w' => e = .returned (.bool (freeB l a b)) ∧ Keep w w' := by
  go_enter Tryd.func133, Tryd.ntmps133
  go_wp2_with fail
  go_loopg [5] l.length (fun k s5 wr => ∃ i : Nat, i + k = l.length ∧ s5 = .int .i64 i ∧ (l.take i).any (fun c => withinB a b c.a c.b) = false ∧ Bx wr w.heap.size #[.int .u64 (U a), .int .u64 (U b)] 33 ∧ Keep w wr)
  case atStart => exact ⟨0, by omega, rfl, rfl, Bx.new _ _ _, (by ((repeat (first | (with_reducible assumption) | ((with_reducible refine Keep.setCell ?_ ?_ _); rotate_left; focus (first | omega | (simp; done) | (simp; omega))) | (with_reducible refine Keep.alloc ?_ _) | (with_reducible refine Keep.drewN ?_ _) | (with_reducible refine Keep.drew ?_) | (with_reducible exact Keep.refl _) | refine Keep.trans ?_ (by with_reducible assumption) | exact Keep.refl _ | assumption))))⟩
  case round =>
    obtain ⟨i, hi, rfl, hal, hX, hk0⟩ := hrel
    have HL := Aside.mk hal
    clear hal
    by_cases hlt : i < l.length
    · obtain ⟨bb, o, rfl, hc⟩ := (hR.keep hk0).at (k := i) (by rw [cds_len]; omega)
      obtain ⟨r1, r2, r3⟩ := cds_at l i hlt
      have p2 := hc _ _ r2
      have p3 := hc _ _ r3
      rw [← Nat.add_assoc] at p2 p3
      have hT := any_takeD (q := fun c : Cd => withinB a b c.a c.b) hlt
      rw [HL.out, Bool.false_or] at hT
      have HT := Aside.mk hT
      have HQ := Aside.mk (fun h => any_ofD (q := fun c : Cd => withinB a b c.a c.b) hlt h)
      clear hc hT r1 r2 r3
      generalize l[i] = x at *
      obtain ⟨s, xa, xb⟩ := x
      simp only at p2 p3 HT HQ
      go_wp2_with fail
      refine wp_region_keep (by kernel_rfl) (by kernel_rfl) ?_
      repeat
        first
          | (apply QuietL.run
             focus go_simp
             focus
               intro w2 hk
               have p2' := hk.cell p2
               have p3' := hk.cell p3
               obtain ⟨hX_0, hX_1, hX_2, hX_3, hX_4⟩ := (hX.keep hk).two
               apply QAt.mk
               go_simp
               first
                 | done
                 | exact rfl
                 | (go_at_call 158; exact quiet_call hk (spec_IsWithin _ _ _ _ _))
             simp only [Act.put, List.setIfInBounds_toArray, List.set_cons_succ, List.set_cons_zero])
          | (apply QuietL.skip
             focus go_simp
             simp only [Act.put, List.setIfInBounds_toArray, List.set_cons_succ, List.set_cons_zero])
      apply QuietL.nil
      intro w2 hk
      have p2' := hk.cell p2
      have p3' := hk.cell p3
      have hX := hX.keep hk
      obtain ⟨hX_0, hX_1, hX_2, hX_3, hX_4⟩ := hX.two
      have kk := hk0.trans hk
      clear p2 p3 p2' p3'
      cases hb : withinB a b xa xb
      · rw [hb] at HT
        clear HQ
        go_wp2
        go_roundg (l.length - (i + 1))
        case measure => omega
        case rel => exact ⟨i + 1, by omega, by go_num, HT.out, hX, kk⟩
      · have HA := Aside.mk (show freeB l a b = false by unfold freeB; rw [HQ.out hb]; rfl)
        clear HQ HT
        go_wp2
        go_ret; exact ⟨rb HA.out.symm, kk⟩
    · have e2 : i = l.length := by omega
      subst e2
      have hal := HL.out
      rw [List.take_length] at hal
      have HA := Aside.mk (show freeB l a b = true by unfold freeB; rw [hal]; rfl)
      clear hal
      go_wp2
      go_ret; exact ⟨rb HA.out.symm, (by ((repeat (first | (with_reducible assumption) | ((with_reducible refine Keep.setCell ?_ ?_ _); rotate_left; focus (first | omega | (simp; done) | (simp; omega))) | (with_reducible refine Keep.alloc ?_ _) | (with_reducible refine Keep.drewN ?_ _) | (with_reducible refine Keep.drew ?_) | (with_reducible exact Keep.refl _) | refine Keep.trans ?_ (by with_reducible assumption) | exact Keep.refl _ | assumption))))⟩
theorem spec_l02Fits (A B : Option Addr) (l : List Cd) (wd : List Int) (c d : Nat) (a b : Wd) (w : World) (hm : l.length ≤ 1048576) (hw : wd.length ≤ 9223372036854775807) (hR : Rd w A (cds l)) (hS : Rd w B (ints wd)) :
    Calls Tryd.prog 134 #[.slice A l.length c, .slice B wd.length d, .agg #[.int .u64 (U a), .int .u64 (U b)]] w fun e w' => e = .returned (.bool (fitB l wd a b)) ∧ Keep w w' := by
  have hA := Aside.mk (fun W g (h : Bx W g #[.int .u64 (U a), .int .u64 (U b), .int .u64 (U (0#64)), .int .u64 (U (0#64))] 35) hr => spec_l02Answer A l c (some ⟨g, 0, none⟩) [⟨a, b, 0#64, 0#64⟩] 1 W hm (by simp) hr (rd_qry (q := ⟨a, b, 0#64, 0#64⟩) h))
  have hl : (ansL l [⟨a, b, 0#64, 0#64⟩]).length ≤ 1048576 := by have := anN_len l [⟨a, b, 0#64, 0#64⟩] l.length; unfold ansL; omega
  unfold fitB
  generalize ansL l [⟨a, b, 0#64, 0#64⟩] = L at *
  go_enter Tryd.func134, Tryd.ntmps134
  (go_wp2_with fail); (go_at_call 69); (refine (hA.out _ _ (by first | exact Bx.new _ _ _ | exact Bx.new1 _ _ _ _) (hR.keep (by ((repeat (first | (with_reducible assumption) | ((with_reducible refine Keep.setCell ?_ ?_ _); rotate_left; focus (first | omega | (simp; done) | (simp; omega))) | (with_reducible refine Keep.alloc ?_ _) | (with_reducible refine Keep.drewN ?_ _) | (with_reducible refine Keep.drew ?_) | (with_reducible exact Keep.refl _) | refine Keep.trans ?_ (by with_reducible assumption) | exact Keep.refl _ | assumption)))))).mono ?_); rintro e w3 ⟨v, rfl, ho, hk3⟩
  have hg := Own.new ho
  obtain ⟨A5, c5, rfl⟩ := hg.form
  have hW : Keep w w3 := (by ((repeat (first | (with_reducible assumption) | ((with_reducible refine Keep.setCell ?_ ?_ _); rotate_left; focus (first | omega | (simp; done) | (simp; omega))) | (with_reducible refine Keep.alloc ?_ _) | (with_reducible refine Keep.drewN ?_ _) | (with_reducible refine Keep.drew ?_) | (with_reducible exact Keep.refl _) | refine Keep.trans ?_ (by with_reducible assumption) | exact Keep.refl _ | assumption))))
  clear ho hk3
  (go_wp2_with fail); (go_at_call 83); (refine (spec_l00Same _ _ _ _ _ _ _ (by omega) hw hg.rd (hS.keep hW)).mono ?_); rintro e w4 ⟨rfl, hk4⟩
  go_wp2
  go_ret; exact ⟨rfl, (by ((repeat (first | (with_reducible assumption) | ((with_reducible refine Keep.setCell ?_ ?_ _); rotate_left; focus (first | omega | (simp; done) | (simp; omega))) | (with_reducible refine Keep.alloc ?_ _) | (with_reducible refine Keep.drewN ?_ _) | (with_reducible refine Keep.drew ?_) | (with_reducible exact Keep.refl _) | refine Keep.trans ?_ (by with_reducible assumption) | exact Keep.refl _ | assumption))))⟩
end Go.Proofs.YtpmilcfppcmodaaDoor
namespace Go.Proofs.YtpmilcfppcmodaaDoor
open Go.RowKit Go.Shelf
set_option maxHeartbeats 1000000
set_option maxRecDepth 20000
/-- Is the wanted number at this place an index, and behind the one ahead of it? -/
def wnAt (l : List Int) (n : Nat) (i : Nat) : Bool := match l[i]? with
  | some x => inB x 0 ((n : Int) - 1) && (match i with
    | 0 => true
    | j + 1 => match l[j]? with
      | some y => decide (y < x)
      | none => true)
  | none => true
def wnB (l : List Int) (n : Nat) : Bool := (List.range l.length).all (wnAt l n)
theorem wnAt_zero {l : List Int} {n : Nat} (h : 0 < l.length) : wnAt l n 0 = inB l[0] 0 ((n : Int) - 1) := by
  unfold wnAt; rw [List.getElem?_eq_getElem h]; simp
theorem wnAt_succ {l : List Int} {n m : Nat} (h : m + 1 < l.length) : wnAt l n (m + 1) = (inB l[m + 1] 0 ((n : Int) - 1) && decide (l[m] < l[m + 1])) := by
  unfold wnAt; rw [List.getElem?_eq_getElem h]; simp [List.getElem?_eq_getElem (show m < l.length by omega)]
theorem spec_l02Wanted (B : Option Addr) (l : List Int) (d n : Nat) (w : World) (hm : l.length ≤ 9223372036854775807) (hn : n ≤ 1048576) (hS : Rd w B (ints l)) :
    Calls Tryd.prog 75 #[.slice B l.length d, .int .i64 ((n : Int))] w fun e w' => e = .returned (.bool (wnB l n)) ∧ Keep w w' := by
  have wqn : IntKind.i64.wrap ((n : Int) - 1) = (n : Int) - 1 := wrapI64 ⟨by omega, by omega⟩
  go_enter Tryd.func75, Tryd.ntmps75
  go_wp2_with fail
  go_loopg [5] l.length (fun k s5 wr => ∃ i : Nat, i + k = l.length ∧ s5 = .int .i64 i ∧ (List.range i).all (wnAt l n) = true ∧ Keep w wr)
  case atStart => exact ⟨0, by omega, rfl, rfl, (by ((repeat (first | (with_reducible assumption) | ((with_reducible refine Keep.setCell ?_ ?_ _); rotate_left; focus (first | omega | (simp; done) | (simp; omega))) | (with_reducible refine Keep.alloc ?_ _) | (with_reducible refine Keep.drewN ?_ _) | (with_reducible refine Keep.drew ?_) | (with_reducible exact Keep.refl _) | refine Keep.trans ?_ (by with_reducible assumption) | exact Keep.refl _ | assumption))))⟩
  case round =>
    obtain ⟨i, hi, rfl, hal, hk0⟩ := hrel
    have HL := Aside.mk hal
    clear hal
    by_cases hlt : i < l.length
    · obtain ⟨bb, o, rfl, hc⟩ := (hS.keep hk0).at (k := i) (by rw [ints_len]; omega)
      have p1 := hc _ _ (ints_at l i hlt)
      have HSS := Aside.mk (rall_succ (wnAt l n) i)
      have HNO := Aside.mk (fun h => (rall_no (p := wnAt l n) hlt h : (List.range l.length).all (wnAt l n) = false))
      by_cases hi0 : 0 < i
      · obtain ⟨m, hm1⟩ : ∃ m, i = m + 1 := ⟨i - 1, by omega⟩
        have hml : m < l.length := by omega
        have q1 := hc _ _ (ints_at l m hml)
        have hB : Aside (wnAt l n i = (inB l[i] 0 ((n : Int) - 1) && decide (l[m] < l[i]))) := Aside.mk (by subst hm1; exact wnAt_succ hlt)
        have hsub : ((i : Int) - 1) = (m : Int) := by omega
        have hwm : IntKind.i64.wrap (m : Int) = m := wrapI64 ⟨by omega, by omega⟩
        clear hc hm1
        generalize l[i] = x at *
        generalize l[m] = y at *
        have hin := Aside.mk (fun W => spec_l00In x 0 ((n : Int) - 1) W)
        generalize inB x 0 ((n : Int) - 1) = r at *
        go_wp2_with fail
        cases r
        ·
          refine wp_region_keep (by kernel_rfl) (by kernel_rfl) ?_
          repeat
            first
              | (apply QuietL.run
                 focus go_simp
                 focus
                   intro w2 hk
                   have p1' := hk.cell p1
                   have q1' := hk.cell q1
                   apply QAt.mk
                   go_simp
                   first
                     | done
                     | exact rfl
                     | (go_at_call 132; exact quiet_call hk (hin.out _))
                 simp only [Act.put, List.setIfInBounds_toArray, List.set_cons_succ, List.set_cons_zero])
              | (apply QuietL.skip
                 focus (first | (go_simp; done) | (simp only [undef]; go_simp))
                 simp only [Act.put, List.setIfInBounds_toArray, List.set_cons_succ, List.set_cons_zero])
          apply QuietL.nil
          intro w2 hk
          have p1' := hk.cell p1
          have q1' := hk.cell q1
          have HA := Aside.mk (show wnB l n = false from HNO.out (by rw [hB.out]; rfl))
          clear HNO HSS hB HL
          go_wp2
          go_ret; exact ⟨rb HA.out.symm, Keep.trans hk0 hk⟩
        · by_cases hxy : x ≤ y
          ·
            refine wp_region_keep (by kernel_rfl) (by kernel_rfl) ?_
            repeat
              first
                | (apply QuietL.run
                   focus go_simp
                   focus
                     intro w2 hk
                     have p1' := hk.cell p1
                     have q1' := hk.cell q1
                     apply QAt.mk
                     go_simp
                     first
                       | done
                       | exact rfl
                       | (go_at_call 132; exact quiet_call hk (hin.out _))
                   simp only [Act.put, List.setIfInBounds_toArray, List.set_cons_succ, List.set_cons_zero])
                | (apply QuietL.skip
                   focus (first | (go_simp; done) | (simp only [undef]; go_simp))
                   simp only [Act.put, List.setIfInBounds_toArray, List.set_cons_succ, List.set_cons_zero])
            apply QuietL.nil
            intro w2 hk
            have p1' := hk.cell p1
            have q1' := hk.cell q1
            have HA := Aside.mk (show wnB l n = false from HNO.out (by rw [hB.out]; simp; omega))
            clear HNO HSS hB HL
            go_wp2
            go_ret; exact ⟨rb HA.out.symm, Keep.trans hk0 hk⟩
          ·
            refine wp_region_keep (by kernel_rfl) (by kernel_rfl) ?_
            repeat
              first
                | (apply QuietL.run
                   focus go_simp
                   focus
                     intro w2 hk
                     have p1' := hk.cell p1
                     have q1' := hk.cell q1
                     apply QAt.mk
                     go_simp
                     first
                       | done
                       | exact rfl
                       | (go_at_call 132; exact quiet_call hk (hin.out _))
                   simp only [Act.put, List.setIfInBounds_toArray, List.set_cons_succ, List.set_cons_zero])
                | (apply QuietL.skip
                   focus (first | (go_simp; done) | (simp only [undef]; go_simp))
                   simp only [Act.put, List.setIfInBounds_toArray, List.set_cons_succ, List.set_cons_zero])
            apply QuietL.nil
            intro w2 hk
            have p1' := hk.cell p1
            have q1' := hk.cell q1
            have HA := Aside.mk (show (List.range (i + 1)).all (wnAt l n) = true by rw [HSS.out, HL.out, hB.out]; simp; omega)
            clear HNO HSS hB HL
            go_wp2
            go_roundg (l.length - (i + 1))
            case measure => omega
            case rel => exact ⟨i + 1, by omega, by go_num, HA.out, Keep.trans hk0 hk⟩
      · obtain rfl : i = 0 := by omega
        have hB : Aside (wnAt l n 0 = inB l[0] 0 ((n : Int) - 1)) := Aside.mk (wnAt_zero hlt)
        rw [Nat.add_zero] at p1
        clear hc
        generalize l[0] = x at *
        have hin := Aside.mk (fun W => spec_l00In x 0 ((n : Int) - 1) W)
        generalize inB x 0 ((n : Int) - 1) = r at *
        go_wp2_with fail
        cases r
        ·
          refine wp_region_keep (by kernel_rfl) (by kernel_rfl) ?_
          repeat
            first
              | (apply QuietL.run
                 focus go_simp
                 focus
                   intro w2 hk
                   have p1' := hk.cell p1
                   apply QAt.mk
                   go_simp
                   first
                     | done
                     | exact rfl
                     | (go_at_call 132; exact quiet_call hk (hin.out _))
                 simp only [Act.put, List.setIfInBounds_toArray, List.set_cons_succ, List.set_cons_zero])
              | (apply QuietL.skip
                 focus (first | (go_simp; done) | (simp only [undef]; go_simp))
                 simp only [Act.put, List.setIfInBounds_toArray, List.set_cons_succ, List.set_cons_zero])
          apply QuietL.nil
          intro w2 hk
          have p1' := hk.cell p1
          have HA := Aside.mk (show wnB l n = false from HNO.out (by rw [hB.out]))
          clear HNO HSS hB HL
          go_wp2
          go_ret; exact ⟨rb HA.out.symm, Keep.trans hk0 hk⟩
        ·
          refine wp_region_keep (by kernel_rfl) (by kernel_rfl) ?_
          repeat
            first
              | (apply QuietL.run
                 focus go_simp
                 focus
                   intro w2 hk
                   have p1' := hk.cell p1
                   apply QAt.mk
                   go_simp
                   first
                     | done
                     | exact rfl
                     | (go_at_call 132; exact quiet_call hk (hin.out _))
                 simp only [Act.put, List.setIfInBounds_toArray, List.set_cons_succ, List.set_cons_zero])
              | (apply QuietL.skip
                 focus (first | (go_simp; done) | (simp only [undef]; go_simp))
                 simp only [Act.put, List.setIfInBounds_toArray, List.set_cons_succ, List.set_cons_zero])
          apply QuietL.nil
          intro w2 hk
          have p1' := hk.cell p1
          have HA := Aside.mk (show (List.range (0 + 1)).all (wnAt l n) = true by rw [HSS.out, HL.out, hB.out]; rfl)
          clear HNO HSS hB HL
          go_wp2
          go_roundg (l.length - (0 + 1))
          case measure => omega
          case rel => exact ⟨0 + 1, by omega, by go_num, HA.out, Keep.trans hk0 hk⟩
    · have e2 : i = l.length := by omega
      subst e2
      have HA := Aside.mk (show wnB l n = true from HL.out)
      go_wp2
      go_ret; exact ⟨rb HA.out.symm, (by ((repeat (first | (with_reducible assumption) | ((with_reducible refine Keep.setCell ?_ ?_ _); rotate_left; focus (first | omega | (simp; done) | (simp; omega))) | (with_reducible refine Keep.alloc ?_ _) | (with_reducible refine Keep.drewN ?_ _) | (with_reducible refine Keep.drew ?_) | (with_reducible exact Keep.refl _) | refine Keep.trans ?_ (by with_reducible assumption) | exact Keep.refl _ | assumption))))⟩
end Go.Proofs.YtpmilcfppcmodaaDoor

/- A source of draws: its next byte. -/
import Derived.Test.YtpmilcfppcmodaaDoorMonoJ
import Derived.Test.YtpmilcfppcmodaaDoorRd
import Derived.Test.YtpmilcfppcmodaaDoorS3
import Derived.Test.YtpmilcfppcmodaaDoorAu
set_option linter.unusedVariables false
set_option linter.unusedSimpArgs false
namespace Go.Proofs.YtpmilcfppcmodaaDoor
open Go.RowKit
set_option maxHeartbeats 1000000
set_option maxRecDepth 20000
/-- The cells of bytes in a row. -/
def bys (l : List UInt8) : List Value := l.map fun b => .int .u8 b.toNat
theorem bys_len (l : List UInt8) : (bys l).length = l.length := by simp [bys]
theorem bys_at (l : List UInt8) (i : Nat) (h : i < l.length) : (bys l)[i]? = some (.int .u8 l[i].toNat) := by simp [bys, h]
/-- A source of draws, at most so many bytes on. -/
def Src (w : World) (g : Nat) (S : Option Addr) (n c k : Nat) : Prop := ∃ (i : Nat) (sd : Wd), i ≤ k ∧ Bx w g #[.slice S n c, .int .i64 i, .int .u64 (U sd)] 146
theorem Src.keep {w w' : World} {g : Nat} {S : Option Addr} {n c k : Nat} (h : Src w g S n c k) (hk : Keep w w') : Src w' g S n c k := by
  obtain ⟨i, sd, h1, h2⟩ := h
  exact ⟨i, sd, h1, h2.keep hk⟩
theorem Src.more {w : World} {g : Nat} {S : Option Addr} {n c k m : Nat} (h : Src w g S n c k) (hm : k ≤ m) : Src w g S n c m := by
  obtain ⟨i, sd, h1, h2⟩ := h
  exact ⟨i, sd, by omega, h2⟩
theorem u64_wd (n : Int) : ∃ x : Wd, IntKind.u64.wrap n = U x := by
  refine ⟨BitVec.ofInt 64 n, ?_⟩
  unfold U
  rw [IntKind.wrap_u64, BitVec.toNat_ofInt]
  have := Int.emod_nonneg n (show (18446744073709551616 : Int) ≠ 0 by decide)
  simp
  omega
theorem grown_set (w : World) (g j : Nat) (v : Value) : w.grownBy (w.setCell ⟨g, j, none⟩ v) (some g) :=
  ⟨rfl, rfl, rfl, by simp, fun i hi hne => Below.heap_setCell w ⟨g, j, none⟩ v i (by simpa using hne)⟩
theorem byte_of (x : Wd) : 0 ≤ bits .and .u64 (U x / 1099511627776) 255 ∧ bits .and .u64 (U x / 1099511627776) 255 ≤ 255 := by
  rw [show (1099511627776 : Int) = 2 ^ 40 from rfl, shr_U, show (255 : Int) = U 255#64 from rfl, bits_and_U]
  unfold U
  rw [BitVec.toNat_and]
  have := Nat.and_le_right (n := (x >>> 40).toNat) (m := (255#64 : Wd).toNat)
  simp at this ⊢
  omega
theorem src_next (l : List UInt8) (g : Nat) (S : Option Addr) (c k : Nat) (w : World) (hk : k ≤ 1000000) (hn : l.length ≤ 9223372036854775807) (hR : Rd w S (bys l)) (hne : l ≠ [] → ∀ b o, S = some ⟨b, o, none⟩ → b ≠ g) (hS : Src w g S l.length c k) :
    Calls Tryd.prog 152 #[.pointer (some ⟨g, 0, none⟩)] w fun e w' => ∃ r : Int, e = .returned (.int .i64 r) ∧ 0 ≤ r ∧ r ≤ 255 ∧ w.grownBy w' (some g) ∧ Src w' g S l.length c (k + 1) := by
  obtain ⟨i, sd, hi, hB⟩ := hS
  obtain ⟨c0, c1, c2, f0, f1, f2, gz⟩ := hB.three
  by_cases hlt : i < l.length
  · obtain ⟨bb, o, rfl, hc⟩ := hR.at (k := i) (by rw [bys_len]; exact hlt)
    have hcell := hc _ _ (bys_at l i hlt)
    have hb := l[i].toNat_lt
    generalize l[i].toNat = b at *
    have eb : IntKind.i64.wrap (b : Int) = b := wrapI64 ⟨by omega, by omega⟩
    have hbg := hne (by intro h; rw [h] at hlt; simp at hlt) bb o rfl
    clear c0 c1 c2 f0 f1 f2 gz hc
    have gz := hB.lt
    go_enter Tryd.func152, Tryd.ntmps152
    have hBs := hB.three
    go_wp2_with fail
    clear hBs
    refine wp_region_keep (by kernel_rfl) (by kernel_rfl) ?_
    repeat
      first
        | (apply QuietL.run
           focus go_simp
           focus
             intro w2 hk
             have hcell' := hk.cell hcell
             obtain ⟨hB_0, hB_1, hB_2, hB_3, hB_4, hB_5, hB_6⟩ := (hB.keep hk).three
             apply QAt.mk
             go_simp
             first
               | done
               | exact rfl
           simp only [Act.put, List.setIfInBounds_toArray, List.set_cons_succ, List.set_cons_zero])
        | (apply QuietL.skip
           focus go_simp
           simp only [Act.put, List.setIfInBounds_toArray, List.set_cons_succ, List.set_cons_zero])
    apply QuietL.nil
    intro w2 hk
    have hcell' := hk.cell hcell
    have hB := hB.keep hk
    obtain ⟨hB_0, hB_1, hB_2, hB_3, hB_4, hB_5, hB_6⟩ := hB.three
    go_wp2_with fail
    clear hB_0 hB_1 hB_2 hB_3 hB_4 hB_5 hB_6 hcell
    have k2 := hk
    refine wp_region_keep (by kernel_rfl) (by kernel_rfl) ?_
    repeat
      first
        | (apply QuietL.run
           focus go_simp
           focus
             intro w2 hk
             have hcell'' := hk.cell hcell'
             obtain ⟨hB_0, hB_1, hB_2, hB_3, hB_4, hB_5, hB_6⟩ := (hB.keep hk).three
             apply QAt.mk
             go_simp
             first
               | done
               | exact rfl
           simp only [Act.put, List.setIfInBounds_toArray, List.set_cons_succ, List.set_cons_zero])
        | (apply QuietL.skip
           focus go_simp
           simp only [Act.put, List.setIfInBounds_toArray, List.set_cons_succ, List.set_cons_zero])
    apply QuietL.nil
    intro w2 hk
    have hcell'' := hk.cell hcell'
    have hB := hB.keep hk
    obtain ⟨hB_0, hB_1, hB_2, hB_3, hB_4, hB_5, hB_6⟩ := hB.three
    have k3 := Keep.trans k2 hk
    go_wp2_with fail
    obtain ⟨sd2, hsd⟩ := u64_wd (IntKind.u64.wrap (IntKind.u64.wrap (U sd * 6364136223846793005) + (b : Int)) + 1442695040888963407)
    simp only [hsd]
    refine wp_gen (fun W => Bx W g #[.slice (some ⟨bb, o, none⟩) l.length c, .int .i64 ((i + 1 : Nat) : Int), .int .u64 (U sd2)] 146 ∧ w.grownBy W (some g)) ⟨by first | exact (hB.set (i := 1) _).set (i := 2) _, grown_trans (grown_keep k3 _) (grown_trans (grown_set _ _ _ _) (grown_set _ _ _ _))⟩ ?_
    rintro W ⟨hB2, hG⟩
    clear hB hB_0 hB_1 hB_2 hB_3 hB_4 hB_5 hB_6 hsd
    refine wp_region_keep (by kernel_rfl) (by kernel_rfl) ?_
    repeat
      first
        | (apply QuietL.run
           focus go_simp
           focus
             intro w2 hk
             obtain ⟨hB2_0, hB2_1, hB2_2, hB2_3, hB2_4, hB2_5, hB2_6⟩ := (hB2.keep hk).three
             apply QAt.mk
             go_simp
             first
               | done
               | exact rfl
           simp only [Act.put, List.setIfInBounds_toArray, List.set_cons_succ, List.set_cons_zero])
        | (apply QuietL.skip
           focus go_simp
           simp only [Act.put, List.setIfInBounds_toArray, List.set_cons_succ, List.set_cons_zero])
    apply QuietL.nil
    intro w2 hk
    have hB2 := hB2.keep hk
    obtain ⟨hB2_0, hB2_1, hB2_2, hB2_3, hB2_4, hB2_5, hB2_6⟩ := hB2.three
    have hG2 := grown_trans hG (grown_keep hk _)
    have HS := Aside.mk (show Src w2 g (some ⟨bb, o, none⟩) l.length c (k + 1) from ⟨i + 1, sd2, by omega, hB2⟩)
    have hle : (i : Int) + 1 ≤ l.length := by omega
    go_wp2
    go_ret; exact ⟨_, rfl, by omega, by omega, hG2, HS.out⟩
  · clear c0 c1 c2 f0 f1 f2 gz
    go_enter Tryd.func152, Tryd.ntmps152
    have hBs := hB.three
    go_wp2_with fail
    clear hBs
    refine wp_region_keep (by kernel_rfl) (by kernel_rfl) ?_
    repeat
      first
        | (apply QuietL.run
           focus go_simp
           focus
             intro w2 hk
             obtain ⟨hB_0, hB_1, hB_2, hB_3, hB_4, hB_5, hB_6⟩ := (hB.keep hk).three
             apply QAt.mk
             go_simp
             first
               | done
               | exact rfl
           simp only [Act.put, List.setIfInBounds_toArray, List.set_cons_succ, List.set_cons_zero])
        | (apply QuietL.skip
           focus go_simp
           simp only [Act.put, List.setIfInBounds_toArray, List.set_cons_succ, List.set_cons_zero])
    apply QuietL.nil
    intro w2 hk
    have hB := hB.keep hk
    obtain ⟨hB_0, hB_1, hB_2, hB_3, hB_4, hB_5, hB_6⟩ := hB.three
    have k3 := hk
    go_wp2_with fail
    obtain ⟨sd2, hsd⟩ := u64_wd (IntKind.u64.wrap (IntKind.u64.wrap (U sd * 6364136223846793005)) + 1442695040888963407)
    simp only [hsd]
    refine wp_gen (fun W => Bx W g #[.slice S l.length c, .int .i64 ((i + 1 : Nat) : Int), .int .u64 (U sd2)] 146 ∧ w.grownBy W (some g)) ⟨by first | exact (hB.set (i := 1) _).set (i := 2) _, grown_trans (grown_keep k3 _) (grown_trans (grown_set _ _ _ _) (grown_set _ _ _ _))⟩ ?_
    rintro W ⟨hB2, hG⟩
    clear hB hB_0 hB_1 hB_2 hB_3 hB_4 hB_5 hB_6 hsd
    refine wp_region_keep (by kernel_rfl) (by kernel_rfl) ?_
    repeat
      first
        | (apply QuietL.run
           focus go_simp
           focus
             intro w2 hk
             obtain ⟨hB2_0, hB2_1, hB2_2, hB2_3, hB2_4, hB2_5, hB2_6⟩ := (hB2.keep hk).three
             apply QAt.mk
             go_simp
             first
               | done
               | exact rfl
           simp only [Act.put, List.setIfInBounds_toArray, List.set_cons_succ, List.set_cons_zero])
        | (apply QuietL.skip
           focus go_simp
           simp only [Act.put, List.setIfInBounds_toArray, List.set_cons_succ, List.set_cons_zero])
    apply QuietL.nil
    intro w2 hk
    have hB2 := hB2.keep hk
    obtain ⟨hB2_0, hB2_1, hB2_2, hB2_3, hB2_4, hB2_5, hB2_6⟩ := hB2.three
    have hG2 := grown_trans hG (grown_keep hk _)
    have HS := Aside.mk (show Src w2 g S l.length c (k + 1) from ⟨i + 1, sd2, by omega, hB2⟩)
    have hle : ¬ (i : Int) + 1 ≤ l.length := by omega
    obtain ⟨y1, y2⟩ := byte_of sd2
    go_wp2
    go_ret; refine ⟨_, rfl, ?_, ?_, hG2, HS.out⟩
    all_goals omega
end Go.Proofs.YtpmilcfppcmodaaDoor

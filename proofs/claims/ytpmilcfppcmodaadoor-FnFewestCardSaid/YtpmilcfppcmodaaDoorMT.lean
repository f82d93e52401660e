/- Texts that mark a string: the walk. -/
import Derived.Test.YtpmilcfppcmodaaDoorRd
import Derived.Test.YtpmilcfppcmodaaDoorS3
import Derived.Laws.BytesArg
import Derived.Laws.Concat
set_option linter.unusedVariables false
set_option linter.unusedSimpArgs false
namespace Go.Proofs.YtpmilcfppcmodaaDoor
open Go.RowKit
set_option maxHeartbeats 1000000
set_option maxRecDepth 20000
/-- One decimal digit as a text. -/
def digS (k : Nat) : ByteArray := strOfNums [48 + (k : Int) % 10]
theorem digS_size (k : Nat) : (digS k).size = 1 := strOfNums_size _
/-- So many digits ahead of a text. -/
def dgT : Nat → Nat → ByteArray → ByteArray
  | 0, _, o => o
  | f + 1, k, o => if k = 0 then o else dgT f (k / 10) (digS k ++ o)
theorem dgT_zero (f : Nat) (o : ByteArray) : dgT f 0 o = o := by cases f <;> simp [dgT]
theorem dgT_succ {f k : Nat} (o : ByteArray) (h : 0 < k) (hf : k ≤ f) : dgT f k o = dgT (f - 1) (k / 10) (digS k ++ o) := by
  cases f with
  | zero => omega
  | succ f => simp only [dgT]; rw [if_neg (by omega)]; rfl
/-- The mark of a number. -/
def mkT (k : Nat) : ByteArray := ⟨#[109]⟩ ++ dgT k k ByteArray.empty
theorem size_app (a b : ByteArray) : (a ++ b).size = a.size + b.size := by simp
theorem laws_markText (k : Nat) (w : World) (h0 : 0 < k) (h1 : k ≤ 100000000) :
    Calls Tryd.prog 96 #[.int .i64 ((k : Int))] w fun e w' => e = .returned (.string (mkT k)) ∧ Keep w w' := by
  obtain ⟨R, hR⟩ : ∃ R, mkT k = R := ⟨_, rfl⟩
  have HM : Aside (R = ⟨#[109]⟩ ++ dgT k k ByteArray.empty) := Aside.mk hR.symm
  rw [hR]
  clear hR
  go_enter Tryd.func96, Tryd.ntmps96
  go_wp2_with fail
  go_loopg [0, 3] k (fun mm s0 s3 wr => ∃ (m q : Nat) (o : ByteArray), m = mm ∧ q ≤ m ∧ m ≤ k ∧ s0 = .int .i64 ((q : Int)) ∧ s3 = .string o ∧ o.size ≤ k - m ∧ dgT k k ByteArray.empty = dgT m q o ∧ Keep w wr)
  case atStart => exact ⟨k, k, ByteArray.empty, rfl, Nat.le_refl _, Nat.le_refl _, rfl, rfl, by simp, rfl, (by ((repeat (first | (with_reducible assumption) | ((with_reducible refine Keep.setCell ?_ ?_ _); rotate_left; focus (first | omega | (simp; done) | (simp; omega))) | (with_reducible refine Keep.alloc ?_ _) | (with_reducible refine Keep.drewN ?_ _) | (with_reducible refine Keep.drew ?_) | (with_reducible exact Keep.refl _) | refine Keep.trans ?_ (by with_reducible assumption) | exact Keep.refl _ | assumption))))⟩
  case round =>
    obtain ⟨m, q, o, rfl, hq, hm, rfl, rfl, ho, hd, hk⟩ := hrel
    have HD := Aside.mk hd
    clear hd
    by_cases hq0 : 0 < q
    · have HS := Aside.mk (dgT_succ o hq0 hq)
      have hs := digS_size q
      have ha := size_app (digS q) o
      have et : (q : Int).tmod 10 = q % 10 := Int.tmod_eq_emod_of_nonneg (by omega)
      have eq : (q : Int).tdiv 10 = q / 10 := Int.tdiv_eq_ediv_of_nonneg (by omega)
      have hcell : (wr.alloc (.cells #[.int .u8 (48 + (q : Int) % 10)] 5)).cell? ⟨wr.heap.size, 0, none⟩ = some (.int .u8 (48 + (q : Int) % 10)) := (Bx.new wr #[.int .u8 (48 + (q : Int) % 10)] 5).cell 0
      have hcv := run_convert_bytes_arg (P := Tryd.prog) (wr.alloc (.cells #[.int .u8 (48 + (q : Int) % 10)] 5)) 22 5 Tryd.underlying22 Tryd.underlying5 wr.heap.size 0 1 1 [(48 + (q : Int) % 10)] rfl (fun i hi => by
        have e : i = 0 := by omega
        subst e
        exact hcell) 9 Tryd.underlying9
      rw [show strOfNums [(48 + (q : Int) % 10)] = digS q from rfl] at hcv
      clear hcell
      generalize digS q = ds at *
      go_wp2
      go_roundg (m - 1)
      case measure => omega
      case rel => exact ⟨m - 1, q / 10, ds ++ o, rfl, by omega, by omega, by go_num, rfl, by omega, by rw [HD.out, HS.out], (by ((repeat (first | (with_reducible assumption) | ((with_reducible refine Keep.setCell ?_ ?_ _); rotate_left; focus (first | omega | (simp; done) | (simp; omega))) | (with_reducible refine Keep.alloc ?_ _) | (with_reducible refine Keep.drewN ?_ _) | (with_reducible refine Keep.drew ?_) | (with_reducible exact Keep.refl _) | refine Keep.trans ?_ (by with_reducible assumption) | exact Keep.refl _ | assumption))))⟩
    · obtain rfl : q = 0 := by omega
      have HZ := Aside.mk (dgT_zero m o)
      go_wp2
      go_ret; exact ⟨by rw [HM.out, HD.out, HZ.out]; rfl, (by ((repeat (first | (with_reducible assumption) | ((with_reducible refine Keep.setCell ?_ ?_ _); rotate_left; focus (first | omega | (simp; done) | (simp; omega))) | (with_reducible refine Keep.alloc ?_ _) | (with_reducible refine Keep.drewN ?_ _) | (with_reducible refine Keep.drew ?_) | (with_reducible exact Keep.refl _) | refine Keep.trans ?_ (by with_reducible assumption) | exact Keep.refl _ | assumption))))⟩
end Go.Proofs.YtpmilcfppcmodaaDoor

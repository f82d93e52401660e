/- Checks of words, holes of words: the walks. -/
import Derived.Test.YtbbnhbfofdhnbaaDoorX2
import Derived.Test.YtbbnhbfofdhnbaaDoorN1
import Derived.Test.YtbbnhbfofdhnbaaDoorM5
import Derived.Test.YtbbnhbfofdhnbaaDoorM6
import Derived.Test.YtbbnhbfofdhnbaaDoorAu
set_option linter.unusedVariables false
set_option linter.unusedSimpArgs false
namespace Go.Proofs.YtbbnhbfofdhnbaaDoor
open Go.RowKit
set_option maxHeartbeats 4000000
set_option maxRecDepth 20000
theorem wrapU32 (n : Int) : IntKind.u32.wrap n = n % 4294967296 := by simp [IntKind.wrap, IntKind.bits, IntKind.signed]
theorem chk_take (s : ByteArray) (i : Nat) (h : i < s.size) : ((chk (s.data.toList.take (i + 1)) : Nat) : Int) = IntKind.u32.wrap (IntKind.u32.wrap ((chk (s.data.toList.take i) : Nat) * 16777619) + IntKind.u32.wrap (s[i].toNat : Int)) := by
  have h' : i < s.data.toList.length := by simpa using h
  rw [List.take_succ_eq_append_getElem h', chk_app]
  have e : s.data.toList[i] = s[i] := by simp; rfl
  rw [e, wrapU32, wrapU32, wrapU32]
  omega
theorem chk_take2 (s : ByteArray) (i : Nat) (h : i < s.size) : ((chk (s.data.toList.take (i + 1)) : Nat) : Int) = IntKind.u32.wrap (IntKind.u32.wrap ((chk (s.data.toList.take i) : Nat) * 16777619) + (s[i].toNat : Int)) := by
  rw [chk_take s i h, wrapU32, wrapU32, wrapU32, wrapU32]
  omega
theorem impl_wordCheck (s : ByteArray) (w : World) (hs : s.size ≤ 9223372036854775807) :
    Calls Tryd.prog 69 #[.string s] w fun e w' => e = .returned (.int .u32 (chk s.data.toList : Nat)) ∧ Keep w w' := by
  go_enter Tryd.func69, Tryd.ntmps69
  go_wp2_with fail
  go_loopg [3, 7] s.size (fun k s1 s2 wr => ∃ i : Nat, i + k = s.size ∧ s1 = .int .u32 (chk (s.data.toList.take i) : Nat) ∧ s2 = .int .i64 i ∧ Keep w wr)
  case atStart => exact ⟨0, by omega, rfl, rfl, (by ((repeat (first | (with_reducible assumption) | ((with_reducible refine Keep.setCell ?_ ?_ _); rotate_left; focus (first | omega | (simp; done) | (simp; omega))) | (with_reducible refine Keep.alloc ?_ _) | (with_reducible refine Keep.drewN ?_ _) | (with_reducible refine Keep.drew ?_) | (with_reducible exact Keep.refl _) | refine Keep.trans ?_ (by with_reducible assumption) | exact Keep.refl _ | assumption))))⟩
  case round =>
    obtain ⟨i, hi, rfl, rfl, hk⟩ := hrel
    by_cases hlt : i < s.size
    · have HC := Aside.mk (chk_take2 s i hlt)
      generalize chk (s.data.toList.take i) = c at *
      go_wp2
      go_roundg (s.size - (i + 1))
      case measure => omega
      case rel => exact ⟨i + 1, by omega, by rw [HC.out, wrapU32, wrapU32]; simp [go_sem]; try omega, by go_num, (by ((repeat (first | (with_reducible assumption) | ((with_reducible refine Keep.setCell ?_ ?_ _); rotate_left; focus (first | omega | (simp; done) | (simp; omega))) | (with_reducible refine Keep.alloc ?_ _) | (with_reducible refine Keep.drewN ?_ _) | (with_reducible refine Keep.drew ?_) | (with_reducible exact Keep.refl _) | refine Keep.trans ?_ (by with_reducible assumption) | exact Keep.refl _ | assumption))))⟩
    · obtain rfl : i = s.size := by omega
      rw [show s.data.toList.take s.size = s.data.toList from List.take_of_length_le (by simp)]
      go_wp2
      go_ret; exact ⟨rfl, (by ((repeat (first | (with_reducible assumption) | ((with_reducible refine Keep.setCell ?_ ?_ _); rotate_left; focus (first | omega | (simp; done) | (simp; omega))) | (with_reducible refine Keep.alloc ?_ _) | (with_reducible refine Keep.drewN ?_ _) | (with_reducible refine Keep.drew ?_) | (with_reducible exact Keep.refl _) | refine Keep.trans ?_ (by with_reducible assumption) | exact Keep.refl _ | assumption))))⟩
theorem spec_l03Check (s : ByteArray) (w : World) (hs : s.size ≤ 9223372036854775807) :
    Calls Tryd.prog 71 #[.string s] w fun e w' => e = .returned (.int .u32 (chk s.data.toList : Nat)) ∧ Keep w w' := by
  go_enter Tryd.func71, Tryd.ntmps71
  go_wp2_with fail
  go_loopg [3, 4] s.size (fun k s1 s2 wr => ∃ i : Nat, i + k = s.size ∧ s1 = .int .u32 (chk (s.data.toList.take i) : Nat) ∧ s2 = .int .i64 i ∧ Keep w wr)
  case atStart => exact ⟨0, by omega, rfl, rfl, (by ((repeat (first | (with_reducible assumption) | ((with_reducible refine Keep.setCell ?_ ?_ _); rotate_left; focus (first | omega | (simp; done) | (simp; omega))) | (with_reducible refine Keep.alloc ?_ _) | (with_reducible refine Keep.drewN ?_ _) | (with_reducible refine Keep.drew ?_) | (with_reducible exact Keep.refl _) | refine Keep.trans ?_ (by with_reducible assumption) | exact Keep.refl _ | assumption))))⟩
  case round =>
    obtain ⟨i, hi, rfl, rfl, hk⟩ := hrel
    by_cases hlt : i < s.size
    · have HC := Aside.mk (chk_take2 s i hlt)
      generalize chk (s.data.toList.take i) = c at *
      go_wp2
      go_roundg (s.size - (i + 1))
      case measure => omega
      case rel => exact ⟨i + 1, by omega, by rw [HC.out, wrapU32, wrapU32]; simp [go_sem]; try omega, by go_num, (by ((repeat (first | (with_reducible assumption) | ((with_reducible refine Keep.setCell ?_ ?_ _); rotate_left; focus (first | omega | (simp; done) | (simp; omega))) | (with_reducible refine Keep.alloc ?_ _) | (with_reducible refine Keep.drewN ?_ _) | (with_reducible refine Keep.drew ?_) | (with_reducible exact Keep.refl _) | refine Keep.trans ?_ (by with_reducible assumption) | exact Keep.refl _ | assumption))))⟩
    · obtain rfl : i = s.size := by omega
      rw [show s.data.toList.take s.size = s.data.toList from List.take_of_length_le (by simp)]
      go_wp2
      go_ret; exact ⟨rfl, (by ((repeat (first | (with_reducible assumption) | ((with_reducible refine Keep.setCell ?_ ?_ _); rotate_left; focus (first | omega | (simp; done) | (simp; omega))) | (with_reducible refine Keep.alloc ?_ _) | (with_reducible refine Keep.drewN ?_ _) | (with_reducible refine Keep.drew ?_) | (with_reducible exact Keep.refl _) | refine Keep.trans ?_ (by with_reducible assumption) | exact Keep.refl _ | assumption))))⟩
theorem toL_nil (s : ByteArray) : s.toList = [] ↔ s.size = 0 := by
  rw [ByteArray.toList_eq]
  show s.data.toList = [] ↔ s.data.size = 0
  rw [← Array.length_toList]; exact List.length_eq_zero_iff.symm
theorem spec_l03Word (s : ByteArray) (w : World) (hs : s.size ≤ 9223372036854775807) :
    Calls Tryd.prog 70 #[.string s] w fun e w' => e = .returned (.bool (nameB s)) ∧ Keep w w' := by
  go_enter Tryd.func70, Tryd.ntmps70
  go_wp2_with fail
  go_loopg [3] s.size (fun k v wr => ∃ i : Nat, i + k = s.size ∧ v = .int .i64 i ∧ (s.data.toList.take i).all letterB = true ∧ Keep w wr)
  case atStart => exact ⟨0, by omega, rfl, rfl, (by ((repeat (first | (with_reducible assumption) | ((with_reducible refine Keep.setCell ?_ ?_ _); rotate_left; focus (first | omega | (simp; done) | (simp; omega))) | (with_reducible refine Keep.alloc ?_ _) | (with_reducible refine Keep.drewN ?_ _) | (with_reducible refine Keep.drew ?_) | (with_reducible exact Keep.refl _) | refine Keep.trans ?_ (by with_reducible assumption) | exact Keep.refl _ | assumption))))⟩
  case round =>
    obtain ⟨i, hi, rfl, hall, hk⟩ := hrel
    have HL := Aside.mk hall
    clear hall
    by_cases hlt : i < s.size
    · have hT := take_all_succ s i hlt
      rw [HL.out, Bool.true_and] at hT
      have HT := Aside.mk hT
      have HN := Aside.mk (name_not s i hlt)
      clear hT
      by_cases c1 : (s[i].toNat : Int) < 97
      · have hb : letterB s[i] = false := by unfold letterB; simp; omega
        have e := HN.out hb
        rw [hb] at HT
        go_wp2
        go_ret; exact ⟨rb (by first | rfl | rw [e]), (by ((repeat (first | (with_reducible assumption) | ((with_reducible refine Keep.setCell ?_ ?_ _); rotate_left; focus (first | omega | (simp; done) | (simp; omega))) | (with_reducible refine Keep.alloc ?_ _) | (with_reducible refine Keep.drewN ?_ _) | (with_reducible refine Keep.drew ?_) | (with_reducible exact Keep.refl _) | refine Keep.trans ?_ (by with_reducible assumption) | exact Keep.refl _ | assumption))))⟩
      · by_cases c2 : (122 : Int) < s[i].toNat
        · have hb : letterB s[i] = false := by unfold letterB; simp; omega
          have e := HN.out hb
          go_wp2
          go_ret; exact ⟨rb (by first | rfl | rw [e]), (by ((repeat (first | (with_reducible assumption) | ((with_reducible refine Keep.setCell ?_ ?_ _); rotate_left; focus (first | omega | (simp; done) | (simp; omega))) | (with_reducible refine Keep.alloc ?_ _) | (with_reducible refine Keep.drewN ?_ _) | (with_reducible refine Keep.drew ?_) | (with_reducible exact Keep.refl _) | refine Keep.trans ?_ (by with_reducible assumption) | exact Keep.refl _ | assumption))))⟩
        · have hb : letterB s[i] = true := by unfold letterB; simp; omega
          rw [hb] at HT
          have hx1 : (97 : Int) ≤ s[i].toNat := by omega
          have hx2 : (s[i].toNat : Int) ≤ 122 := by omega
          clear hb
          go_wp2
          go_roundg (s.size - (i + 1))
          case measure => omega
          case rel => exact ⟨i + 1, by omega, by go_num, HT.out, (by ((repeat (first | (with_reducible assumption) | ((with_reducible refine Keep.setCell ?_ ?_ _); rotate_left; focus (first | omega | (simp; done) | (simp; omega))) | (with_reducible refine Keep.alloc ?_ _) | (with_reducible refine Keep.drewN ?_ _) | (with_reducible refine Keep.drew ?_) | (with_reducible exact Keep.refl _) | refine Keep.trans ?_ (by with_reducible assumption) | exact Keep.refl _ | assumption))))⟩
    · have e2 : i = s.size := by omega
      subst e2
      have hal : s.data.toList.all letterB = true := by
        have := HL.out
        rwa [List.take_of_length_le (by simp)] at this
      have hn : nameB s = (decide (1 ≤ s.size) && decide (s.size ≤ 16)) := by simp only [nameB, hal, Bool.and_true]
      have HN := Aside.mk hn
      clear hn
      go_wp2
      · have hz := (toL_nil s).1 ‹s.toList = []›
        go_ret; exact ⟨rb (by rw [HN.out, hz]; rfl), (by ((repeat (first | (with_reducible assumption) | ((with_reducible refine Keep.setCell ?_ ?_ _); rotate_left; focus (first | omega | (simp; done) | (simp; omega))) | (with_reducible refine Keep.alloc ?_ _) | (with_reducible refine Keep.drewN ?_ _) | (with_reducible refine Keep.drew ?_) | (with_reducible exact Keep.refl _) | refine Keep.trans ?_ (by with_reducible assumption) | exact Keep.refl _ | assumption))))⟩
      · have hz : ¬ s.size = 0 := fun h => ‹¬ s.toList = []› ((toL_nil s).2 h)
        have he : s.toList.isEmpty = false := by simpa using ‹¬ s.toList = []›
        have hv : (!s.toList.isEmpty && decide ((s.size : Int) ≤ 16)) = nameB s := by
          rw [HN.out, he, Bool.not_false, Bool.true_and, decide_eq_true (show 1 ≤ s.size by omega), Bool.true_and]
          exact decide_eq_decide.2 (by omega)
        go_ret; exact ⟨rb hv, (by ((repeat (first | (with_reducible assumption) | ((with_reducible refine Keep.setCell ?_ ?_ _); rotate_left; focus (first | omega | (simp; done) | (simp; omega))) | (with_reducible refine Keep.alloc ?_ _) | (with_reducible refine Keep.drewN ?_ _) | (with_reducible refine Keep.drew ?_) | (with_reducible exact Keep.refl _) | refine Keep.trans ?_ (by with_reducible assumption) | exact Keep.refl _ | assumption))))⟩
theorem impl_nextChance (a : Nat) (w : World) :
    Calls Tryd.prog 87 #[.int .u32 a] w fun e w' => e = .returned (.int .u32 (nx a : Nat)) ∧ Keep w w' := by
  have en : (1664525 * (a : Int) + 1013904223) % 4294967296 = ((nx a : Nat) : Int) := by unfold nx; omega
  go_enter Tryd.func87, Tryd.ntmps87
  go_wp2
  go_ret; exact ⟨by first | rw [en] | simp [en], (by ((repeat (first | (with_reducible assumption) | ((with_reducible refine Keep.setCell ?_ ?_ _); rotate_left; focus (first | omega | (simp; done) | (simp; omega))) | (with_reducible refine Keep.alloc ?_ _) | (with_reducible refine Keep.drewN ?_ _) | (with_reducible refine Keep.drew ?_) | (with_reducible exact Keep.refl _) | refine Keep.trans ?_ (by with_reducible assumption) | exact Keep.refl _ | assumption))))⟩
end Go.Proofs.YtbbnhbfofdhnbaaDoor

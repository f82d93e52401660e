/- Names: strings.Trim by the kit's contract; isName, l01Name. -/
import Derived.Test.YtagldpbmadfokaaGreatDoorM4
import Derived.Ground.NamesProg
import Derived.Shelf.Strings.SlTrimAscii
set_option linter.unusedVariables false
set_option linter.unusedSimpArgs false
namespace Go.Proofs.YtagldpbmadfokaaGreatDoor
open Go.RowKit Go.Shelf Go.Lib
def trimLays_ren : Go.Shelf.Ren := ⟨fun | 160 => 54 | 232 => 70 | 231 => 69 | 227 => 71 | 234 => 73 | 233 => 72 | 236 => 75 | 235 => 74 | 228 => 91 | 271 => 93 | 151 => 92 | 197 => 57 | 120 => 100 | 152 => 99 | 260 => 76 | 137 => 101 | 119 => 102 | 224 => 79 | 225 => 78 | 217 => 77 | 266 => 94 | n => n, fun | 9 => 9 | 4 => 4 | 3 => 3 | 5 => 5 | 117 => 97 | 116 => 96 | 0 => 0 | 124 => 100 | 21 => 21 | 105 => 80 | 46 => 72 | 119 => 115 | 139 => 118 | 138 => 117 | n => n, fun | 3 => 4 | 4 => 5 | n => n⟩
theorem trimLays : Go.Proofs.Lays.n160 Tryz.prog trimLays_ren := {
  mixed := by kernel_rfl
  f119 := Tryz.func102.trans (congrArg some (by kernel_rfl))
  f120 := Tryz.func100.trans (congrArg some (by kernel_rfl))
  f137 := Tryz.func101.trans (congrArg some (by kernel_rfl))
  f151 := Tryz.func92.trans (congrArg some (by kernel_rfl))
  f152 := Tryz.func99.trans (congrArg some (by kernel_rfl))
  f160 := Tryz.func54.trans (congrArg some (by kernel_rfl))
  f197 := Tryz.func57.trans (congrArg some (by kernel_rfl))
  f217 := Tryz.func77.trans (congrArg some (by kernel_rfl))
  f224 := Tryz.func79.trans (congrArg some (by kernel_rfl))
  f225 := Tryz.func78.trans (congrArg some (by kernel_rfl))
  f227 := Tryz.func71.trans (congrArg some (by kernel_rfl))
  f228 := Tryz.func91.trans (congrArg some (by kernel_rfl))
  f231 := Tryz.func69.trans (congrArg some (by kernel_rfl))
  f232 := Tryz.func70.trans (congrArg some (by kernel_rfl))
  f233 := Tryz.func72.trans (congrArg some (by kernel_rfl))
  f234 := Tryz.func73.trans (congrArg some (by kernel_rfl))
  f235 := Tryz.func74.trans (congrArg some (by kernel_rfl))
  f236 := Tryz.func75.trans (congrArg some (by kernel_rfl))
  f260 := Tryz.func76.trans (congrArg some (by kernel_rfl))
  f266 := Tryz.func94.trans (congrArg some (by kernel_rfl))
  f271 := Tryz.func93.trans (congrArg some (by kernel_rfl))
  t0 := Tryz.underlying0
  a0 := Tryz.isAgg0
  z0 := Tryz.sizeOf0
  v0 := Tryz.zeroValue0
  t3 := Tryz.underlying3
  a3 := Tryz.isAgg3
  z3 := Tryz.sizeOf3
  v3 := Tryz.zeroValue3
  t4 := Tryz.underlying4
  a4 := Tryz.isAgg4
  z4 := Tryz.sizeOf4
  v4 := Tryz.zeroValue4
  t5 := Tryz.underlying5
  a5 := Tryz.isAgg5
  z5 := Tryz.sizeOf5
  v5 := Tryz.zeroValue5
  t9 := Tryz.underlying9
  a9 := Tryz.isAgg9
  z9 := Tryz.sizeOf9
  v9 := Tryz.zeroValue9
  t21 := Tryz.underlying21
  a21 := Tryz.isAgg21
  z21 := Tryz.sizeOf21
  v21 := Tryz.zeroValue21
  t46 := Tryz.underlying72
  a46 := Tryz.isAgg72
  z46 := Tryz.sizeOf72
  v46 := Tryz.zeroValue72
  t105 := Tryz.underlying80
  a105 := Tryz.isAgg80
  z105 := Tryz.sizeOf80
  v105 := Tryz.zeroValue80
  t116 := Tryz.underlying96
  a116 := Tryz.isAgg96
  z116 := Tryz.sizeOf96
  t117 := Tryz.underlying97
  a117 := Tryz.isAgg97
  z117 := Tryz.sizeOf97
  v117 := Tryz.zeroValue97
  t119 := Tryz.underlying115
  a119 := Tryz.isAgg115
  z119 := Tryz.sizeOf115
  t124 := Tryz.underlying100
  a124 := Tryz.isAgg100
  z124 := Tryz.sizeOf100
  v124 := Tryz.zeroValue100
  t138 := Tryz.underlying117
  a138 := Tryz.isAgg117
  z138 := Tryz.sizeOf117
  v138 := Tryz.zeroValue117
  t139 := Tryz.underlying118
  a139 := Tryz.isAgg118
  z139 := Tryz.sizeOf118
  v139 := Tryz.zeroValue118
  g3 := by kernel_rfl
  g4 := by kernel_rfl }
def letters : ByteArray := ⟨#[97, 98, 99, 100, 101, 102, 103, 104, 105, 106, 107, 108, 109, 110, 111, 112, 113, 114, 115, 116, 117, 118, 119, 120, 121, 122]⟩
def letterB (b : UInt8) : Bool := decide (97 ≤ b.toNat) && decide (b.toNat ≤ 122)
/-- Is a text a name? -/
def nameB (s : ByteArray) : Bool := decide (1 ≤ s.size) && decide (s.size ≤ 16) && s.data.toList.all letterB
theorem letters_has (b : UInt8) : letters.data.toList.contains b = letterB b := by
  have h : ∀ n : Fin 256, letters.data.toList.contains (UInt8.ofNat n.val) = letterB (UInt8.ofNat n.val) := by decide +kernel
  have := h ⟨b.toNat, b.toNat_lt⟩
  simpa using this
theorem dropWhile_nil {α : Type} (p : α → Bool) (l : List α) : l.dropWhile p = [] ↔ l.all p = true := by
  induction l with
  | nil => simp
  | cons x l ih =>
    cases h : p x
    · simp [List.dropWhile_cons, h]
    · simp [List.dropWhile_cons, h, ih]
theorem dropWhile_head {α : Type} (p : α → Bool) : ∀ (l : List α) (x : α) (r : List α), l.dropWhile p = x :: r → p x = false
  | [], x, r, h => by simp at h
  | y :: l, x, r, h => by
    cases hy : p y
    · rw [List.dropWhile_cons, hy] at h
      simp at h
      rw [← h.1]; exact hy
    · rw [List.dropWhile_cons, hy] at h
      exact dropWhile_head p l x r (by simpa using h)
theorem trim_nil (l cs : List UInt8) : Lib.trimS l cs = [] ↔ l.all (fun b => cs.contains b) = true := by
  unfold Lib.trimS Lib.trimLeftS Lib.trimRightS
  rw [dropWhile_nil]
  constructor
  · intro h
    cases hd : l.reverse.dropWhile (fun b => cs.contains b) with
    | nil =>
      have := (dropWhile_nil _ _).1 hd
      rwa [List.all_reverse] at this
    | cons x r =>
      have h1 := dropWhile_head _ _ _ _ hd
      rw [hd, List.all_reverse] at h
      simp only [List.all_cons, Bool.and_eq_true] at h
      rw [h1] at h
      cases h.1
  · intro h
    have : l.reverse.dropWhile (fun b => cs.contains b) = [] := (dropWhile_nil _ _).2 (by rw [List.all_reverse]; exact h)
    rw [this]; rfl
theorem trim_name (s : ByteArray) : Lib.trimS s.data.toList letters.data.toList = [] ↔ s.data.toList.all letterB = true := by
  rw [trim_nil]
  simp only [letters_has]
theorem trim_empty (s : ByteArray) : (Lib.trimS s.data.toList letters.data.toList).isEmpty = s.data.toList.all letterB := by
  rw [Bool.eq_iff_iff, List.isEmpty_iff]; exact trim_name s
theorem strings_Trim (s : ByteArray) (w : World) (hs : s.size ≤ 9223372036854775807) :
    Calls Tryz.prog 54 #[.string s, .string ⟨#[97, 98, 99, 100, 101, 102, 103, 104, 105, 106, 107, 108, 109, 110, 111, 112, 113, 114, 115, 116, 117, 118, 119, 120, 121, 122]⟩] w fun e w' =>
      e = .returned (.string ⟨(Lib.trimS s.data.toList letters.data.toList).toArray⟩) ∧ Keep w w' := by
  have h := Any.strings_Trim_laid trimLays (by kernel_rfl) s letters w hs (by decide) (ascii_of_all (by decide))
  exact h.mono fun e w' ⟨h1, h2⟩ => ⟨h1, ⟨h2⟩⟩
theorem impl_isName (s : ByteArray) (w : World) (hs : s.size ≤ 9223372036854775807) :
    Calls Tryz.prog 42 #[.string s] w fun e w' => e = .returned (.bool (nameB s)) ∧ Keep w w' := by
  obtain ⟨t, ht⟩ : ∃ t : ByteArray, t = ⟨(Lib.trimS s.data.toList letters.data.toList).toArray⟩ := ⟨_, rfl⟩
  have hT := strings_Trim s
  rw [← ht] at hT
  go_enter Tryz.func42, Tryz.ntmps42
  go_wp2_with (go_at_call 54; refine (hT _ hs).mono ?_; rintro e w1 ⟨rfl, hk⟩)
  · have h1 : 1 ≤ s.size := by omega
    have h2 : s.size ≤ 16 := by omega
    go_ret; exact ⟨rb (by simp [nameB, h1, h2, trim_empty]), (by ((repeat (first | (with_reducible assumption) | ((with_reducible refine Keep.setCell ?_ ?_ _); rotate_left; focus (first | omega | (simp; done) | (simp; omega))) | (with_reducible refine Keep.alloc ?_ _) | (with_reducible refine Keep.drewN ?_ _) | (with_reducible refine Keep.drew ?_) | (with_reducible exact Keep.refl _) | refine Keep.trans ?_ (by with_reducible assumption) | exact Keep.refl _ | assumption))))⟩
  · have h2 : ¬ s.size ≤ 16 := by omega
    go_ret; exact ⟨rb (by simp [nameB, h2]), (by ((repeat (first | (with_reducible assumption) | ((with_reducible refine Keep.setCell ?_ ?_ _); rotate_left; focus (first | omega | (simp; done) | (simp; omega))) | (with_reducible refine Keep.alloc ?_ _) | (with_reducible refine Keep.drewN ?_ _) | (with_reducible refine Keep.drew ?_) | (with_reducible exact Keep.refl _) | refine Keep.trans ?_ (by with_reducible assumption) | exact Keep.refl _ | assumption))))⟩
  · have h1 : ¬ 1 ≤ s.size := by omega
    go_ret; exact ⟨rb (by simp only [nameB, h1, decide_false, Bool.false_and]), (by ((repeat (first | (with_reducible assumption) | ((with_reducible refine Keep.setCell ?_ ?_ _); rotate_left; focus (first | omega | (simp; done) | (simp; omega))) | (with_reducible refine Keep.alloc ?_ _) | (with_reducible refine Keep.drewN ?_ _) | (with_reducible refine Keep.drew ?_) | (with_reducible exact Keep.refl _) | refine Keep.trans ?_ (by with_reducible assumption) | exact Keep.refl _ | assumption))))⟩
theorem take_all_succ (s : ByteArray) (i : Nat) (h : i < s.size) : (s.data.toList.take (i + 1)).all letterB = ((s.data.toList.take i).all letterB && letterB s[i]) := by
  have h' : i < s.data.toList.length := by simpa using h
  rw [List.take_succ_eq_append_getElem h', List.all_append]
  simp
  rfl
theorem name_not (s : ByteArray) (i : Nat) (h : i < s.size) (hb : letterB s[i] = false) : nameB s = false := by
  have h' : i < s.data.toList.length := by simpa using h
  have : s.data.toList.all letterB = false := by
    rw [List.all_eq_false]
    exact ⟨s.data.toList[i], List.getElem_mem h', by
      have e : s.data.toList[i] = s[i] := by simp; rfl
      rw [e, hb]; decide⟩
  simp [nameB, this]
theorem spec_l01Name (s : ByteArray) (w : World) (hs : s.size ≤ 9223372036854775807) :
    Calls Tryz.prog 34 #[.string s] w fun e w' => e = .returned (.bool (nameB s)) ∧ Keep w w' := by
  go_enter Tryz.func34, Tryz.ntmps34
  go_wp2_with fail
  go_loopg [3] s.size (fun k v wr => ∃ i : Nat, i + k = s.size ∧ v = .int .i64 i ∧ (s.data.toList.take i).all letterB = true ∧ Keep w wr)
  case atStart => exact ⟨0, by omega, rfl, rfl, (by ((repeat (first | (with_reducible assumption) | ((with_reducible refine Keep.setCell ?_ ?_ _); rotate_left; focus (first | omega | (simp; done) | (simp; omega))) | (with_reducible refine Keep.alloc ?_ _) | (with_reducible refine Keep.drewN ?_ _) | (with_reducible refine Keep.drew ?_) | (with_reducible exact Keep.refl _) | refine Keep.trans ?_ (by with_reducible assumption) | exact Keep.refl _ | assumption))))⟩
  case round =>
    obtain ⟨i, hi, rfl, hall, hk⟩ := hrel
    have HL := Aside.mk hall
    clear hall
    by_cases hlt : i < s.size
    · have hT := take_all_succ s i hlt
      rw [HL.out, Bool.true_and] at hT
      have HT := Aside.mk hT
      have HN := Aside.mk (name_not s i hlt)
      clear hT
      by_cases c1 : (s[i].toNat : Int) < 97
      · have hb : letterB s[i] = false := by unfold letterB; simp; omega
        have e := HN.out hb
        rw [hb] at HT
        go_wp2
        go_ret; exact ⟨rb (by first | rfl | rw [e]), (by ((repeat (first | (with_reducible assumption) | ((with_reducible refine Keep.setCell ?_ ?_ _); rotate_left; focus (first | omega | (simp; done) | (simp; omega))) | (with_reducible refine Keep.alloc ?_ _) | (with_reducible refine Keep.drewN ?_ _) | (with_reducible refine Keep.drew ?_) | (with_reducible exact Keep.refl _) | refine Keep.trans ?_ (by with_reducible assumption) | exact Keep.refl _ | assumption))))⟩
      · by_cases c2 : (122 : Int) < s[i].toNat
        · have hb : letterB s[i] = false := by unfold letterB; simp; omega
          have e := HN.out hb
          go_wp2
          go_ret; exact ⟨rb (by first | rfl | rw [e]), (by ((repeat (first | (with_reducible assumption) | ((with_reducible refine Keep.setCell ?_ ?_ _); rotate_left; focus (first | omega | (simp; done) | (simp; omega))) | (with_reducible refine Keep.alloc ?_ _) | (with_reducible refine Keep.drewN ?_ _) | (with_reducible refine Keep.drew ?_) | (with_reducible exact Keep.refl _) | refine Keep.trans ?_ (by with_reducible assumption) | exact Keep.refl _ | assumption))))⟩
        · have hb : letterB s[i] = true := by unfold letterB; simp; omega
          rw [hb] at HT
          have hx1 : (97 : Int) ≤ s[i].toNat := by omega
          have hx2 : (s[i].toNat : Int) ≤ 122 := by omega
          clear hb
          go_wp2
          go_roundg (s.size - (i + 1))
          case measure => omega
          case rel => exact ⟨i + 1, by omega, by go_num, HT.out, (by ((repeat (first | (with_reducible assumption) | ((with_reducible refine Keep.setCell ?_ ?_ _); rotate_left; focus (first | omega | (simp; done) | (simp; omega))) | (with_reducible refine Keep.alloc ?_ _) | (with_reducible refine Keep.drewN ?_ _) | (with_reducible refine Keep.drew ?_) | (with_reducible exact Keep.refl _) | refine Keep.trans ?_ (by with_reducible assumption) | exact Keep.refl _ | assumption))))⟩
    · have e2 : i = s.size := by omega
      subst e2
      have hal : s.data.toList.all letterB = true := by
        have := HL.out
        rwa [List.take_of_length_le (by simp)] at this
      (go_wp2_with fail); (go_at_call 33); (refine (spec_l00In _ _ _ _).mono ?_); rintro e w1 ⟨rfl, hk1⟩
      go_wp2
      go_ret; exact ⟨rb (by
        have i1 : ((1 : Int) ≤ s.size) = (1 ≤ s.size) := by apply propext; omega
        have i2 : ((s.size : Int) ≤ 16) = (s.size ≤ 16) := by apply propext; omega
        simp only [nameB, inB, hal, Bool.and_true, i1, i2]), (by ((repeat (first | (with_reducible assumption) | ((with_reducible refine Keep.setCell ?_ ?_ _); rotate_left; focus (first | omega | (simp; done) | (simp; omega))) | (with_reducible refine Keep.alloc ?_ _) | (with_reducible refine Keep.drewN ?_ _) | (with_reducible refine Keep.drew ?_) | (with_reducible exact Keep.refl _) | refine Keep.trans ?_ (by with_reducible assumption) | exact Keep.refl _ | assumption))))⟩
end Go.Proofs.YtagldpbmadfokaaGreatDoor

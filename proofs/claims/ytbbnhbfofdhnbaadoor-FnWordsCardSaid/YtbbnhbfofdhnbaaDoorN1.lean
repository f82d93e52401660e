/- Names: strings.Trim by the kit's contract; isName, l01Name. -/
import Derived.Test.YtbbnhbfofdhnbaaDoorM4
import Derived.Ground.NamesProg
import Derived.Shelf.Strings.SlTrimAscii
set_option linter.unusedVariables false
set_option linter.unusedSimpArgs false
namespace Go.Proofs.YtbbnhbfofdhnbaaDoor
open Go.RowKit Go.Shelf Go.Lib
def trimLays_ren : Go.Shelf.Ren := ⟨fun | 160 => 94 | 232 => 102 | 231 => 101 | 227 => 103 | 234 => 105 | 233 => 104 | 236 => 107 | 235 => 106 | 228 => 108 | 271 => 111 | 151 => 110 | 197 => 109 | 120 => 114 | 152 => 113 | 260 => 112 | 137 => 115 | 119 => 116 | 224 => 117 | 225 => 118 | 217 => 119 | 266 => 120 | n => n, fun | 9 => 9 | 4 => 4 | 3 => 3 | 5 => 5 | 117 => 126 | 116 => 125 | 0 => 0 | 124 => 129 | 21 => 21 | 105 => 131 | 46 => 109 | 119 => 135 | 139 => 138 | 138 => 137 | n => n, fun | 3 => 0 | 4 => 1 | n => n⟩
theorem trimLays : Go.Proofs.Lays.n160 Tryd.prog trimLays_ren := {
  mixed := by kernel_rfl
  f119 := Tryd.func116.trans (congrArg some (by kernel_rfl))
  f120 := Tryd.func114.trans (congrArg some (by kernel_rfl))
  f137 := Tryd.func115.trans (congrArg some (by kernel_rfl))
  f151 := Tryd.func110.trans (congrArg some (by kernel_rfl))
  f152 := Tryd.func113.trans (congrArg some (by kernel_rfl))
  f160 := Tryd.func94.trans (congrArg some (by kernel_rfl))
  f197 := Tryd.func109.trans (congrArg some (by kernel_rfl))
  f217 := Tryd.func119.trans (congrArg some (by kernel_rfl))
  f224 := Tryd.func117.trans (congrArg some (by kernel_rfl))
  f225 := Tryd.func118.trans (congrArg some (by kernel_rfl))
  f227 := Tryd.func103.trans (congrArg some (by kernel_rfl))
  f228 := Tryd.func108.trans (congrArg some (by kernel_rfl))
  f231 := Tryd.func101.trans (congrArg some (by kernel_rfl))
  f232 := Tryd.func102.trans (congrArg some (by kernel_rfl))
  f233 := Tryd.func104.trans (congrArg some (by kernel_rfl))
  f234 := Tryd.func105.trans (congrArg some (by kernel_rfl))
  f235 := Tryd.func106.trans (congrArg some (by kernel_rfl))
  f236 := Tryd.func107.trans (congrArg some (by kernel_rfl))
  f260 := Tryd.func112.trans (congrArg some (by kernel_rfl))
  f266 := Tryd.func120.trans (congrArg some (by kernel_rfl))
  f271 := Tryd.func111.trans (congrArg some (by kernel_rfl))
  t0 := Tryd.underlying0
  a0 := Tryd.isAgg0
  z0 := Tryd.sizeOf0
  v0 := Tryd.zeroValue0
  t3 := Tryd.underlying3
  a3 := Tryd.isAgg3
  z3 := Tryd.sizeOf3
  v3 := Tryd.zeroValue3
  t4 := Tryd.underlying4
  a4 := Tryd.isAgg4
  z4 := Tryd.sizeOf4
  v4 := Tryd.zeroValue4
  t5 := Tryd.underlying5
  a5 := Tryd.isAgg5
  z5 := Tryd.sizeOf5
  v5 := Tryd.zeroValue5
  t9 := Tryd.underlying9
  a9 := Tryd.isAgg9
  z9 := Tryd.sizeOf9
  v9 := Tryd.zeroValue9
  t21 := Tryd.underlying21
  a21 := Tryd.isAgg21
  z21 := Tryd.sizeOf21
  v21 := Tryd.zeroValue21
  t46 := Tryd.underlying109
  a46 := Tryd.isAgg109
  z46 := Tryd.sizeOf109
  v46 := Tryd.zeroValue109
  t105 := Tryd.underlying131
  a105 := Tryd.isAgg131
  z105 := Tryd.sizeOf131
  v105 := Tryd.zeroValue131
  t116 := Tryd.underlying125
  a116 := Tryd.isAgg125
  z116 := Tryd.sizeOf125
  t117 := Tryd.underlying126
  a117 := Tryd.isAgg126
  z117 := Tryd.sizeOf126
  v117 := Tryd.zeroValue126
  t119 := Tryd.underlying135
  a119 := Tryd.isAgg135
  z119 := Tryd.sizeOf135
  t124 := Tryd.underlying129
  a124 := Tryd.isAgg129
  z124 := Tryd.sizeOf129
  v124 := Tryd.zeroValue129
  t138 := Tryd.underlying137
  a138 := Tryd.isAgg137
  z138 := Tryd.sizeOf137
  v138 := Tryd.zeroValue137
  t139 := Tryd.underlying138
  a139 := Tryd.isAgg138
  z139 := Tryd.sizeOf138
  v139 := Tryd.zeroValue138
  g3 := by kernel_rfl
  g4 := by kernel_rfl }
def letters : ByteArray := ⟨#[97, 98, 99, 100, 101, 102, 103, 104, 105, 106, 107, 108, 109, 110, 111, 112, 113, 114, 115, 116, 117, 118, 119, 120, 121, 122]⟩
def letterB (b : UInt8) : Bool := decide (97 ≤ b.toNat) && decide (b.toNat ≤ 122)
/-- Is a text a name? -/
def nameB (s : ByteArray) : Bool := decide (1 ≤ s.size) && decide (s.size ≤ 16) && s.data.toList.all letterB
theorem letters_has (b : UInt8) : letters.data.toList.contains b = letterB b := by
  have h : ∀ n : Fin 256, letters.data.toList.contains (UInt8.ofNat n.val) = letterB (UInt8.ofNat n.val) := by decide +kernel
  have := h ⟨b.toNat, b.toNat_lt⟩
  simpa using this
theorem dropWhile_nil {α : Type} (p : α → Bool) (l : List α) : l.dropWhile p = [] ↔ l.all p = true := by
  induction l with
  | nil => simp
  | cons x l ih =>
    cases h : p x
    · simp [List.dropWhile_cons, h]
    · simp [List.dropWhile_cons, h, ih]
theorem dropWhile_head {α : Type} (p : α → Bool) : ∀ (l : List α) (x : α) (r : List α), l.dropWhile p = x :: r → p x = false
  | [], x, r, h => by simp at h
  | y :: l, x, r, h => by
    cases hy : p y
    · rw [List.dropWhile_cons, hy] at h
      simp at h
      rw [← h.1]; exact hy
    · rw [List.dropWhile_cons, hy] at h
      exact dropWhile_head p l x r (by simpa using h)
theorem trim_nil (l cs : List UInt8) : Lib.trimS l cs = [] ↔ l.all (fun b => cs.contains b) = true := by
  unfold Lib.trimS Lib.trimLeftS Lib.trimRightS
  rw [dropWhile_nil]
  constructor
  · intro h
    cases hd : l.reverse.dropWhile (fun b => cs.contains b) with
    | nil =>
      have := (dropWhile_nil _ _).1 hd
      rwa [List.all_reverse] at this
    | cons x r =>
      have h1 := dropWhile_head _ _ _ _ hd
      rw [hd, List.all_reverse] at h
      simp only [List.all_cons, Bool.and_eq_true] at h
      rw [h1] at h
      cases h.1
  · intro h
    have : l.reverse.dropWhile (fun b => cs.contains b) = [] := (dropWhile_nil _ _).2 (by rw [List.all_reverse]; exact h)
    rw [this]; rfl
theorem trim_name (s : ByteArray) : Lib.trimS s.data.toList letters.data.toList = [] ↔ s.data.toList.all letterB = true := by
  rw [trim_nil]
  simp only [letters_has]
theorem trim_empty (s : ByteArray) : (Lib.trimS s.data.toList letters.data.toList).isEmpty = s.data.toList.all letterB := by
  rw [Bool.eq_iff_iff, List.isEmpty_iff]; exact trim_name s
theorem strings_Trim (s : ByteArray) (w : World) (hs : s.size ≤ 9223372036854775807) :
    Calls Tryd.prog 94 #[.string s, .string ⟨#[97, 98, 99, 100, 101, 102, 103, 104, 105, 106, 107, 108, 109, 110, 111, 112, 113, 114, 115, 116, 117, 118, 119, 120, 121, 122]⟩] w fun e w' =>
      e = .returned (.string ⟨(Lib.trimS s.data.toList letters.data.toList).toArray⟩) ∧ Keep w w' := by
  have h := Any.strings_Trim_laid trimLays (by kernel_rfl) s letters w hs (by decide) (ascii_of_all (by decide))
  exact h.mono fun e w' ⟨h1, h2⟩ => ⟨h1, ⟨h2⟩⟩
theorem impl_isName (s : ByteArray) (w : World) (hs : s.size ≤ 9223372036854775807) :
    Calls Tryd.prog 68 #[.string s] w fun e w' => e = .returned (.bool (nameB s)) ∧ Keep w w' := by
  obtain ⟨t, ht⟩ : ∃ t : ByteArray, t = ⟨(Lib.trimS s.data.toList letters.data.toList).toArray⟩ := ⟨_, rfl⟩
  have hT := strings_Trim s
  rw [← ht] at hT
  go_enter Tryd.func68, Tryd.ntmps68
  go_wp2_with (go_at_call 94; refine (hT _ hs).mono ?_; rintro e w1 ⟨rfl, hk⟩)
  · have h1 : 1 ≤ s.size := by omega
    have h2 : s.size ≤ 16 := by omega
    go_ret; exact ⟨rb (by simp [nameB, h1, h2, trim_empty]), (by ((repeat (first | (with_reducible assumption) | ((with_reducible refine Keep.setCell ?_ ?_ _); rotate_left; focus (first | omega | (simp; done) | (simp; omega))) | (with_reducible refine Keep.alloc ?_ _) | (with_reducible refine Keep.drewN ?_ _) | (with_reducible refine Keep.drew ?_) | (with_reducible exact Keep.refl _) | refine Keep.trans ?_ (by with_reducible assumption) | exact Keep.refl _ | assumption))))⟩
  · have h2 : ¬ s.size ≤ 16 := by omega
    go_ret; exact ⟨rb (by simp [nameB, h2]), (by ((repeat (first | (with_reducible assumption) | ((with_reducible refine Keep.setCell ?_ ?_ _); rotate_left; focus (first | omega | (simp; done) | (simp; omega))) | (with_reducible refine Keep.alloc ?_ _) | (with_reducible refine Keep.drewN ?_ _) | (with_reducible refine Keep.drew ?_) | (with_reducible exact Keep.refl _) | refine Keep.trans ?_ (by with_reducible assumption) | exact Keep.refl _ | assumption))))⟩
  · have h1 : ¬ 1 ≤ s.size := by omega
    go_ret; exact ⟨rb (by simp only [nameB, h1, decide_false, Bool.false_and]), (by ((repeat (first | (with_reducible assumption) | ((with_reducible refine Keep.setCell ?_ ?_ _); rotate_left; focus (first | omega | (simp; done) | (simp; omega))) | (with_reducible refine Keep.alloc ?_ _) | (with_reducible refine Keep.drewN ?_ _) | (with_reducible refine Keep.drew ?_) | (with_reducible exact Keep.refl _) | refine Keep.trans ?_ (by with_reducible assumption) | exact Keep.refl _ | assumption))))⟩
theorem take_all_succ (s : ByteArray) (i : Nat) (h : i < s.size) : (s.data.toList.take (i + 1)).all letterB = ((s.data.toList.take i).all letterB && letterB s[i]) := by
  have h' : i < s.data.toList.length := by simpa using h
  rw [List.take_succ_eq_append_getElem h', List.all_append]
  simp
  rfl
theorem name_not (s : ByteArray) (i : Nat) (h : i < s.size) (hb : letterB s[i] = false) : nameB s = false := by
  have h' : i < s.data.toList.length := by simpa using h
  have : s.data.toList.all letterB = false := by
    rw [List.all_eq_false]
    exact ⟨s.data.toList[i], List.getElem_mem h', by
      have e : s.data.toList[i] = s[i] := by simp; rfl
      rw [e, hb]; decide⟩
  simp [nameB, this]
end Go.Proofs.YtbbnhbfofdhnbaaDoor

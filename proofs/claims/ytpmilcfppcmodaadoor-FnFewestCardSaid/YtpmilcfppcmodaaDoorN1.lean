/- Names: strings.Trim by the kit's contract; isName, l01Name. -/
import Derived.Test.YtpmilcfppcmodaaDoorM4
import Derived.Ground.NamesProg
import Derived.Shelf.Strings.SlTrimAscii
set_option linter.unusedVariables false
set_option linter.unusedSimpArgs false
namespace Go.Proofs.YtpmilcfppcmodaaDoor
open Go.RowKit Go.Shelf Go.Lib
def trimLays_ren : Go.Shelf.Ren := ⟨fun | 160 => 163 | 232 => 167 | 231 => 166 | 227 => 168 | 234 => 170 | 233 => 169 | 236 => 172 | 235 => 171 | 228 => 174 | 271 => 177 | 151 => 176 | 197 => 175 | 120 => 180 | 152 => 179 | 260 => 178 | 137 => 181 | 119 => 182 | 224 => 183 | 225 => 184 | 217 => 185 | 266 => 186 | n => n, fun | 9 => 9 | 4 => 4 | 3 => 3 | 5 => 5 | 117 => 180 | 116 => 179 | 0 => 0 | 124 => 183 | 21 => 21 | 105 => 186 | 46 => 102 | 119 => 190 | 139 => 193 | 138 => 192 | n => n, fun | 3 => 0 | 4 => 1 | n => n⟩
theorem trimLays : Go.Proofs.Lays.n160 Tryd.prog trimLays_ren := {
  mixed := by kernel_rfl
  f119 := Tryd.func182.trans (congrArg some (by kernel_rfl))
  f120 := Tryd.func180.trans (congrArg some (by kernel_rfl))
  f137 := Tryd.func181.trans (congrArg some (by kernel_rfl))
  f151 := Tryd.func176.trans (congrArg some (by kernel_rfl))
  f152 := Tryd.func179.trans (congrArg some (by kernel_rfl))
  f160 := Tryd.func163.trans (congrArg some (by kernel_rfl))
  f197 := Tryd.func175.trans (congrArg some (by kernel_rfl))
  f217 := Tryd.func185.trans (congrArg some (by kernel_rfl))
  f224 := Tryd.func183.trans (congrArg some (by kernel_rfl))
  f225 := Tryd.func184.trans (congrArg some (by kernel_rfl))
  f227 := Tryd.func168.trans (congrArg some (by kernel_rfl))
  f228 := Tryd.func174.trans (congrArg some (by kernel_rfl))
  f231 := Tryd.func166.trans (congrArg some (by kernel_rfl))
  f232 := Tryd.func167.trans (congrArg some (by kernel_rfl))
  f233 := Tryd.func169.trans (congrArg some (by kernel_rfl))
  f234 := Tryd.func170.trans (congrArg some (by kernel_rfl))
  f235 := Tryd.func171.trans (congrArg some (by kernel_rfl))
  f236 := Tryd.func172.trans (congrArg some (by kernel_rfl))
  f260 := Tryd.func178.trans (congrArg some (by kernel_rfl))
  f266 := Tryd.func186.trans (congrArg some (by kernel_rfl))
  f271 := Tryd.func177.trans (congrArg some (by kernel_rfl))
  t0 := Tryd.underlying0
  a0 := Tryd.isAgg0
  z0 := Tryd.sizeOf0
  v0 := Tryd.zeroValue0
  t3 := Tryd.underlying3
  a3 := Tryd.isAgg3
  z3 := Tryd.sizeOf3
  v3 := Tryd.zeroValue3
  t4 := Tryd.underlying4
  a4 := Tryd.isAgg4
  z4 := Tryd.sizeOf4
  v4 := Tryd.zeroValue4
  t5 := Tryd.underlying5
  a5 := Tryd.isAgg5
  z5 := Tryd.sizeOf5
  v5 := Tryd.zeroValue5
  t9 := Tryd.underlying9
  a9 := Tryd.isAgg9
  z9 := Tryd.sizeOf9
  v9 := Tryd.zeroValue9
  t21 := Tryd.underlying21
  a21 := Tryd.isAgg21
  z21 := Tryd.sizeOf21
  v21 := Tryd.zeroValue21
  t46 := Tryd.underlying102
  a46 := Tryd.isAgg102
  z46 := Tryd.sizeOf102
  v46 := Tryd.zeroValue102
  t105 := Tryd.underlying186
  a105 := Tryd.isAgg186
  z105 := Tryd.sizeOf186
  v105 := Tryd.zeroValue186
  t116 := Tryd.underlying179
  a116 := Tryd.isAgg179
  z116 := Tryd.sizeOf179
  t117 := Tryd.underlying180
  a117 := Tryd.isAgg180
  z117 := Tryd.sizeOf180
  v117 := Tryd.zeroValue180
  t119 := Tryd.underlying190
  a119 := Tryd.isAgg190
  z119 := Tryd.sizeOf190
  t124 := Tryd.underlying183
  a124 := Tryd.isAgg183
  z124 := Tryd.sizeOf183
  v124 := Tryd.zeroValue183
  t138 := Tryd.underlying192
  a138 := Tryd.isAgg192
  z138 := Tryd.sizeOf192
  v138 := Tryd.zeroValue192
  t139 := Tryd.underlying193
  a139 := Tryd.isAgg193
  z139 := Tryd.sizeOf193
  v139 := Tryd.zeroValue193
  g3 := by kernel_rfl
  g4 := by kernel_rfl }
def letters : ByteArray := ⟨#[97, 98, 99, 100, 101, 102, 103, 104, 105, 106, 107, 108, 109, 110, 111, 112, 113, 114, 115, 116, 117, 118, 119, 120, 121, 122]⟩
def letterB (b : UInt8) : Bool := decide (97 ≤ b.toNat) && decide (b.toNat ≤ 122)
/-- Is a text a name? -/
def nameB (s : ByteArray) : Bool := decide (1 ≤ s.size) && decide (s.size ≤ 16) && s.data.toList.all letterB
theorem letters_has (b : UInt8) : letters.data.toList.contains b = letterB b := by
  have h : ∀ n : Fin 256, letters.data.toList.contains (UInt8.ofNat n.val) = letterB (UInt8.ofNat n.val) := by decide +kernel
  have := h ⟨b.toNat, b.toNat_lt⟩
  simpa using this
theorem dropWhile_nil {α : Type} (p : α → Bool) (l : List α) : l.dropWhile p = [] ↔ l.all p = true := by
  induction l with
  | nil => simp
  | cons x l ih =>
    cases h : p x
    · simp [List.dropWhile_cons, h]
    · simp [List.dropWhile_cons, h, ih]
theorem dropWhile_head {α : Type} (p : α → Bool) : ∀ (l : List α) (x : α) (r : List α), l.dropWhile p = x :: r → p x = false
  | [], x, r, h => by simp at h
  | y :: l, x, r, h => by
    cases hy : p y
    · rw [List.dropWhile_cons, hy] at h
      simp at h
      rw [← h.1]; exact hy
    · rw [List.dropWhile_cons, hy] at h
      exact dropWhile_head p l x r (by simpa using h)
theorem trim_nil (l cs : List UInt8) : Lib.trimS l cs = [] ↔ l.all (fun b => cs.contains b) = true := by
  unfold Lib.trimS Lib.trimLeftS Lib.trimRightS
  rw [dropWhile_nil]
  constructor
  · intro h
    cases hd : l.reverse.dropWhile (fun b => cs.contains b) with
    | nil =>
      have := (dropWhile_nil _ _).1 hd
      rwa [List.all_reverse] at this
    | cons x r =>
      have h1 := dropWhile_head _ _ _ _ hd
      rw [hd, List.all_reverse] at h
      simp only [List.all_cons, Bool.and_eq_true] at h
      rw [h1] at h
      cases h.1
  · intro h
    have : l.reverse.dropWhile (fun b => cs.contains b) = [] := (dropWhile_nil _ _).2 (by rw [List.all_reverse]; exact h)
    rw [this]; rfl
theorem trim_name (s : ByteArray) : Lib.trimS s.data.toList letters.data.toList = [] ↔ s.data.toList.all letterB = true := by
  rw [trim_nil]
  simp only [letters_has]
theorem trim_empty (s : ByteArray) : (Lib.trimS s.data.toList letters.data.toList).isEmpty = s.data.toList.all letterB := by
  rw [Bool.eq_iff_iff, List.isEmpty_iff]; exact trim_name s
theorem strings_Trim (s : ByteArray) (w : World) (hs : s.size ≤ 9223372036854775807) :
    Calls Tryd.prog 163 #[.string s, .string ⟨#[97, 98, 99, 100, 101, 102, 103, 104, 105, 106, 107, 108, 109, 110, 111, 112, 113, 114, 115, 116, 117, 118, 119, 120, 121, 122]⟩] w fun e w' =>
      e = .returned (.string ⟨(Lib.trimS s.data.toList letters.data.toList).toArray⟩) ∧ Keep w w' := by
  have h := Any.strings_Trim_laid trimLays (by kernel_rfl) s letters w hs (by decide) (ascii_of_all (by decide))
  exact h.mono fun e w' ⟨h1, h2⟩ => ⟨h1, ⟨h2⟩⟩
theorem impl_isName (s : ByteArray) (w : World) (hs : s.size ≤ 9223372036854775807) :
    Calls Tryd.prog 147 #[.string s] w fun e w' => e = .returned (.bool (nameB s)) ∧ Keep w w' := by
  obtain ⟨t, ht⟩ : ∃ t : ByteArray, t = ⟨(Lib.trimS s.data.toList letters.data.toList).toArray⟩ := ⟨_, rfl⟩
  have hT := strings_Trim s
  rw [← ht] at hT
  go_enter Tryd.func147, Tryd.ntmps147
  go_wp2_with (go_at_call 163; refine (hT _ hs).mono ?_; rintro e w1 ⟨rfl, hk⟩)
  · have h1 : 1 ≤ s.size := by omega
    have h2 : s.size ≤ 16 := by omega
    go_ret; exact ⟨rb (by simp [nameB, h1, h2, trim_empty]), (by ((repeat (first | (with_reducible assumption) | ((with_reducible refine Keep.setCell ?_ ?_ _); rotate_left; focus (first | omega | (simp; done) | (simp; omega))) | (with_reducible refine Keep.alloc ?_ _) | (with_reducible refine Keep.drewN ?_ _) | (with_reducible refine Keep.drew ?_) | (with_reducible exact Keep.refl _) | refine Keep.trans ?_ (by with_reducible assumption) | exact Keep.refl _ | assumption))))⟩
  · have h2 : ¬ s.size ≤ 16 := by omega
    go_ret; exact ⟨rb (by simp [nameB, h2]), (by ((repeat (first | (with_reducible assumption) | ((with_reducible refine Keep.setCell ?_ ?_ _); rotate_left; focus (first | omega | (simp; done) | (simp; omega))) | (with_reducible refine Keep.alloc ?_ _) | (with_reducible refine Keep.drewN ?_ _) | (with_reducible refine Keep.drew ?_) | (with_reducible exact Keep.refl _) | refine Keep.trans ?_ (by with_reducible assumption) | exact Keep.refl _ | assumption))))⟩
  · have h1 : ¬ 1 ≤ s.size := by omega
    go_ret; exact ⟨rb (by simp only [nameB, h1, decide_false, Bool.false_and]), (by ((repeat (first | (with_reducible assumption) | ((with_reducible refine Keep.setCell ?_ ?_ _); rotate_left; focus (first | omega | (simp; done) | (simp; omega))) | (with_reducible refine Keep.alloc ?_ _) | (with_reducible refine Keep.drewN ?_ _) | (with_reducible refine Keep.drew ?_) | (with_reducible exact Keep.refl _) | refine Keep.trans ?_ (by with_reducible assumption) | exact Keep.refl _ | assumption))))⟩
theorem take_all_succ (s : ByteArray) (i : Nat) (h : i < s.size) : (s.data.toList.take (i + 1)).all letterB = ((s.data.toList.take i).all letterB && letterB s[i]) := by
  have h' : i < s.data.toList.length := by simpa using h
  rw [List.take_succ_eq_append_getElem h', List.all_append]
  simp
  rfl
theorem name_not (s : ByteArray) (i : Nat) (h : i < s.size) (hb : letterB s[i] = false) : nameB s = false := by
  have h' : i < s.data.toList.length := by simpa using h
  have : s.data.toList.all letterB = false := by
    rw [List.all_eq_false]
    exact ⟨s.data.toList[i], List.getElem_mem h', by
      have e : s.data.toList[i] = s[i] := by simp; rfl
      rw [e, hb]; decide⟩
  simp [nameB, this]
theorem spec_l01Name (s : ByteArray) (w : World) (hs : s.size ≤ 9223372036854775807) :
    Calls Tryd.prog 145 #[.string s] w fun e w' => e = .returned (.bool (nameB s)) ∧ Keep w w' := by
  go_enter Tryd.func145, Tryd.ntmps145
  go_wp2_with fail
  go_loopg [3] s.size (fun k v wr => ∃ i : Nat, i + k = s.size ∧ v = .int .i64 i ∧ (s.data.toList.take i).all letterB = true ∧ Keep w wr)
  case atStart => exact ⟨0, by omega, rfl, rfl, (by ((repeat (first | (with_reducible assumption) | ((with_reducible refine Keep.setCell ?_ ?_ _); rotate_left; focus (first | omega | (simp; done) | (simp; omega))) | (with_reducible refine Keep.alloc ?_ _) | (with_reducible refine Keep.drewN ?_ _) | (with_reducible refine Keep.drew ?_) | (with_reducible exact Keep.refl _) | refine Keep.trans ?_ (by with_reducible assumption) | exact Keep.refl _ | assumption))))⟩
  case round =>
    obtain ⟨i, hi, rfl, hall, hk⟩ := hrel
    have HL := Aside.mk hall
    clear hall
    by_cases hlt : i < s.size
    · have hT := take_all_succ s i hlt
      rw [HL.out, Bool.true_and] at hT
      have HT := Aside.mk hT
      have HN := Aside.mk (name_not s i hlt)
      clear hT
      by_cases c1 : (s[i].toNat : Int) < 97
      · have hb : letterB s[i] = false := by unfold letterB; simp; omega
        have e := HN.out hb
        rw [hb] at HT
        go_wp2
        go_ret; exact ⟨rb (by first | rfl | rw [e]), (by ((repeat (first | (with_reducible assumption) | ((with_reducible refine Keep.setCell ?_ ?_ _); rotate_left; focus (first | omega | (simp; done) | (simp; omega))) | (with_reducible refine Keep.alloc ?_ _) | (with_reducible refine Keep.drewN ?_ _) | (with_reducible refine Keep.drew ?_) | (with_reducible exact Keep.refl _) | refine Keep.trans ?_ (by with_reducible assumption) | exact Keep.refl _ | assumption))))⟩
      · by_cases c2 : (122 : Int) < s[i].toNat
        · have hb : letterB s[i] = false := by unfold letterB; simp; omega
          have e := HN.out hb
          go_wp2
          go_ret; exact ⟨rb (by first | rfl | rw [e]), (by ((repeat (first | (with_reducible assumption) | ((with_reducible refine Keep.setCell ?_ ?_ _); rotate_left; focus (first | omega | (simp; done) | (simp; omega))) | (with_reducible refine Keep.alloc ?_ _) | (with_reducible refine Keep.drewN ?_ _) | (with_reducible refine Keep.drew ?_) | (with_reducible exact Keep.refl _) | refine Keep.trans ?_ (by with_reducible assumption) | exact Keep.refl _ | assumption))))⟩
        · have hb : letterB s[i] = true := by unfold letterB; simp; omega
          rw [hb] at HT
          have hx1 : (97 : Int) ≤ s[i].toNat := by omega
          have hx2 : (s[i].toNat : Int) ≤ 122 := by omega
          clear hb
          go_wp2
          go_roundg (s.size - (i + 1))
          case measure => omega
          case rel => exact ⟨i + 1, by omega, by go_num, HT.out, (by ((repeat (first | (with_reducible assumption) | ((with_reducible refine Keep.setCell ?_ ?_ _); rotate_left; focus (first | omega | (simp; done) | (simp; omega))) | (with_reducible refine Keep.alloc ?_ _) | (with_reducible refine Keep.drewN ?_ _) | (with_reducible refine Keep.drew ?_) | (with_reducible exact Keep.refl _) | refine Keep.trans ?_ (by with_reducible assumption) | exact Keep.refl _ | assumption))))⟩
    · have e2 : i = s.size := by omega
      subst e2
      have hal : s.data.toList.all letterB = true := by
        have := HL.out
        rwa [List.take_of_length_le (by simp)] at this
      (go_wp2_with fail); (go_at_call 132); (refine (spec_l00In _ _ _ _).mono ?_); rintro e w1 ⟨rfl, hk1⟩
      go_wp2
      go_ret; exact ⟨rb (by
        have i1 : ((1 : Int) ≤ s.size) = (1 ≤ s.size) := by apply propext; omega
        have i2 : ((s.size : Int) ≤ 16) = (s.size ≤ 16) := by apply propext; omega
        simp only [nameB, inB, hal, Bool.and_true, i1, i2]), (by ((repeat (first | (with_reducible assumption) | ((with_reducible refine Keep.setCell ?_ ?_ _); rotate_left; focus (first | omega | (simp; done) | (simp; omega))) | (with_reducible refine Keep.alloc ?_ _) | (with_reducible refine Keep.drewN ?_ _) | (with_reducible refine Keep.drew ?_) | (with_reducible exact Keep.refl _) | refine Keep.trans ?_ (by with_reducible assumption) | exact Keep.refl _ | assumption))))⟩
end Go.Proofs.YtpmilcfppcmodaaDoor

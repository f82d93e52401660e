/- The words of a text: the reference's walk. -/
import Derived.Test.YtagldpbmadfokaaGreatDoorNV
import Derived.Test.YtagldpbmadfokaaGreatDoorOW
set_option linter.unusedVariables false
set_option linter.unusedSimpArgs false
namespace Go.Proofs.YtagldpbmadfokaaGreatDoor
open Go.RowKit Go.Shelf
set_option maxHeartbeats 2000000
set_option maxRecDepth 20000
def strs (l : List ByteArray) : List Value := l.map Value.string
theorem strs_at (l : List ByteArray) (k : Nat) (h : k < l.length) : (strs l)[k]? = some (.string l[k]) := by simp [strs, h]
theorem strs_len (l : List ByteArray) : (strs l).length = l.length := by simp [strs]
theorem spl_at {c : UInt8} {l : List UInt8} {b i : Nat} (hb : b ≤ i) (hi : i < l.length) (hc : l[i] = c) (hno : ∀ j (h : j < l.length), b ≤ j → j < i → l[j] ≠ c) : spl c (l.drop b) = (l.drop b).take (i - b) :: spl c (l.drop (i + 1)) := by
  conv => lhs; rw [← List.take_append_drop (i - b) (l.drop b), List.drop_drop, show b + (i - b) = i by omega, List.drop_eq_getElem_cons hi, hc]
  rw [spl_cut]
  intro x hx e
  obtain ⟨j, hj, rfl⟩ := List.getElem_of_mem hx
  rw [List.length_take, List.length_drop] at hj
  rw [List.getElem_take, List.getElem_drop] at e
  exact hno (b + j) (by omega) (by omega) (by omega) e
theorem spl_end {c : UInt8} {l : List UInt8} {b : Nat} (hno : ∀ j (h : j < l.length), b ≤ j → l[j] ≠ c) : spl c (l.drop b) = [l.drop b] := by
  refine spl_no _ (fun x hx e => ?_)
  obtain ⟨j, hj, rfl⟩ := List.getElem_of_mem hx
  rw [List.length_drop] at hj
  rw [List.getElem_drop] at e
  exact hno (b + j) (by omega) (by omega) e
def mkB (l : List UInt8) : ByteArray := ⟨l.toArray⟩
theorem mkB_extract (s : ByteArray) (b i : Nat) : mkB ((s.data.toList.drop b).take (i - b)) = s.extract b i := by
  rw [← Lib.extract_data]; rfl
theorem byte_list {s : ByteArray} {i : Nat} (h : i < s.size) : s.data.toList[i]'(by simpa using h) = s[i] := by simp; rfl
/-- The pieces so far, and what is left to cut. -/
def Cut (c : UInt8) (s : ByteArray) (P : List ByteArray) (b i : Nat) : Prop :=
  P ++ (spl c (s.data.toList.drop b)).map mkB = wds c s ∧ b ≤ i ∧ ∀ j (h : j < s.data.toList.length), b ≤ j → j < i → s.data.toList[j] ≠ c
theorem Cut.start (c : UInt8) (s : ByteArray) : Cut c s [] 0 0 := ⟨rfl, Nat.le_refl _, fun j _ _ h => by omega⟩
theorem Cut.hit {c : UInt8} {s : ByteArray} {P : List ByteArray} {b i : Nat} (h : Cut c s P b i) (hi : i < s.size) (hc : s[i] = c) : Cut c s (P ++ [s.extract b i]) (i + 1) (i + 1) := by
  have hi' : i < s.data.toList.length := by simpa using hi
  refine ⟨?_, Nat.le_refl _, fun j _ h1 h2 => by omega⟩
  rw [← h.1, spl_at h.2.1 hi' (by rw [byte_list hi]; exact hc) h.2.2, List.map_cons, mkB_extract, List.append_assoc]; rfl
theorem Cut.miss {c : UInt8} {s : ByteArray} {P : List ByteArray} {b i : Nat} (h : Cut c s P b i) (hi : i < s.size) (hc : s[i] ≠ c) : Cut c s P b (i + 1) := by
  refine ⟨h.1, by have := h.2.1; omega, fun j hj h1 h2 => ?_⟩
  by_cases e : j = i
  · subst e; rw [byte_list hi]; exact hc
  · exact h.2.2 j hj h1 (by omega)
theorem Cut.done {c : UInt8} {s : ByteArray} {P : List ByteArray} {b : Nat} (h : Cut c s P b s.size) : P ++ [s.extract b s.size] = wds c s := by
  have hl : s.data.toList.length = s.size := by simp
  rw [← h.1, spl_end (fun j hj h1 => h.2.2 j hj h1 (by omega))]
  rw [← mkB_extract, List.take_of_length_le (by rw [List.length_drop]; omega)]; rfl
theorem Cut.len {c : UInt8} {s : ByteArray} {P : List ByteArray} {b i : Nat} (h : Cut c s P b i) : P.length ≤ s.size := by
  have h1 := (wds_len c s).2
  rw [← h.1, List.length_append, List.length_map] at h1
  have h2 : (spl c (s.data.toList.drop b)).length ≠ 0 := fun e => spl_ne c _ (List.eq_nil_of_length_eq_zero e)
  omega
theorem string_info : (Tryz.prog.info? 9).map (fun i => (i.zero, i.size, i.bytes)) = some (some (.string ByteArray.empty), 1, 16) := by kernel_rfl
theorem strs_app (l : List ByteArray) (x : ByteArray) : strs (l ++ [x]) = strs l ++ [.string x] := by simp [strs]
theorem spec_l01Split (s : ByteArray) (c : UInt8) (w : World) (hs : s.size ≤ 1048576) :
    Calls Tryz.prog 9 #[.string s, .int .u8 (c.toNat : Int)] w fun e w' => ∃ v, e = .returned v ∧ w'.ownsRow w.heap.size 9 1 v (wds c s).length (strs (wds c s)) ∧ Keep w w' := by
  obtain ⟨i0, hi0, hz0, hz1, hz2⟩ := info_parts string_info
  have HS := Aside.mk (Cut.start c s)
  obtain ⟨cv, hcv⟩ : ∃ cv : Int, (c.toNat : Int) = cv := ⟨_, rfl⟩
  rw [hcv]
  go_enter Tryz.func9, Tryz.ntmps9
  go_wp2_with fail
  go_loopg [5, 6, 7] s.size (fun k v5 v6 v7 wr => ∃ (i b : Nat) (P : List ByteArray), i + k = s.size ∧ v7 = .int .i64 i ∧ v6 = .int .i64 b ∧ Cut c s P b i ∧ wr.ownsRow w.heap.size 9 1 v5 P.length (strs P) ∧ Keep w wr)
  case atStart => exact ⟨0, 0, [], by omega, rfl, rfl, HS.out, by simpa [strs] using own_empty w w.heap.size 9 (by simp), (by ((repeat (first | (with_reducible assumption) | ((with_reducible refine Keep.setCell ?_ ?_ _); rotate_left; focus (first | omega | (simp; done) | (simp; omega))) | (with_reducible refine Keep.alloc ?_ _) | (with_reducible refine Keep.drewN ?_ _) | (with_reducible refine Keep.drew ?_) | (with_reducible exact Keep.refl _) | refine Keep.trans ?_ (by with_reducible assumption) | exact Keep.refl _ | assumption))))⟩
  case round =>
    obtain ⟨i, b, P, hi, rfl, rfl, hcut, hown, hk⟩ := hrel
    have hbi := hcut.2.1
    have hPl := hcut.len
    have HC := Aside.mk hcut
    have HO := Aside.mk hown
    clear hcut hown
    by_cases hlt : i < s.size
    · by_cases hc : (s[i].toNat : Int) = cv
      · have hc2 : s[i] = c := by rw [← UInt8.toNat_inj]; omega
        have HC2 := Aside.mk (HC.out.hit hlt hc2)
        clear hc2 HC HS
        generalize hx : s.extract b i = x at *
        go_wp2_with (at_builtin; refine wpList_append_own _ rfl _ _ 28 rfl w.heap.size 9 i0 (.string ByteArray.empty) 1 16 Tryz.underlying28 hi0 hz0 hz1 hz2 rfl (by decide) _ _ _ rfl (own_keep HO.out ((Keep.refl _).alloc _)) ⟨wr.heap.size, 0, none⟩ 1 1 [.string x] rfl rfl ?c1 ?c2 ?c3 ?c4 ?c5 ?_)
        case c1 =>
          intro j u hj
          match j, hj with
          | 0, hj => simp at hj; subst hj; simp [Addr.add]
        case c2 => intro u hu; simp at hu; subst hu; rfl
        case c3 => unfold maxLen; omega
        case c4 => omega
        case c5 => have := hk.size; simp; omega
        · intro v' w2 hown2 hg _
          have k2 : Keep w w2 := (hk.alloc _).grown hg (fun k hk => (HO.out.lt k hk).1)
          have HO2 := Aside.mk hown2
          clear hown2 hg HO
          go_wp2
          go_roundg (s.size - (i + 1))
          case measure => omega
          case rel => exact ⟨i + 1, i + 1, P ++ [x], by omega, by go_num, by go_num, HC2.out, by rw [strs_app, List.length_append]; exact HO2.out, k2⟩
      · have hc2 : s[i] ≠ c := fun e => hc (by rw [e]; exact hcv)
        have HC2 := Aside.mk (HC.out.miss hlt hc2)
        clear hc2 HC HS
        go_wp2
        go_roundg (s.size - (i + 1))
        case measure => omega
        case rel => exact ⟨i + 1, b, P, by omega, by go_num, rfl, HC2.out, HO.out, (by ((repeat (first | (with_reducible assumption) | ((with_reducible refine Keep.setCell ?_ ?_ _); rotate_left; focus (first | omega | (simp; done) | (simp; omega))) | (with_reducible refine Keep.alloc ?_ _) | (with_reducible refine Keep.drewN ?_ _) | (with_reducible refine Keep.drew ?_) | (with_reducible exact Keep.refl _) | refine Keep.trans ?_ (by with_reducible assumption) | exact Keep.refl _ | assumption))))⟩
    · obtain rfl : i = s.size := by omega
      have HD := Aside.mk HC.out.done
      clear HC HS
      generalize hx : s.extract b s.size = x at *
      go_wp2_with (at_builtin; refine wpList_append_own _ rfl _ _ 28 rfl w.heap.size 9 i0 (.string ByteArray.empty) 1 16 Tryz.underlying28 hi0 hz0 hz1 hz2 rfl (by decide) _ _ _ rfl (own_keep HO.out ((Keep.refl _).alloc _)) ⟨wr.heap.size, 0, none⟩ 1 1 [.string x] rfl rfl ?c1 ?c2 ?c3 ?c4 ?c5 ?_)
      case c1 =>
        intro j u hj
        match j, hj with
        | 0, hj => simp at hj; subst hj; simp [Addr.add]
      case c2 => intro u hu; simp at hu; subst hu; rfl
      case c3 => unfold maxLen; omega
      case c4 => omega
      case c5 => have := hk.size; simp; omega
      · intro v' w2 hown2 hg _
        have k2 : Keep w w2 := (hk.alloc _).grown hg (fun k hk => (HO.out.lt k hk).1)
        have HO2 := Aside.mk hown2
        clear hown2 hg HO
        go_wp2
        go_ret; exact ⟨_, rfl, by rw [← HD.out, strs_app, List.length_append]; exact HO2.out, k2⟩
end Go.Proofs.YtagldpbmadfokaaGreatDoor

/- Cards as texts: numerals, the walks of a card's text. -/
import Derived.Test.YtagldpbmadfokaaGreatDoorS1
import Derived.Test.YtagldpbmadfokaaGreatDoorN4
import Derived.Test.YtagldpbmadfokaaGreatDoorMT
import Derived.Shelf.Strconv.Itoa4
set_option linter.unusedVariables false
set_option linter.unusedSimpArgs false
namespace Go.Proofs.YtagldpbmadfokaaGreatDoor
open Go.RowKit Go.Shelf Go.Lib
set_option maxHeartbeats 1000000
set_option maxRecDepth 20000
def itoaLays_ren : Go.Shelf.Ren := ⟨fun | 173 => 41 | 246 => 53 | 283 => 65 | 284 => 66 | 285 => 67 | 286 => 68 | 129 => 87 | 317 => 86 | 318 => 88 | 319 => 89 | 320 => 90 | 337 => 97 | 338 => 98 | n => n, fun | 2 => 2 | 3 => 3 | 9 => 9 | 4 => 4 | 171 => 89 | 0 => 0 | 53 => 30 | 37 => 58 | 5 => 5 | 173 => 92 | 212 => 108 | 51 => 109 | 20 => 20 | 213 => 110 | 46 => 72 | 232 => 127 | 233 => 128 | n => n, fun | 17 => 3 | 18 => 6 | 19 => 7 | n => n⟩
theorem itoaLays : Go.Proofs.Lays.n173 Tryz.prog itoaLays_ren := {
  mixed := by kernel_rfl
  f129 := Tryz.func87.trans (congrArg some (by kernel_rfl))
  f173 := Tryz.func41.trans (congrArg some (by kernel_rfl))
  f246 := Tryz.func53.trans (congrArg some (by kernel_rfl))
  f283 := Tryz.func65.trans (congrArg some (by kernel_rfl))
  f284 := Tryz.func66.trans (congrArg some (by kernel_rfl))
  f285 := Tryz.func67.trans (congrArg some (by kernel_rfl))
  f286 := Tryz.func68.trans (congrArg some (by kernel_rfl))
  f317 := Tryz.func86.trans (congrArg some (by kernel_rfl))
  f318 := Tryz.func88.trans (congrArg some (by kernel_rfl))
  f319 := Tryz.func89.trans (congrArg some (by kernel_rfl))
  f320 := Tryz.func90.trans (congrArg some (by kernel_rfl))
  f337 := Tryz.func97.trans (congrArg some (by kernel_rfl))
  f338 := Tryz.func98.trans (congrArg some (by kernel_rfl))
  t0 := Tryz.underlying0
  a0 := Tryz.isAgg0
  z0 := Tryz.sizeOf0
  v0 := Tryz.zeroValue0
  t2 := Tryz.underlying2
  a2 := Tryz.isAgg2
  z2 := Tryz.sizeOf2
  v2 := Tryz.zeroValue2
  t3 := Tryz.underlying3
  a3 := Tryz.isAgg3
  z3 := Tryz.sizeOf3
  v3 := Tryz.zeroValue3
  t4 := Tryz.underlying4
  a4 := Tryz.isAgg4
  z4 := Tryz.sizeOf4
  v4 := Tryz.zeroValue4
  t5 := Tryz.underlying5
  a5 := Tryz.isAgg5
  z5 := Tryz.sizeOf5
  v5 := Tryz.zeroValue5
  t9 := Tryz.underlying9
  a9 := Tryz.isAgg9
  z9 := Tryz.sizeOf9
  v9 := Tryz.zeroValue9
  t20 := Tryz.underlying20
  a20 := Tryz.isAgg20
  z20 := Tryz.sizeOf20
  v20 := Tryz.zeroValue20
  t37 := Tryz.underlying58
  a37 := Tryz.isAgg58
  z37 := Tryz.sizeOf58
  v37 := Tryz.zeroValue58
  t46 := Tryz.underlying72
  a46 := Tryz.isAgg72
  z46 := Tryz.sizeOf72
  v46 := Tryz.zeroValue72
  t51 := Tryz.underlying109
  a51 := Tryz.isAgg109
  z51 := Tryz.sizeOf109
  v51 := Tryz.zeroValue109
  t53 := Tryz.underlying30
  a53 := Tryz.isAgg30
  z53 := Tryz.sizeOf30
  v53 := Tryz.zeroValue30
  t171 := Tryz.underlying89
  a171 := Tryz.isAgg89
  z171 := Tryz.sizeOf89
  v171 := Tryz.zeroValue89
  t173 := Tryz.underlying92
  a173 := Tryz.isAgg92
  z173 := Tryz.sizeOf92
  v173 := Tryz.zeroValue92
  t212 := Tryz.underlying108
  a212 := Tryz.isAgg108
  z212 := Tryz.sizeOf108
  v212 := Tryz.zeroValue108
  t213 := Tryz.underlying110
  a213 := Tryz.isAgg110
  z213 := Tryz.sizeOf110
  t232 := Tryz.underlying127
  a232 := Tryz.isAgg127
  z232 := Tryz.sizeOf127
  v232 := Tryz.zeroValue127
  t233 := Tryz.underlying128
  a233 := Tryz.isAgg128
  z233 := Tryz.sizeOf128
  v233 := Tryz.zeroValue128
  g17 := by kernel_rfl
  g18 := by kernel_rfl
  g19 := by kernel_rfl }
/-- The numeral of a small number. -/
def decS (n : Int) : ByteArray := ⟨(Lib.decDigits n.toNat).toArray⟩
def spcS : ByteArray := ⟨#[32]⟩
def nlS : ByteArray := ⟨#[10]⟩
theorem digS_at (k : Nat) : digS k = ⟨#[UInt8.ofNat (48 + k % 10)]⟩ := by
  unfold digS strOfNums
  simp only [List.map_cons, List.map_nil]
  rw [show (48 + (k : Int) % 10).toNat = 48 + k % 10 by omega]
theorem decS_one {n : Nat} (h : n < 10) : decS (n : Int) = digS n := by
  unfold decS
  rw [Int.toNat_natCast, decDigits_one h, digS_at, Nat.mod_eq_of_lt h]
theorem decS_two {n : Nat} (h1 : ¬ n < 10) (h2 : n < 100) : decS (n : Int) = digS (n / 10) ++ digS n := by
  unfold decS
  rw [Int.toNat_natCast, decDigits_two h1 h2, digS_at, digS_at, Nat.mod_eq_of_lt (show n / 10 < 10 by omega)]
  rfl
theorem decS_size {n : Nat} (h : n < 100) : (decS (n : Int)).size ≤ 2 := by
  by_cases h1 : n < 10
  · rw [decS_one h1, digS_size]; omega
  · rw [decS_two h1 h, size_app, digS_size, digS_size]; omega
/-- The words of these numbers behind a text. -/
def txF (s : ByteArray) (l : List Int) : ByteArray := l.foldl (fun acc h => acc ++ (spcS ++ decS h)) s
theorem txF_succ {s : ByteArray} {l : List Int} {i : Nat} (h : i < l.length) : txF s (l.take (i + 1)) = txF s (l.take i) ++ (spcS ++ decS l[i]) := by
  unfold txF; rw [List.take_succ_eq_append_getElem h, List.foldl_append]; rfl
theorem txF_size {s : ByteArray} {l : List Int} (h : ∀ x ∈ l, 0 ≤ x ∧ x < 100) : ∀ i, i ≤ l.length → (txF s (l.take i)).size ≤ s.size + 3 * i
  | 0, _ => by simp [txF]
  | i + 1, hi => by
    have := txF_size (s := s) h i (by omega)
    rw [txF_succ (by omega), size_app, size_app]
    obtain ⟨h1, h2⟩ := h l[i] (List.getElem_mem _)
    obtain ⟨n, hn⟩ : ∃ n : Nat, l[i] = n := ⟨l[i].toNat, by omega⟩
    have h3 := decS_size (n := n) (by omega)
    rw [hn]
    have : spcS.size = 1 := rfl
    omega
theorem spec_Decimal1 (n : Nat) (w : World) (h : n < 10) :
    Calls Tryz.prog 37 #[.int .i64 ((n : Int))] w fun e w' => e = .returned (.string (digS n)) ∧ Keep w w' := by
  have et : (n : Int).tmod 10 = n % 10 := Int.tmod_eq_emod_of_nonneg (by omega)
  have hcell : (w.alloc (.cells #[.int .u8 (48 + (n : Int) % 10)] 5)).cell? ⟨w.heap.size, 0, none⟩ = some (.int .u8 (48 + (n : Int) % 10)) := (Bx.new w #[.int .u8 (48 + (n : Int) % 10)] 5).cell 0
  have hcv := run_convert_bytes_arg (P := Tryz.prog) (w.alloc (.cells #[.int .u8 (48 + (n : Int) % 10)] 5)) 58 5 Tryz.underlying58 Tryz.underlying5 w.heap.size 0 1 1 [(48 + (n : Int) % 10)] rfl (fun i hi => by
    have e : i = 0 := by omega
    subst e
    exact hcell) 9 Tryz.underlying9
  rw [show strOfNums [(48 + (n : Int) % 10)] = digS n from rfl] at hcv
  clear hcell
  generalize digS n = ds at *
  go_enter Tryz.func37, Tryz.ntmps37
  go_wp2
  go_ret; exact ⟨rfl, (by ((repeat (first | (with_reducible assumption) | ((with_reducible refine Keep.setCell ?_ ?_ _); rotate_left; focus (first | omega | (simp; done) | (simp; omega))) | (with_reducible refine Keep.alloc ?_ _) | (with_reducible refine Keep.drewN ?_ _) | (with_reducible refine Keep.drew ?_) | (with_reducible exact Keep.refl _) | refine Keep.trans ?_ (by with_reducible assumption) | exact Keep.refl _ | assumption))))⟩
theorem spec_Decimal (n : Nat) (w : World) (h : n < 100) :
    Calls Tryz.prog 37 #[.int .i64 ((n : Int))] w fun e w' => e = .returned (.string (decS n)) ∧ Keep w w' := by
  by_cases h1 : n < 10
  · rw [decS_one h1]; exact spec_Decimal1 n w h1
  · rw [decS_two h1 h]
    have hc := fun W => spec_Decimal1 (n / 10) W (by omega)
    rw [show ((n / 10 : Nat) : Int) = (n : Int) / 10 by omega] at hc
    replace hc := Aside.mk hc
    have et : (n : Int).tmod 10 = n % 10 := Int.tmod_eq_emod_of_nonneg (by omega)
    have eq : (n : Int).tdiv 10 = n / 10 := Int.tdiv_eq_ediv_of_nonneg (by omega)
    have wq0 : IntKind.i64.wrap ((n : Int) / 10) = (n : Int) / 10 := wrapI64 ⟨by omega, by omega⟩
    have wq3 : IntKind.i64.wrap ((n : Int) % 10) = (n : Int) % 10 := wrapI64 ⟨by omega, by omega⟩
    have wq1 : IntKind.i64.wrap (48 + (n : Int) % 10) = 48 + (n : Int) % 10 := wrapI64 ⟨by omega, by omega⟩
    have wq2 : IntKind.u8.wrap (48 + (n : Int) % 10) = 48 + (n : Int) % 10 := by rw [IntKind.wrap_u8]; omega
    have z1 := digS_size (n / 10)
    have z2 := digS_size n
    have hcv := Aside.mk (fun W g (hcell : W.cell? ⟨g, 0, none⟩ = some (.int .u8 (48 + (n : Int) % 10))) => run_convert_bytes_arg (P := Tryz.prog) W 58 5 Tryz.underlying58 Tryz.underlying5 g 0 1 1 [(48 + (n : Int) % 10)] rfl (fun i hi => by
      have e : i = 0 := by omega
      subst e
      exact hcell) 9 Tryz.underlying9)
    rw [show strOfNums [(48 + (n : Int) % 10)] = digS n from rfl] at hcv
    generalize digS n = ds at *
    generalize digS (n / 10) = dt at *
    go_enter Tryz.func37, Tryz.ntmps37
    go_wp2_with fail
    apply wp_region_mono 11 [Fx _, Fx (.int .i64 ((n : Int) / 10)), Fx (.string dt), Fx _, Fx (.int .i64 ((n : Int) % 10)), Fx (.int .i64 (48 + (n : Int) % 10)), Fx (.int .u8 (48 + (n : Int) % 10)), Sl w.heap.size 1 #[.int .u8 (48 + (n : Int) % 10)] 5, Fx (.string ds), Fx (.string (dt ++ ds)), Fx _] (by kernel_rfl) (by kernel_rfl) (mono_of ⟨Fx.mono _, Fx.mono _, Fx.mono _, Fx.mono _, Fx.mono _, Fx.mono _, Fx.mono _, Sl.mono _ _ _ _, Fx.mono _, Fx.mono _, Fx.mono _, trivial⟩) ?st3 ?tl3
    case st3 =>
      simp only [List.take_succ_cons, List.take_zero, List.drop_succ_cons, List.drop_zero, putAll, Act.put, List.setIfInBounds_toArray, List.set_cons_succ, List.set_cons_zero, Nat.zero_add, Nat.reduceAdd]
      refine steps_cons ?_ (steps_cons ?_ (steps_cons ?_ (steps_cons ?_ (steps_cons ?_ (steps_cons ?_ (steps_cons ?_ (steps_cons ?_ (steps_cons ?_ (steps_cons ?_ (steps_cons ?_ steps_nil))))))))))
      all_goals
        intro v w2 hk hd
        have hkz := hk.size
        simp [DepsOf, factAt, Fx, Region.binds] at hd
        simp only [factAt, List.getD_cons_zero, List.getD_cons_succ]
        refine Gives.mk ?_
        go_simp
        first | exact ⟨Keep.refl _, Fx.self _ _⟩ | exact ⟨(Keep.refl _).alloc _, _, rfl, Bx.new _ _ _, by first | omega | (simp; omega)⟩ | (go_at_call 37; exact gives_fx (hc.out _)) | ((obtain ⟨g, e, hB, _⟩ := hd; have hq := hcv.out _ g (hB.cell 0); rw [e]; trace_state; simp only [hq]; exact ⟨Keep.refl _, Fx.self _ _⟩))
    simp only [List.take_succ_cons, List.take_zero, List.drop_succ_cons, List.drop_zero, putAll, Act.put, List.setIfInBounds_toArray, List.set_cons_succ, List.set_cons_zero, Nat.zero_add, Nat.reduceAdd]
    intro v w2 hk hh
    have hkz := hk.size
    simp only [Held, factAt, List.getD_cons_zero, List.getD_cons_succ, Fx, true_and] at hh
    obtain ⟨⟨⟨⟨⟨⟨⟨⟨⟨⟨v_0, v_1⟩, v_2⟩, v_3⟩, v_4⟩, v_5⟩, v_6⟩, g7, v_7, hG7, hg7⟩, v_8⟩, v_9⟩, v_10⟩ := hh
    simp only [v_0, v_1, v_2, v_3, v_4, v_5, v_6, v_7, v_8, v_9, v_10]
    go_wp2
    go_ret; exact ⟨rfl, (by ((repeat (first | (with_reducible assumption) | ((with_reducible refine Keep.setCell ?_ ?_ _); rotate_left; focus (first | omega | (simp; done) | (simp; omega))) | (with_reducible refine Keep.alloc ?_ _) | (with_reducible refine Keep.drewN ?_ _) | (with_reducible refine Keep.drew ?_) | (with_reducible exact Keep.refl _) | refine Keep.trans ?_ (by with_reducible assumption) | exact Keep.refl _ | assumption))))⟩
theorem itoa_small (n : Nat) (w : World) (h : n < 100) :
    Calls Tryz.prog 41 #[.int .i64 ((n : Int)), .int .i64 10] w fun e w' => e = .returned (.string (decS (n : Int))) ∧ Keep w w' := by
  refine (Any.strconv_FormatInt_10_small itoaLays n h w).mono ?_
  rintro e w' ⟨rfl, rfl⟩
  exact ⟨rfl, Keep.refl _⟩
end Go.Proofs.YtagldpbmadfokaaGreatDoor

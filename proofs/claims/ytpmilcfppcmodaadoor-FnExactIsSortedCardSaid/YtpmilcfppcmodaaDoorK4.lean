/- The holes that sort by a field, and keys: the program's walks. -/
import Derived.Test.YtpmilcfppcmodaaDoorK3
import Derived.Test.YtpmilcfppcmodaaDoorAu
set_option linter.unusedVariables false
set_option linter.unusedSimpArgs false
namespace Go.Proofs.YtpmilcfppcmodaaDoor
open Go.RowKit
set_option maxHeartbeats 4000000
set_option maxRecDepth 20000
theorem own_rd2 {w : World} {base : Nat} {e : TypeId} {A : Option Addr} {n c : Nat} {xs : List Value} (h : w.ownsRow base e 1 (.slice A n c) n xs) : Rd w A xs := by
  obtain ⟨A', c', hv, hR, _⟩ := own_row h
  simp only [Value.slice.injEq] at hv
  rw [hv.1]; exact hR
theorem own_cap {w : World} {base : Nat} {e : TypeId} {A : Option Addr} {n c : Nat} {xs : List Value} (h : w.ownsRow base e 1 (.slice A n c) n xs) : n ≤ c := by
  obtain ⟨h1, h2⟩ := h
  rcases h2 with ⟨hv, h0⟩ | ⟨g, cap, cur, hv, hb, hg, hc, hmx, hs, ht⟩
  · omega
  · cases hv; exact hc
theorem sortL_mem {k st sz : Int} (hz : okSz k sz) (h0 : 0 ≤ st) (h2 : st + widthN k sz ≤ 96) : ∀ h ∈ sortL k st sz, 0 ≤ h ∧ h < 96 := by
  intro h hh
  obtain ⟨z1, z2⟩ := hz
  unfold sortL at hh
  by_cases hk : k = 0
  · subst hk
    simp [upL] at hh
    obtain ⟨i, hi, rfl⟩ := hh
    simp [widthN] at h2; omega
  · simp only [hk, if_false] at hh
    simp [downL] at hh
    obtain ⟨i, hi, rfl⟩ := hh
    unfold sortN at *
    by_cases h3 : k = 3
    · subst h3; simp [widthN] at *; omega
    · simp only [h3, if_false] at *; omega
theorem sortN_le {k sz : Int} (hz : okSz k sz) : sortN k sz ≤ 24 := by
  obtain ⟨z1, z2⟩ := hz
  unfold sortN widthN
  rcases z2 with ⟨rfl, z2⟩ | ⟨rfl, z2⟩ | ⟨rfl, z2⟩ | ⟨rfl, z2⟩ <;> simp <;> omega
theorem impl_sorting_0 (s : ByteArray) (st sz : Int) (w : World) (hz : okSz 0 sz) (ht : I16 st) (h0 : 0 ≤ st) (h2 : st + widthN 0 sz ≤ 96) :
    Calls Tryd.prog 165 #[.agg #[.string s, .int .i8 0, .int .i16 st, .int .i16 sz]] w fun e w' => ∃ v, e = .returned v ∧ w'.ownsRow w.heap.size 2 1 v (sortL 0 st sz).length (ints (sortL 0 st sz)) ∧ Keep w w' := by
  have hI : I16 sz := by obtain ⟨a, b⟩ := hz; unfold I16; omega
  obtain ⟨n, hn⟩ : ∃ n : Nat, (n : Int) = widthN 0 sz := ⟨(widthN 0 sz).toNat, by have := hz.1; simp [widthN]; omega⟩
  have hwd : 1 ≤ widthN 0 sz := by have := hz.1; simp [widthN]; omega
  have hn1 : 1 ≤ n := by omega
  have hn2 : n ≤ 96 := by omega
  have hP := hs_part (s := st) n h0 (by omega)
  have hp1 : rlo st n = paLo 0 st sz := by unfold paLo; rw [← hn]; simp
  have hp2 : rhi st n = paHi 0 st sz := by unfold paHi; rw [← hn]; simp
  rw [hp1, hp2] at hP
  have hpart := fun W => impl_part s 0 st sz W hI ht h0 hwd h2
  have hS : sortL 0 st sz = if (0 : Int) = 0 then upL st n else (upL st (if (0 : Int) = 3 then n - 1 else n)).reverse := by
    rw [upL_reverse]
    have hN : sortN 0 sz = if (0 : Int) = 3 then n - 1 else n := by unfold sortN; simp [widthN] at hn ⊢; omega
    unfold sortL
    rw [hN]
    simp
    try (simp [widthN] at hn; rw [show sz.toNat = n by omega])
  rw [hS]
  simp
  clear hS
  generalize paLo 0 st sz = x at *
  generalize paHi 0 st sz = y at *
  clear hp1 hp2 hn
  go_enter Tryd.func165, Tryd.ntmps165
  (go_wp2_with fail); (go_at_call 100); (refine (hpart _).mono ?_); rintro e w1 ⟨rfl, hk1⟩
  have hF1 := (Bx.new w #[.string s, .int .i8 0, .int .i16 st, .int .i16 sz] 89).keep hk1
  have k1 : Keep w w1 := (by ((repeat (first | (with_reducible assumption) | ((with_reducible refine Keep.setCell ?_ ?_ _); rotate_left; focus (first | omega | (simp; done) | (simp; omega))) | (with_reducible refine Keep.alloc ?_ _) | (with_reducible refine Keep.drewN ?_ _) | (with_reducible refine Keep.drew ?_) | (with_reducible exact Keep.refl _) | refine Keep.trans ?_ (by with_reducible assumption) | exact Keep.refl _ | assumption))))
  have z1 := k1.size
  clear hk1
  (go_wp2_with fail); (go_at_call 82); (refine (impl_Mask_holes _ _ _).mono ?_); rintro e w2 ⟨v, rfl, ho, hk2⟩
  rw [hP, upL_len] at ho
  obtain ⟨A, c, rfl, -, hb⟩ := own_row ho
  have hF2 := hF1.keep hk2
  have k2 : Keep w w2 := (by ((repeat (first | (with_reducible assumption) | ((with_reducible refine Keep.setCell ?_ ?_ _); rotate_left; focus (first | omega | (simp; done) | (simp; omega))) | (with_reducible refine Keep.alloc ?_ _) | (with_reducible refine Keep.drewN ?_ _) | (with_reducible refine Keep.drew ?_) | (with_reducible exact Keep.refl _) | refine Keep.trans ?_ (by with_reducible assumption) | exact Keep.refl _ | assumption))))
  have HO := Aside.mk ho
  have HB := Aside.mk hb
  clear ho hb hk2 hF1 k1
  have hFs := hF2.four
  go_wp2
  go_ret; exact ⟨_, rfl, by rw [upL_len]; exact own_base HO.out z1, (by ((repeat (first | (with_reducible assumption) | ((with_reducible refine Keep.setCell ?_ ?_ _); rotate_left; focus (first | omega | (simp; done) | (simp; omega))) | (with_reducible refine Keep.alloc ?_ _) | (with_reducible refine Keep.drewN ?_ _) | (with_reducible refine Keep.drew ?_) | (with_reducible exact Keep.refl _) | refine Keep.trans ?_ (by with_reducible assumption) | exact Keep.refl _ | assumption))))⟩
theorem impl_sorting_1 (s : ByteArray) (st sz : Int) (w : World) (hz : okSz 1 sz) (ht : I16 st) (h0 : 0 ≤ st) (h2 : st + widthN 1 sz ≤ 96) :
    Calls Tryd.prog 165 #[.agg #[.string s, .int .i8 1, .int .i16 st, .int .i16 sz]] w fun e w' => ∃ v, e = .returned v ∧ w'.ownsRow w.heap.size 2 1 v (sortL 1 st sz).length (ints (sortL 1 st sz)) ∧ Keep w w' := by
  have hI : I16 sz := by obtain ⟨a, b⟩ := hz; unfold I16; omega
  obtain ⟨n, hn⟩ : ∃ n : Nat, (n : Int) = widthN 1 sz := ⟨(widthN 1 sz).toNat, by have := hz.1; simp [widthN]; omega⟩
  have hwd : 1 ≤ widthN 1 sz := by have := hz.1; simp [widthN]; omega
  have hn1 : 1 ≤ n := by omega
  have hn2 : n ≤ 96 := by omega
  have hP := hs_part (s := st) n h0 (by omega)
  have hp1 : rlo st n = paLo 1 st sz := by unfold paLo; rw [← hn]; simp
  have hp2 : rhi st n = paHi 1 st sz := by unfold paHi; rw [← hn]; simp
  rw [hp1, hp2] at hP
  have hpart := fun W => impl_part s 1 st sz W hI ht h0 hwd h2
  have hS : sortL 1 st sz = if (1 : Int) = 0 then upL st n else (upL st (if (1 : Int) = 3 then n - 1 else n)).reverse := by
    rw [upL_reverse]
    have hN : sortN 1 sz = if (1 : Int) = 3 then n - 1 else n := by unfold sortN; simp [widthN] at hn ⊢; omega
    unfold sortL
    rw [hN]
    simp
    try (simp [widthN] at hn; rw [show sz.toNat = n by omega])
  rw [hS]
  simp
  clear hS
  generalize paLo 1 st sz = x at *
  generalize paHi 1 st sz = y at *
  clear hp1 hp2 hn
  go_enter Tryd.func165, Tryd.ntmps165
  (go_wp2_with fail); (go_at_call 100); (refine (hpart _).mono ?_); rintro e w1 ⟨rfl, hk1⟩
  have hF1 := (Bx.new w #[.string s, .int .i8 1, .int .i16 st, .int .i16 sz] 89).keep hk1
  have k1 : Keep w w1 := (by ((repeat (first | (with_reducible assumption) | ((with_reducible refine Keep.setCell ?_ ?_ _); rotate_left; focus (first | omega | (simp; done) | (simp; omega))) | (with_reducible refine Keep.alloc ?_ _) | (with_reducible refine Keep.drewN ?_ _) | (with_reducible refine Keep.drew ?_) | (with_reducible exact Keep.refl _) | refine Keep.trans ?_ (by with_reducible assumption) | exact Keep.refl _ | assumption))))
  have z1 := k1.size
  clear hk1
  (go_wp2_with fail); (go_at_call 82); (refine (impl_Mask_holes _ _ _).mono ?_); rintro e w2 ⟨v, rfl, ho, hk2⟩
  rw [hP, upL_len] at ho
  obtain ⟨A, c, rfl, -, hb⟩ := own_row ho
  have hF2 := hF1.keep hk2
  have k2 : Keep w w2 := (by ((repeat (first | (with_reducible assumption) | ((with_reducible refine Keep.setCell ?_ ?_ _); rotate_left; focus (first | omega | (simp; done) | (simp; omega))) | (with_reducible refine Keep.alloc ?_ _) | (with_reducible refine Keep.drewN ?_ _) | (with_reducible refine Keep.drew ?_) | (with_reducible exact Keep.refl _) | refine Keep.trans ?_ (by with_reducible assumption) | exact Keep.refl _ | assumption))))
  have HO := Aside.mk ho
  have HB := Aside.mk hb
  clear ho hb hk2 hF1 k1
  have hFs := hF2.four
  have hrv := fun W hown => slices_Reverse A (upL st n) c w1.heap.size W (by rw [upL_len]; omega) hown
  rw [upL_len] at hrv
  (go_wp2_with fail); (go_at_call 173); (refine (hrv _ HO.out).mono ?_); rintro e w3 ⟨rfl, ho3, hg3⟩
  have HO3 := Aside.mk ho3
  have k3 : Keep w w3 := k2.grown hg3 (fun k hk => by have := HB.out k (by cases A with | none => simp [Value.ownBlock] at hk | some a => simpa [Value.ownBlock] using hk); omega)
  clear ho3 hg3 hF2 hFs k2
  go_wp2
  go_ret; exact ⟨_, rfl, by rw [upL_len]; exact own_base HO3.out z1, (by ((repeat (first | (with_reducible assumption) | ((with_reducible refine Keep.setCell ?_ ?_ _); rotate_left; focus (first | omega | (simp; done) | (simp; omega))) | (with_reducible refine Keep.alloc ?_ _) | (with_reducible refine Keep.drewN ?_ _) | (with_reducible refine Keep.drew ?_) | (with_reducible exact Keep.refl _) | refine Keep.trans ?_ (by with_reducible assumption) | exact Keep.refl _ | assumption))))⟩
theorem impl_sorting_2 (s : ByteArray) (st sz : Int) (w : World) (hz : okSz 2 sz) (ht : I16 st) (h0 : 0 ≤ st) (h2 : st + widthN 2 sz ≤ 96) :
    Calls Tryd.prog 165 #[.agg #[.string s, .int .i8 2, .int .i16 st, .int .i16 sz]] w fun e w' => ∃ v, e = .returned v ∧ w'.ownsRow w.heap.size 2 1 v (sortL 2 st sz).length (ints (sortL 2 st sz)) ∧ Keep w w' := by
  have hI : I16 sz := by obtain ⟨a, b⟩ := hz; unfold I16; omega
  obtain ⟨n, hn⟩ : ∃ n : Nat, (n : Int) = widthN 2 sz := ⟨(widthN 2 sz).toNat, by have := hz.1; simp [widthN]; omega⟩
  have hwd : 1 ≤ widthN 2 sz := by have := hz.1; simp [widthN]; omega
  have hn1 : 1 ≤ n := by omega
  have hn2 : n ≤ 96 := by omega
  have hP := hs_part (s := st) n h0 (by omega)
  have hp1 : rlo st n = paLo 2 st sz := by unfold paLo; rw [← hn]; simp
  have hp2 : rhi st n = paHi 2 st sz := by unfold paHi; rw [← hn]; simp
  rw [hp1, hp2] at hP
  have hpart := fun W => impl_part s 2 st sz W hI ht h0 hwd h2
  have hS : sortL 2 st sz = if (2 : Int) = 0 then upL st n else (upL st (if (2 : Int) = 3 then n - 1 else n)).reverse := by
    rw [upL_reverse]
    have hN : sortN 2 sz = if (2 : Int) = 3 then n - 1 else n := by unfold sortN; simp [widthN] at hn ⊢; omega
    unfold sortL
    rw [hN]
    simp
    try (simp [widthN] at hn; rw [show sz.toNat = n by omega])
  rw [hS]
  simp
  clear hS
  generalize paLo 2 st sz = x at *
  generalize paHi 2 st sz = y at *
  clear hp1 hp2 hn
  go_enter Tryd.func165, Tryd.ntmps165
  (go_wp2_with fail); (go_at_call 100); (refine (hpart _).mono ?_); rintro e w1 ⟨rfl, hk1⟩
  have hF1 := (Bx.new w #[.string s, .int .i8 2, .int .i16 st, .int .i16 sz] 89).keep hk1
  have k1 : Keep w w1 := (by ((repeat (first | (with_reducible assumption) | ((with_reducible refine Keep.setCell ?_ ?_ _); rotate_left; focus (first | omega | (simp; done) | (simp; omega))) | (with_reducible refine Keep.alloc ?_ _) | (with_reducible refine Keep.drewN ?_ _) | (with_reducible refine Keep.drew ?_) | (with_reducible exact Keep.refl _) | refine Keep.trans ?_ (by with_reducible assumption) | exact Keep.refl _ | assumption))))
  have z1 := k1.size
  clear hk1
  (go_wp2_with fail); (go_at_call 82); (refine (impl_Mask_holes _ _ _).mono ?_); rintro e w2 ⟨v, rfl, ho, hk2⟩
  rw [hP, upL_len] at ho
  obtain ⟨A, c, rfl, -, hb⟩ := own_row ho
  have hF2 := hF1.keep hk2
  have k2 : Keep w w2 := (by ((repeat (first | (with_reducible assumption) | ((with_reducible refine Keep.setCell ?_ ?_ _); rotate_left; focus (first | omega | (simp; done) | (simp; omega))) | (with_reducible refine Keep.alloc ?_ _) | (with_reducible refine Keep.drewN ?_ _) | (with_reducible refine Keep.drew ?_) | (with_reducible exact Keep.refl _) | refine Keep.trans ?_ (by with_reducible assumption) | exact Keep.refl _ | assumption))))
  have HO := Aside.mk ho
  have HB := Aside.mk hb
  clear ho hb hk2 hF1 k1
  have hFs := hF2.four
  have hrv := fun W hown => slices_Reverse A (upL st n) c w1.heap.size W (by rw [upL_len]; omega) hown
  rw [upL_len] at hrv
  (go_wp2_with fail); (go_at_call 173); (refine (hrv _ HO.out).mono ?_); rintro e w3 ⟨rfl, ho3, hg3⟩
  have HO3 := Aside.mk ho3
  have k3 : Keep w w3 := k2.grown hg3 (fun k hk => by have := HB.out k (by cases A with | none => simp [Value.ownBlock] at hk | some a => simpa [Value.ownBlock] using hk); omega)
  clear ho3 hg3 hF2 hFs k2
  go_wp2
  go_ret; exact ⟨_, rfl, by rw [upL_len]; exact own_base HO3.out z1, (by ((repeat (first | (with_reducible assumption) | ((with_reducible refine Keep.setCell ?_ ?_ _); rotate_left; focus (first | omega | (simp; done) | (simp; omega))) | (with_reducible refine Keep.alloc ?_ _) | (with_reducible refine Keep.drewN ?_ _) | (with_reducible refine Keep.drew ?_) | (with_reducible exact Keep.refl _) | refine Keep.trans ?_ (by with_reducible assumption) | exact Keep.refl _ | assumption))))⟩
theorem impl_sorting_3 (s : ByteArray) (st sz : Int) (w : World) (hz : okSz 3 sz) (ht : I16 st) (h0 : 0 ≤ st) (h2 : st + widthN 3 sz ≤ 96) :
    Calls Tryd.prog 165 #[.agg #[.string s, .int .i8 3, .int .i16 st, .int .i16 sz]] w fun e w' => ∃ v, e = .returned v ∧ w'.ownsRow w.heap.size 2 1 v (sortL 3 st sz).length (ints (sortL 3 st sz)) ∧ Keep w w' := by
  have hI : I16 sz := by obtain ⟨a, b⟩ := hz; unfold I16; omega
  obtain ⟨n, hn⟩ : ∃ n : Nat, (n : Int) = widthN 3 sz := ⟨(widthN 3 sz).toNat, by have := hz.1; simp [widthN]; omega⟩
  have hwd : 1 ≤ widthN 3 sz := by have := hz.1; simp [widthN]; omega
  have hn1 : 1 ≤ n := by omega
  have hn2 : n ≤ 96 := by omega
  have hP := hs_part (s := st) n h0 (by omega)
  have hp1 : rlo st n = paLo 3 st sz := by unfold paLo; rw [← hn]; simp
  have hp2 : rhi st n = paHi 3 st sz := by unfold paHi; rw [← hn]; simp
  rw [hp1, hp2] at hP
  have hpart := fun W => impl_part s 3 st sz W hI ht h0 hwd h2
  have hS : sortL 3 st sz = if (3 : Int) = 0 then upL st n else (upL st (if (3 : Int) = 3 then n - 1 else n)).reverse := by
    rw [upL_reverse]
    have hN : sortN 3 sz = if (3 : Int) = 3 then n - 1 else n := by unfold sortN; simp [widthN] at hn ⊢; omega
    unfold sortL
    rw [hN]
    simp
    try (simp [widthN] at hn; rw [show sz.toNat = n by omega])
  rw [hS]
  simp
  clear hS
  generalize paLo 3 st sz = x at *
  generalize paHi 3 st sz = y at *
  clear hp1 hp2 hn
  go_enter Tryd.func165, Tryd.ntmps165
  (go_wp2_with fail); (go_at_call 100); (refine (hpart _).mono ?_); rintro e w1 ⟨rfl, hk1⟩
  have hF1 := (Bx.new w #[.string s, .int .i8 3, .int .i16 st, .int .i16 sz] 89).keep hk1
  have k1 : Keep w w1 := (by ((repeat (first | (with_reducible assumption) | ((with_reducible refine Keep.setCell ?_ ?_ _); rotate_left; focus (first | omega | (simp; done) | (simp; omega))) | (with_reducible refine Keep.alloc ?_ _) | (with_reducible refine Keep.drewN ?_ _) | (with_reducible refine Keep.drew ?_) | (with_reducible exact Keep.refl _) | refine Keep.trans ?_ (by with_reducible assumption) | exact Keep.refl _ | assumption))))
  have z1 := k1.size
  clear hk1
  (go_wp2_with fail); (go_at_call 82); (refine (impl_Mask_holes _ _ _).mono ?_); rintro e w2 ⟨v, rfl, ho, hk2⟩
  rw [hP, upL_len] at ho
  obtain ⟨A, c, rfl, -, hb⟩ := own_row ho
  have hF2 := hF1.keep hk2
  have k2 : Keep w w2 := (by ((repeat (first | (with_reducible assumption) | ((with_reducible refine Keep.setCell ?_ ?_ _); rotate_left; focus (first | omega | (simp; done) | (simp; omega))) | (with_reducible refine Keep.alloc ?_ _) | (with_reducible refine Keep.drewN ?_ _) | (with_reducible refine Keep.drew ?_) | (with_reducible exact Keep.refl _) | refine Keep.trans ?_ (by with_reducible assumption) | exact Keep.refl _ | assumption))))
  have HO := Aside.mk ho
  have HB := Aside.mk hb
  clear ho hb hk2 hF1 k1
  have hFs := hF2.four
  have hcap := own_cap HO.out
  have HO := Aside.mk (by have := own_cut (m := n - 1) HO.out (by omega) (by omega); rw [show (ints (upL st n)).take (n - 1) = ints (upL st (n - 1)) by (have e : n = (n - 1) + 1 := by omega); rw [e, upL_succ]; simp [ints, upL_len]] at this; exact this)
  have e1 : ((n : Int) - 1) = ((n - 1 : Nat) : Int) := by omega
  have hrv := fun W hown => slices_Reverse A (upL st (n - 1)) c w1.heap.size W (by rw [upL_len]; omega) hown
  rw [upL_len] at hrv
  (go_wp2_with fail); (go_at_call 173); (refine (hrv _ HO.out).mono ?_); rintro e w3 ⟨rfl, ho3, hg3⟩
  have HO3 := Aside.mk ho3
  have k3 : Keep w w3 := k2.grown hg3 (fun k hk => by have := HB.out k (by cases A with | none => simp [Value.ownBlock] at hk | some a => simpa [Value.ownBlock] using hk); omega)
  clear ho3 hg3 hF2 hFs k2
  go_wp2
  go_ret; exact ⟨_, rfl, by rw [upL_len]; exact own_base HO3.out z1, (by ((repeat (first | (with_reducible assumption) | ((with_reducible refine Keep.setCell ?_ ?_ _); rotate_left; focus (first | omega | (simp; done) | (simp; omega))) | (with_reducible refine Keep.alloc ?_ _) | (with_reducible refine Keep.drewN ?_ _) | (with_reducible refine Keep.drew ?_) | (with_reducible exact Keep.refl _) | refine Keep.trans ?_ (by with_reducible assumption) | exact Keep.refl _ | assumption))))⟩
end Go.Proofs.YtpmilcfppcmodaaDoor

/- The fewest needles: the search; the reference's walk. -/
import Derived.Test.YtpmilcfppcmodaaDoorFW2
import Derived.Test.YtpmilcfppcmodaaDoorLate
set_option linter.unusedVariables false
set_option linter.unusedSimpArgs false
namespace Go.Proofs.YtpmilcfppcmodaaDoor
open Go.RowKit Go.Shelf
set_option maxHeartbeats 2000000
set_option maxRecDepth 20000
/-- The first answer of so many places from a place on. -/
def scan {α : Type} (g : Nat → Option α) (f : Nat) : Nat → Option α
  | 0 => none
  | n + 1 => match scan g f n with
    | some r => some r
    | none => g (f + n)
theorem scan_none {α : Type} {g : Nat → Option α} {f n : Nat} (h : scan g f n = none) (h2 : g (f + n) = none) : scan g f (n + 1) = none := by simp [scan, h, h2]
theorem scan_some {α : Type} {g : Nat → Option α} {f n : Nat} {r : α} (h : scan g f n = none) (h2 : g (f + n) = some r) : ∀ N, n < N → scan g f N = some r
  | 0, hN => by omega
  | N + 1, hN => by
    by_cases e : n = N
    · subst e; simp [scan, h, h2]
    · have := scan_some h h2 N (by omega)
      simp [scan, this]
/-- The first mask that fits, with so many more holes from a hole on. -/
def srch (P : Wd → Wd → Bool) (may : Nat → Bool) : Nat → Nat → Wd → Wd → Option (Wd × Wd)
  | 0, _, a, b => if P a b then some (a, b) else none
  | k + 1, f, a, b => scan (fun h => if may h then srch P may k (h + 1) (a ||| bitLo h) (b ||| bitHi h) else none) f (96 - f)
/-- The mask that the search returns, found or not. -/
def srV (P : Wd → Wd → Bool) (may : Nat → Bool) (k f : Nat) (a b : Wd) : Wd × Wd := match k with
  | 0 => (a, b)
  | k + 1 => match srch P may (k + 1) f a b with
    | some z => z
    | none => (0#64, 0#64)
theorem srV_some {P : Wd → Wd → Bool} {may : Nat → Bool} {k f : Nat} {a b : Wd} {z : Wd × Wd} (h : srch P may k f a b = some z) : srV P may k f a b = z := by
  cases k with
  | zero =>
    unfold srch at h
    by_cases hP : P a b = true
    · rw [if_pos hP] at h; exact Option.some.inj h
    · rw [if_neg hP] at h; simp at h
  | succ k => simp only [srV]; rw [h]
theorem srV_none {P : Wd → Wd → Bool} {may : Nat → Bool} {k f : Nat} {a b : Wd} (h : srch P may (k + 1) f a b = none) : srV P may (k + 1) f a b = (0#64, 0#64) := by
  simp only [srV]; rw [h]
/-- One place of the search. -/
def srG (P : Wd → Wd → Bool) (may : Nat → Bool) (k : Nat) (a b : Wd) (h : Nat) : Option (Wd × Wd) := if may h then srch P may k (h + 1) (a ||| bitLo h) (b ||| bitHi h) else none
theorem srch_succ (P : Wd → Wd → Bool) (may : Nat → Bool) (k f : Nat) (a b : Wd) : srch P may (k + 1) f a b = scan (srG P may k a b) f (96 - f) := rfl
attribute [irreducible] srch
theorem spec_l02More (A B : Option Addr) (l : List Cd) (wd : List Int) (c d : Nat) (ma mb : Wd) (hm : l.length ≤ 1048576) (hw : wd.length ≤ 9223372036854775807) :
    ∀ (k f : Nat) (a b : Wd) (w : World), k ≤ 3 → f ≤ 96 → Rd w A (cds l) → Rd w B (ints wd) →
    Calls Tryd.prog 78 #[.slice A l.length c, .slice B wd.length d, .agg #[.int .u64 (U a), .int .u64 (U b)], .int .i64 ((f : Int)), .int .i64 ((k : Int)), .agg #[.int .u64 (U ma), .int .u64 (U mb)]] w fun e w' => e = .returned (.tuple #[.agg #[.int .u64 (U ((srV (fitB l wd) (fun h => hasB ma mb h) k f a b).1)), .int .u64 (U ((srV (fitB l wd) (fun h => hasB ma mb h) k f a b).2))], .bool (srch (fitB l wd) (fun h => hasB ma mb h) k f a b).isSome]) ∧ Keep w w'
  | 0, f, a, b, w, hk, hf, hR, hS => by
    have hF := Aside.mk (fun W hr hs => spec_l02Fits A B l wd c d a b W hm hw hr hs)
    have e1 : (srch (fitB l wd) (fun h => hasB ma mb h) 0 f a b).isSome = fitB l wd a b := by
      unfold srch; cases fitB l wd a b <;> rfl
    rw [e1, show srV (fitB l wd) (fun h => hasB ma mb h) 0 f a b = (a, b) from rfl]
    clear e1
    generalize fitB l wd a b = q at *
    go_enter Tryd.func78, Tryd.ntmps78
    go_wp2_with fail
    refine wp_gen (fun W => Bx W w.heap.size #[.int .u64 (U a), .int .u64 (U b)] 33 ∧ Bx W (w.heap.size + 1) #[.int .u64 (U ma), .int .u64 (U mb)] 33 ∧ Bx W (w.heap.size + 1 + 1) #[.int .u64 0, .int .u64 0] 33 ∧ Keep w W) ⟨((Bx.new _ _ _).alloc _).alloc _, (Bx.new1 _ _ _ _).alloc _, Bx.new2 _ _ _ _ _, (by ((repeat (first | (with_reducible assumption) | ((with_reducible refine Keep.setCell ?_ ?_ _); rotate_left; focus (first | omega | (simp; done) | (simp; omega))) | (with_reducible refine Keep.alloc ?_ _) | (with_reducible refine Keep.drewN ?_ _) | (with_reducible refine Keep.drew ?_) | (with_reducible exact Keep.refl _) | refine Keep.trans ?_ (by with_reducible assumption) | exact Keep.refl _ | assumption))))⟩ ?_
    rintro W ⟨hM, hY, hZ, hW⟩
    have hR1 := hR.keep hW
    have hS1 := hS.keep hW
    clear hk hf
    apply wp_region_mono 5 [Fx _, Fx _, Fx _, Fx _, Fx _] (by kernel_rfl) (by kernel_rfl) (mono_of ⟨Fx.mono _, Fx.mono _, Fx.mono _, Fx.mono _, Fx.mono _, trivial⟩) ?st3 ?tl3
    case st3 =>
      simp only [List.take_succ_cons, List.take_zero, List.drop_succ_cons, List.drop_zero, putAll, Act.put, List.setIfInBounds_toArray, List.set_cons_succ, List.set_cons_zero, Nat.zero_add, Nat.reduceAdd]
      refine steps_cons ?_ (steps_cons ?_ (steps_cons ?_ (steps_cons ?_ (steps_cons ?_ steps_nil))))
      all_goals
        intro v w2 hk hd
        obtain ⟨hM_0, hM_1, hM_2, hM_3, hM_4⟩ := (hM.keep hk).two
        obtain ⟨hZ_0, hZ_1, hZ_2, hZ_3, hZ_4⟩ := (hZ.keep hk).two
        have hkz := hk.size
        simp [DepsOf, factAt, Fx, Region.binds] at hd
        simp only [factAt, List.getD_cons_zero, List.getD_cons_succ]
        refine Gives.mk ?_
        go_simp
        first | exact ⟨Keep.refl _, Fx.self _ _⟩ | exact ⟨(Keep.refl _).alloc _, _, rfl, Bx.new _ _ _, by first | omega | (simp; omega)⟩ | (go_at_call 134; exact gives_fx (hF.out _ (hR1.keep hk) (hS1.keep hk)))
    simp only [List.take_succ_cons, List.take_zero, List.drop_succ_cons, List.drop_zero, putAll, Act.put, List.setIfInBounds_toArray, List.set_cons_succ, List.set_cons_zero, Nat.zero_add, Nat.reduceAdd]
    intro v w2 hk hh
    obtain ⟨hM_0, hM_1, hM_2, hM_3, hM_4⟩ := (hM.keep hk).two
    obtain ⟨hZ_0, hZ_1, hZ_2, hZ_3, hZ_4⟩ := (hZ.keep hk).two
    have hkz := hk.size
    simp only [Held, factAt, List.getD_cons_zero, List.getD_cons_succ, Fx, true_and] at hh
    obtain ⟨⟨⟨⟨v_0, v_1⟩, v_2⟩, v_3⟩, v_4⟩ := hh
    simp only [v_0, v_1, v_2, v_3, v_4]
    replace hW := hW.trans hk
    go_wp2
    (apply bodyPost_ret; rotate_left; rfl; exact ⟨rfl, (by ((repeat (first | (with_reducible assumption) | ((with_reducible refine Keep.setCell ?_ ?_ _); rotate_left; focus (first | omega | (simp; done) | (simp; omega))) | (with_reducible refine Keep.alloc ?_ _) | (with_reducible refine Keep.drewN ?_ _) | (with_reducible refine Keep.drew ?_) | (with_reducible exact Keep.refl _) | refine Keep.trans ?_ (by with_reducible assumption) | exact Keep.refl _ | assumption))))⟩; simp [results, Tryd.results78, go_sem, U_zero, *])
  | k + 1, f, a, b, w, hk, hf, hR, hS => by
    obtain ⟨P, hP⟩ : ∃ P, fitB l wd = P := ⟨_, rfl⟩
    obtain ⟨may, hmay⟩ : ∃ may : Nat → Bool, (fun h : Nat => hasB ma mb (h : Int)) = may := ⟨_, rfl⟩
    have hrec := fun (h : Nat) (a b : Wd) (W : World) (h2 : h ≤ 96) (h3 : Rd W A (cds l)) (h4 : Rd W B (ints wd)) => spec_l02More A B l wd c d ma mb hm hw k h a b W (by omega) h2 h3 h4
    simp only [hP, hmay] at hrec
    rw [hP, hmay]
    obtain ⟨kk, hkk⟩ : ∃ kk : Int, ((k + 1 : Nat) : Int) = kk := ⟨_, rfl⟩
    have hks : (k : Int) = kk - 1 := by omega
    rw [hks] at hrec
    rw [hkk]
    have HREC := Aside.mk hrec
    have hk1 : ¬ kk = 0 := by omega
    have hkb : (kk == 0) = false := by simpa using hk1
    have hk2 : 0 ≤ kk ∧ kk ≤ 4 := by omega
    have wq : IntKind.i64.wrap (kk - 1) = kk - 1 := wrapI64 ⟨by omega, by omega⟩
    have HS := Aside.mk (srch_succ P may k f a b)
    have HV := Aside.mk (fun z => srV_some (P := P) (may := may) (k := k + 1) (f := f) (a := a) (b := b) (z := z))
    have HN := Aside.mk (srV_none (P := P) (may := may) (k := k) (f := f) (a := a) (b := b))
    obtain ⟨R, hRR⟩ : ∃ R, srch P may (k + 1) f a b = R := ⟨_, rfl⟩
    obtain ⟨V, hVV⟩ : ∃ V, srV P may (k + 1) f a b = V := ⟨_, rfl⟩
    rw [hRR, hVV]
    rw [hRR] at HS
    simp only [hRR, hVV] at HV HN
    clear hRR hVV hks hkk hrec hP
    go_enter Tryd.func78, Tryd.ntmps78
    go_wp2_with fail
    try simp only [hkb]
    go_loopg [14] (96 - f) (fun n s14 wr => ∃ h : Nat, h + n = 96 ∧ f ≤ h ∧ s14 = .int .i64 h ∧ scan (srG P may k a b) f (h - f) = none ∧ Bx wr w.heap.size #[.int .u64 (U a), .int .u64 (U b)] 33 ∧ Bx wr (w.heap.size + 1) #[.int .u64 (U ma), .int .u64 (U mb)] 33 ∧ Bx wr (w.heap.size + 1 + 1) #[.int .u64 0, .int .u64 0] 33 ∧ Keep w wr)
    case atStart => exact ⟨f, by omega, Nat.le_refl _, rfl, by rw [Nat.sub_self]; rfl, ((Bx.new _ _ _).alloc _).alloc _, (Bx.new1 _ _ _ _).alloc _, Bx.new2 _ _ _ _ _, (by ((repeat (first | (with_reducible assumption) | ((with_reducible refine Keep.setCell ?_ ?_ _); rotate_left; focus (first | omega | (simp; done) | (simp; omega))) | (with_reducible refine Keep.alloc ?_ _) | (with_reducible refine Keep.drewN ?_ _) | (with_reducible refine Keep.drew ?_) | (with_reducible exact Keep.refl _) | refine Keep.trans ?_ (by with_reducible assumption) | exact Keep.refl _ | assumption))))⟩
    case round =>
      obtain ⟨h, hh, hfh, rfl, hsc, hM, hY, hZ, hk0⟩ := hrel
      have HSC := Aside.mk hsc
      clear hsc
      by_cases hlt : h < 96
      · have hYs := hY.two
        (go_wp2_with fail); (go_at_call 98); (refine (spec_l01Has _ _ _ (by omega) (by omega) _).mono ?_); rintro e w1 ⟨rfl, hkh⟩
        have hmh : hasB ma mb (h : Int) = may h := by rw [← hmay]
        rw [hmh]
        have kk1 : Keep wr w1 := (by ((repeat (first | (with_reducible assumption) | ((with_reducible refine Keep.setCell ?_ ?_ _); rotate_left; focus (first | omega | (simp; done) | (simp; omega))) | (with_reducible refine Keep.alloc ?_ _) | (with_reducible refine Keep.drewN ?_ _) | (with_reducible refine Keep.drew ?_) | (with_reducible exact Keep.refl _) | refine Keep.trans ?_ (by with_reducible assumption) | exact Keep.refl _ | assumption))))
        replace hM := hM.keep kk1
        replace hY := hY.keep kk1
        replace hZ := hZ.keep kk1
        have k1 := hk0.trans kk1
        clear hkh hYs kk1 hk0 hmh
        cases hmy : may h
        · have HG := Aside.mk (show scan (srG P may k a b) f (h + 1 - f) = none by
            rw [show h + 1 - f = h - f + 1 by omega]
            exact scan_none HSC.out (by rw [show f + (h - f) = h by omega]; unfold srG; rw [hmy]; rfl))
          clear HSC hmy
          go_wp2
          go_roundg (96 - (h + 1))
          case measure => omega
          case rel => exact ⟨h + 1, by omega, by omega, by go_num, HG.out, hM, hY, hZ, (by ((repeat (first | (with_reducible assumption) | ((with_reducible refine Keep.setCell ?_ ?_ _); rotate_left; focus (first | omega | (simp; done) | (simp; omega))) | (with_reducible refine Keep.alloc ?_ _) | (with_reducible refine Keep.drewN ?_ _) | (with_reducible refine Keep.drew ?_) | (with_reducible exact Keep.refl _) | refine Keep.trans ?_ (by with_reducible assumption) | exact Keep.refl _ | assumption))))⟩
        · have hg : srG P may k a b h = srch P may k (h + 1) (a ||| bitLo h) (b ||| bitHi h) := by unfold srG; rw [hmy]; rfl
          have hr := fun W h3 h4 => HREC.out (h + 1) (a ||| bitLo h) (b ||| bitHi h) W (by omega) h3 h4
          rw [show ((h + 1 : Nat) : Int) = (h : Int) + 1 by omega] at hr
          have HE := Aside.mk (fun z => srV_some (P := P) (may := may) (k := k) (f := h + 1) (a := a ||| bitLo h) (b := b ||| bitHi h) (z := z))
          have HSN := Aside.mk (fun (e : srG P may k a b h = none) => (show scan (srG P may k a b) f (h + 1 - f) = none by
            rw [show h + 1 - f = h - f + 1 by omega]
            exact scan_none HSC.out (by rw [show f + (h - f) = h by omega]; exact e)))
          have HSY := Aside.mk (fun z (e : srG P may k a b h = some z) => scan_some (n := h - f) HSC.out (by rw [show f + (h - f) = h by omega]; exact e) (96 - f) (by omega))
          obtain ⟨r2, hr2⟩ : ∃ r, srch P may k (h + 1) (a ||| bitLo h) (b ||| bitHi h) = r := ⟨_, rfl⟩
          obtain ⟨⟨x, y⟩, hv2⟩ : ∃ r, srV P may k (h + 1) (a ||| bitLo h) (b ||| bitHi h) = r := ⟨_, rfl⟩
          rw [hr2] at hg
          simp only [hr2, hv2] at hr HE
          have hc := Aside.mk hr
          have HGG := Aside.mk hg
          clear hr hg hr2 hv2 HSC hmy
          have hR1 := hR.keep k1
          have hS1 := hS.keep k1
          have wqh : IntKind.i64.wrap ((h : Int) + 1) = (h : Int) + 1 := wrapI64 ⟨by omega, by omega⟩
          clear hk hf
          go_wp2_with fail
          apply wp_region_late 16 14 [Fx _, Fx _, Fx _, Fx _, Fx _, Fx _, Fx _, Fx _, Fx _, Fx _, Fx _, Fx _, Fx _, Fx _, Fx _] (Al (w1.heap.size) #[.int .u64 0, .int .u64 0] 33) (Al (w1.heap.size) #[.int .u64 (U x), .int .u64 (U y)] 33) (by kernel_rfl) (by kernel_rfl) rfl (by simp) ⟨Fx.free _, Fx.free _, Fx.free _, Fx.free _, Fx.free _, Fx.free _, Fx.free _, Fx.free _, Fx.free _, Fx.free _, Fx.free _, Fx.free _, Fx.free _, Fx.free _, Fx.free _, trivial⟩ (Al.mono _ _ _) (Al.mono _ _ _) ?st4 ?so4 ?la4 ?tl4
          case st4 =>
            simp only [List.take_succ_cons, List.take_zero, List.drop_succ_cons, List.drop_zero, putAll, Act.put, List.setIfInBounds_toArray, List.set_cons_succ, List.set_cons_zero, Nat.zero_add, Nat.reduceAdd]
            simp only [List.cons_append, List.nil_append]
            refine steps_cons ?_ (steps_cons ?_ (steps_cons ?_ (steps_cons ?_ (steps_cons ?_ (steps_cons ?_ (steps_cons ?_ (steps_cons ?_ (steps_cons ?_ (steps_cons ?_ (steps_cons ?_ (steps_cons ?_ (steps_cons ?_ (steps_cons ?_ (steps_cons ?_ (steps_cons ?_ steps_nil)))))))))))))))
            all_goals
              intro v w2 hk hd
              obtain ⟨hM_0, hM_1, hM_2, hM_3, hM_4⟩ := (hM.keep hk).two
              obtain ⟨hY_0, hY_1, hY_2, hY_3, hY_4⟩ := (hY.keep hk).two
              obtain ⟨hZ_0, hZ_1, hZ_2, hZ_3, hZ_4⟩ := (hZ.keep hk).two
              have hkz := hk.size
              simp [DepsOf, factAt, Fx, Region.binds] at hd
              simp only [factAt, List.getD_cons_zero, List.getD_cons_succ]
              refine Gives.mk ?_
              go_simp
              first | exact ⟨Keep.refl _, Fx.self _ _⟩ | exact ⟨(Keep.refl _).alloc _, _, rfl, Bx.new _ _ _, by first | omega | (simp; omega)⟩ | (go_at_call 123; exact gives_fx (spec_l01Bit _ (by omega) (by omega) _)) | (go_at_call 120; exact gives_fx (spec_l01Join _ _ _ _ _)) | (go_at_call 78; exact gives_fx (hc.out _ (hR1.keep hk) (hS1.keep hk)))
          case so4 =>
            intro v w2 hk hd o ho
            obtain ⟨hM_0, hM_1, hM_2, hM_3, hM_4⟩ := (hM.keep hk).two
            obtain ⟨hY_0, hY_1, hY_2, hY_3, hY_4⟩ := (hY.keep hk).two
            obtain ⟨hZ_0, hZ_1, hZ_2, hZ_3, hZ_4⟩ := (hZ.keep hk).two
            have hkz := hk.size
            have v_0 := hd 0 (by decide) (by decide)
            have v_1 := hd 1 (by decide) (by decide)
            have v_2 := hd 2 (by decide) (by decide)
            have v_3 := hd 3 (by decide) (by decide)
            have v_4 := hd 4 (by decide) (by decide)
            have v_5 := hd 5 (by decide) (by decide)
            have v_6 := hd 6 (by decide) (by decide)
            have v_7 := hd 7 (by decide) (by decide)
            have v_8 := hd 8 (by decide) (by decide)
            have v_9 := hd 9 (by decide) (by decide)
            have v_10 := hd 10 (by decide) (by decide)
            have v_11 := hd 11 (by decide) (by decide)
            have v_12 := hd 12 (by decide) (by decide)
            have v_13 := hd 13 (by decide) (by decide)
            simp only [List.cons_append, List.nil_append, factAt, List.getD_cons_zero, List.getD_cons_succ, Fx] at v_0 v_1 v_2 v_3 v_4 v_5 v_6 v_7 v_8 v_9 v_10 v_11 v_12 v_13
            obtain ⟨g, v_15, hG, hg⟩ := hd 15 (by decide) (by decide)
            obtain ⟨hG_0, hG_1, hG_2, hG_3, hG_4⟩ := hG.two
            obtain rfl := Option.some.inj ho
            simp only [List.take_succ_cons, List.take_zero, List.drop_succ_cons, List.drop_zero, putAll, Act.put, List.setIfInBounds_toArray, List.set_cons_succ, List.set_cons_zero, Nat.zero_add, Nat.reduceAdd]
            refine Gives.mk ?_
            go_simp
            exact ⟨(by ((repeat (first | (with_reducible assumption) | ((with_reducible refine Keep.setCell ?_ ?_ _); rotate_left; focus (first | omega | (simp; done) | (simp; omega))) | (with_reducible refine Keep.alloc ?_ _) | (with_reducible refine Keep.drewN ?_ _) | (with_reducible refine Keep.drew ?_) | (with_reducible exact Keep.refl _) | refine Keep.trans ?_ (by with_reducible assumption) | exact Keep.refl _ | assumption)))), g, (by first | rfl | assumption), ((hG).set _).set _, hg⟩
          case la4 =>
            intro v w2 hk hd o ho
            obtain ⟨hM_0, hM_1, hM_2, hM_3, hM_4⟩ := (hM.keep hk).two
            obtain ⟨hY_0, hY_1, hY_2, hY_3, hY_4⟩ := (hY.keep hk).two
            obtain ⟨hZ_0, hZ_1, hZ_2, hZ_3, hZ_4⟩ := (hZ.keep hk).two
            have hkz := hk.size
            have v_0 := hd 0 (by decide) (by decide)
            have v_1 := hd 1 (by decide) (by decide)
            have v_2 := hd 2 (by decide) (by decide)
            have v_3 := hd 3 (by decide) (by decide)
            have v_4 := hd 4 (by decide) (by decide)
            have v_5 := hd 5 (by decide) (by decide)
            have v_6 := hd 6 (by decide) (by decide)
            have v_7 := hd 7 (by decide) (by decide)
            have v_8 := hd 8 (by decide) (by decide)
            have v_9 := hd 9 (by decide) (by decide)
            have v_10 := hd 10 (by decide) (by decide)
            have v_11 := hd 11 (by decide) (by decide)
            have v_12 := hd 12 (by decide) (by decide)
            have v_13 := hd 13 (by decide) (by decide)
            simp only [List.cons_append, List.nil_append, factAt, List.getD_cons_zero, List.getD_cons_succ, Fx] at v_0 v_1 v_2 v_3 v_4 v_5 v_6 v_7 v_8 v_9 v_10 v_11 v_12 v_13
            obtain ⟨g, v_15, hG, hg⟩ := hd 15 (by decide) (by decide)
            obtain ⟨hG_0, hG_1, hG_2, hG_3, hG_4⟩ := hG.two
            obtain rfl := Option.some.inj ho
            simp only [List.take_succ_cons, List.take_zero, List.drop_succ_cons, List.drop_zero, putAll, Act.put, List.setIfInBounds_toArray, List.set_cons_succ, List.set_cons_zero, Nat.zero_add, Nat.reduceAdd]
            refine Gives.mk ?_
            go_simp
            exact ⟨Keep.refl _, rfl⟩
          simp only [List.take_succ_cons, List.take_zero, List.drop_succ_cons, List.drop_zero, putAll, Act.put, List.setIfInBounds_toArray, List.set_cons_succ, List.set_cons_zero, Nat.zero_add, Nat.reduceAdd]
          simp only [List.cons_append, List.nil_append]
          intro v w2 hk hh
          obtain ⟨hM_0, hM_1, hM_2, hM_3, hM_4⟩ := (hM.keep hk).two
          obtain ⟨hY_0, hY_1, hY_2, hY_3, hY_4⟩ := (hY.keep hk).two
          obtain ⟨hZ_0, hZ_1, hZ_2, hZ_3, hZ_4⟩ := (hZ.keep hk).two
          have hkz := hk.size
          simp only [Held, factAt, List.getD_cons_zero, List.getD_cons_succ, Fx, true_and] at hh
          obtain ⟨⟨⟨⟨⟨⟨⟨⟨⟨⟨⟨⟨⟨⟨⟨v_0, v_1⟩, v_2⟩, v_3⟩, v_4⟩, v_5⟩, v_6⟩, v_7⟩, v_8⟩, v_9⟩, v_10⟩, v_11⟩, v_12⟩, v_13⟩, v_14⟩, g, v_15, hG, hg⟩ := hh
          obtain ⟨hG_0, hG_1, hG_2, hG_3, hG_4⟩ := hG.two
          simp only [v_0, v_1, v_2, v_3, v_4, v_5, v_6, v_7, v_8, v_9, v_10, v_11, v_12, v_13, v_14, v_15]
          have k3 := k1.trans hk
          cases r2 with
          | none =>
            have HG2 := Aside.mk (HSN.out HGG.out)
            have hM2 := Aside.mk (hM.keep hk)
            have hY2 := Aside.mk (hY.keep hk)
            have hZ2 := Aside.mk (hZ.keep hk)
            clear HSN HSY HGG HE hc HREC hM hY hZ
            go_wp2
            go_roundg (96 - (h + 1))
            case measure => omega
            case rel => exact ⟨h + 1, by omega, by omega, by go_num, HG2.out, hM2.out, hY2.out, hZ2.out, (by ((repeat (first | (with_reducible assumption) | ((with_reducible refine Keep.setCell ?_ ?_ _); rotate_left; focus (first | omega | (simp; done) | (simp; omega))) | (with_reducible refine Keep.alloc ?_ _) | (with_reducible refine Keep.drewN ?_ _) | (with_reducible refine Keep.drew ?_) | (with_reducible exact Keep.refl _) | refine Keep.trans ?_ (by with_reducible assumption) | exact Keep.refl _ | assumption))))⟩
          | some z =>
            have e1 : (x, y) = z := HE.out z rfl
            subst e1
            have e2 : R = some (x, y) := HS.out.trans (HSY.out _ HGG.out)
            have e3 : V = (x, y) := HV.out _ e2
            subst e2 e3
            clear HSN HSY HGG HE hc HREC hM hY hZ HS HV HN
            go_wp2
            (apply bodyPost_ret; rotate_left; rfl; exact ⟨rfl, (by ((repeat (first | (with_reducible assumption) | ((with_reducible refine Keep.setCell ?_ ?_ _); rotate_left; focus (first | omega | (simp; done) | (simp; omega))) | (with_reducible refine Keep.alloc ?_ _) | (with_reducible refine Keep.drewN ?_ _) | (with_reducible refine Keep.drew ?_) | (with_reducible exact Keep.refl _) | refine Keep.trans ?_ (by with_reducible assumption) | exact Keep.refl _ | assumption))))⟩; simp [results, Tryd.results78, go_sem, U_zero, *])
      · obtain rfl : h = 96 := by omega
        have e2 : R = none := HS.out.trans HSC.out
        have e3 : V = (0#64, 0#64) := HN.out e2
        subst e2 e3
        have hZs := hZ.two
        clear HS HV HN HREC hM hY
        go_wp2
        (apply bodyPost_ret; rotate_left; rfl; exact ⟨rfl, (by ((repeat (first | (with_reducible assumption) | ((with_reducible refine Keep.setCell ?_ ?_ _); rotate_left; focus (first | omega | (simp; done) | (simp; omega))) | (with_reducible refine Keep.alloc ?_ _) | (with_reducible refine Keep.drewN ?_ _) | (with_reducible refine Keep.drew ?_) | (with_reducible exact Keep.refl _) | refine Keep.trans ?_ (by with_reducible assumption) | exact Keep.refl _ | assumption))))⟩; simp [results, Tryd.results78, go_sem, U_zero, *])
end Go.Proofs.YtpmilcfppcmodaaDoor

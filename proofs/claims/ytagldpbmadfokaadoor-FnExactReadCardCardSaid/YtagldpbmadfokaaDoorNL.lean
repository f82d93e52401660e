/- A card read out of a text: the two functions and the law. -/
import Derived.Test.YtagldpbmadfokaaDoorND
import Derived.Test.YtagldpbmadfokaaDoorW9
set_option linter.unusedVariables false
set_option linter.unusedSimpArgs false
namespace Go.Proofs.YtagldpbmadfokaaDoor
open Go.RowKit Go.Shelf
set_option maxHeartbeats 2000000
set_option maxRecDepth 20000
def rkN (s : ByteArray) : ByteArray := cond (rcO s) (rcN s) ⟨#[]⟩
def rkA (s : ByteArray) : Wd := cond (rcO s) (rcA s) 0#64
def rkB (s : ByteArray) : Wd := cond (rcO s) (rcB s) 0#64
def rkE (s : ByteArray) : Int := cond (rcO s) 0 5
theorem impl_ReadCard (s : ByteArray) (w : World) (hs : s.size ≤ 1048576) (hg : Gs w) :
    Calls Tryd.prog 16 #[.string s] w fun e w' => e = .returned (.tuple #[.agg #[.string (rkN s), .int .u64 (U (rkA s)), .int .u64 (U (rkB s))], .int .i64 (rkE s)]) ∧ Keep w w' := by
  have hc := Aside.mk (fun W (h : Gs W) => impl_readCard s W hs h)
  cases h1 : rcO s
  · have e1 : rkN s = ⟨#[]⟩ := by unfold rkN; rw [h1]; rfl
    have e2 : rkA s = 0#64 := by unfold rkA; rw [h1]; rfl
    have e3 : rkB s = 0#64 := by unfold rkB; rw [h1]; rfl
    have e4 : rkE s = 5 := by unfold rkE; rw [h1]; rfl
    rw [e1, e2, e3, e4]
    rw [h1] at hc
    clear e1 e2 e3 e4
    go_enter Tryd.func16, Tryd.ntmps16
    (go_wp2_with fail); (go_at_call 27); (refine (hc.out _ (by first | exact hg.keep (by ((repeat (first | (with_reducible assumption) | ((with_reducible refine Keep.setCell ?_ ?_ _); rotate_left; focus (first | omega | (simp; done) | (simp; omega))) | (with_reducible refine Keep.alloc ?_ _) | (with_reducible refine Keep.drewN ?_ _) | (with_reducible refine Keep.drew ?_) | (with_reducible exact Keep.refl _) | refine Keep.trans ?_ (by with_reducible assumption) | exact Keep.refl _ | assumption)))) | trivial)).mono ?_); rintro e w1 ⟨n, a, b, rfl, hr, hk1⟩
    have hZ : Bx w1 w.heap.size #[.string ByteArray.empty, .int .u64 0, .int .u64 0] 30 := (Bx.new _ _ _).keep hk1
    have k1 : Keep w w1 := (by ((repeat (first | (with_reducible assumption) | ((with_reducible refine Keep.setCell ?_ ?_ _); rotate_left; focus (first | omega | (simp; done) | (simp; omega))) | (with_reducible refine Keep.alloc ?_ _) | (with_reducible refine Keep.drewN ?_ _) | (with_reducible refine Keep.drew ?_) | (with_reducible exact Keep.refl _) | refine Keep.trans ?_ (by with_reducible assumption) | exact Keep.refl _ | assumption))))
    have hZs := hZ.three
    have zZ := hZ.lt
    clear hk1 hr hc
    go_wp2
    (apply bodyPost_ret; rotate_left; rfl; exact ⟨rfl, (by ((repeat (first | (with_reducible assumption) | ((with_reducible refine Keep.setCell ?_ ?_ _); rotate_left; focus (first | omega | (simp; done) | (simp; omega))) | (with_reducible refine Keep.alloc ?_ _) | (with_reducible refine Keep.drewN ?_ _) | (with_reducible refine Keep.drew ?_) | (with_reducible exact Keep.refl _) | refine Keep.trans ?_ (by with_reducible assumption) | exact Keep.refl _ | assumption))))⟩; simp [results, Tryd.results16, go_sem, U_zero, *])
  · have HE := Aside.mk (show rkN s = rcN s ∧ rkA s = rcA s ∧ rkB s = rcB s ∧ rkE s = 0 by unfold rkN rkA rkB rkE; rw [h1]; exact ⟨rfl, rfl, rfl, rfl⟩)
    rw [HE.out.1, HE.out.2.1, HE.out.2.2.1, HE.out.2.2.2]
    have hd := Aside.mk (fun W (h : Gs W) => (hc.out W h).mono (R' := fun e w' => e = .returned (.tuple #[.agg #[.string (rcN s), .int .u64 (U (rcA s)), .int .u64 (U (rcB s))], .bool true]) ∧ Keep W w') (by
      rintro e w' ⟨n, a, b, rfl, hr, hk⟩
      obtain ⟨rfl, rfl, rfl⟩ := hr h1
      exact ⟨by rw [h1], hk⟩))
    clear HE h1 hc
    generalize rcN s = n at *
    generalize rcA s = a at *
    generalize rcB s = b at *
    go_enter Tryd.func16, Tryd.ntmps16
    (go_wp2_with fail); (go_at_call 27); (refine (hd.out _ (by first | exact hg.keep (by ((repeat (first | (with_reducible assumption) | ((with_reducible refine Keep.setCell ?_ ?_ _); rotate_left; focus (first | omega | (simp; done) | (simp; omega))) | (with_reducible refine Keep.alloc ?_ _) | (with_reducible refine Keep.drewN ?_ _) | (with_reducible refine Keep.drew ?_) | (with_reducible exact Keep.refl _) | refine Keep.trans ?_ (by with_reducible assumption) | exact Keep.refl _ | assumption)))) | trivial)).mono ?_); rintro e w1 ⟨rfl, hk1⟩
    have hZ : Bx w1 w.heap.size #[.string ByteArray.empty, .int .u64 0, .int .u64 0] 30 := (Bx.new _ _ _).keep hk1
    have k1 : Keep w w1 := (by ((repeat (first | (with_reducible assumption) | ((with_reducible refine Keep.setCell ?_ ?_ _); rotate_left; focus (first | omega | (simp; done) | (simp; omega))) | (with_reducible refine Keep.alloc ?_ _) | (with_reducible refine Keep.drewN ?_ _) | (with_reducible refine Keep.drew ?_) | (with_reducible exact Keep.refl _) | refine Keep.trans ?_ (by with_reducible assumption) | exact Keep.refl _ | assumption))))
    have hZs := hZ.three
    have zZ := hZ.lt
    clear hk1 hd
    go_wp2
    (apply bodyPost_ret; rotate_left; rfl; exact ⟨rfl, (by ((repeat (first | (with_reducible assumption) | ((with_reducible refine Keep.setCell ?_ ?_ _); rotate_left; focus (first | omega | (simp; done) | (simp; omega))) | (with_reducible refine Keep.alloc ?_ _) | (with_reducible refine Keep.drewN ?_ _) | (with_reducible refine Keep.drew ?_) | (with_reducible exact Keep.refl _) | refine Keep.trans ?_ (by with_reducible assumption) | exact Keep.refl _ | assumption))))⟩; simp [results, Tryd.results16, go_sem, U_zero, *])
theorem spec_ReadCard (s : ByteArray) (w : World) (hs : s.size ≤ 1048576) (hg : True) :
    Calls Tryd.prog 15 #[.string s] w fun e w' => e = .returned (.tuple #[.agg #[.string (rkN s), .int .u64 (U (rkA s)), .int .u64 (U (rkB s))], .int .i64 (rkE s)]) ∧ Keep w w' := by
  have hc := Aside.mk (fun W (h : True) => spec_l01ReadCard s W hs)
  cases h1 : rcO s
  · have e1 : rkN s = ⟨#[]⟩ := by unfold rkN; rw [h1]; rfl
    have e2 : rkA s = 0#64 := by unfold rkA; rw [h1]; rfl
    have e3 : rkB s = 0#64 := by unfold rkB; rw [h1]; rfl
    have e4 : rkE s = 5 := by unfold rkE; rw [h1]; rfl
    rw [e1, e2, e3, e4]
    rw [h1] at hc
    clear e1 e2 e3 e4
    go_enter Tryd.func15, Tryd.ntmps15
    (go_wp2_with fail); (go_at_call 26); (refine (hc.out _ (by first | exact hg.keep (by ((repeat (first | (with_reducible assumption) | ((with_reducible refine Keep.setCell ?_ ?_ _); rotate_left; focus (first | omega | (simp; done) | (simp; omega))) | (with_reducible refine Keep.alloc ?_ _) | (with_reducible refine Keep.drewN ?_ _) | (with_reducible refine Keep.drew ?_) | (with_reducible exact Keep.refl _) | refine Keep.trans ?_ (by with_reducible assumption) | exact Keep.refl _ | assumption)))) | trivial)).mono ?_); rintro e w1 ⟨n, a, b, rfl, hr, hk1⟩
    have hZ : Bx w1 w.heap.size #[.string ByteArray.empty, .int .u64 0, .int .u64 0] 30 := (Bx.new _ _ _).keep hk1
    have k1 : Keep w w1 := (by ((repeat (first | (with_reducible assumption) | ((with_reducible refine Keep.setCell ?_ ?_ _); rotate_left; focus (first | omega | (simp; done) | (simp; omega))) | (with_reducible refine Keep.alloc ?_ _) | (with_reducible refine Keep.drewN ?_ _) | (with_reducible refine Keep.drew ?_) | (with_reducible exact Keep.refl _) | refine Keep.trans ?_ (by with_reducible assumption) | exact Keep.refl _ | assumption))))
    have hZs := hZ.three
    have zZ := hZ.lt
    clear hk1 hr hc
    go_wp2
    (apply bodyPost_ret; rotate_left; rfl; exact ⟨rfl, (by ((repeat (first | (with_reducible assumption) | ((with_reducible refine Keep.setCell ?_ ?_ _); rotate_left; focus (first | omega | (simp; done) | (simp; omega))) | (with_reducible refine Keep.alloc ?_ _) | (with_reducible refine Keep.drewN ?_ _) | (with_reducible refine Keep.drew ?_) | (with_reducible exact Keep.refl _) | refine Keep.trans ?_ (by with_reducible assumption) | exact Keep.refl _ | assumption))))⟩; simp [results, Tryd.results15, go_sem, U_zero, *])
  · have HE := Aside.mk (show rkN s = rcN s ∧ rkA s = rcA s ∧ rkB s = rcB s ∧ rkE s = 0 by unfold rkN rkA rkB rkE; rw [h1]; exact ⟨rfl, rfl, rfl, rfl⟩)
    rw [HE.out.1, HE.out.2.1, HE.out.2.2.1, HE.out.2.2.2]
    have hd := Aside.mk (fun W (h : True) => (hc.out W h).mono (R' := fun e w' => e = .returned (.tuple #[.agg #[.string (rcN s), .int .u64 (U (rcA s)), .int .u64 (U (rcB s))], .bool true]) ∧ Keep W w') (by
      rintro e w' ⟨n, a, b, rfl, hr, hk⟩
      obtain ⟨rfl, rfl, rfl⟩ := hr h1
      exact ⟨by rw [h1], hk⟩))
    clear HE h1 hc
    generalize rcN s = n at *
    generalize rcA s = a at *
    generalize rcB s = b at *
    go_enter Tryd.func15, Tryd.ntmps15
    (go_wp2_with fail); (go_at_call 26); (refine (hd.out _ (by first | exact hg.keep (by ((repeat (first | (with_reducible assumption) | ((with_reducible refine Keep.setCell ?_ ?_ _); rotate_left; focus (first | omega | (simp; done) | (simp; omega))) | (with_reducible refine Keep.alloc ?_ _) | (with_reducible refine Keep.drewN ?_ _) | (with_reducible refine Keep.drew ?_) | (with_reducible exact Keep.refl _) | refine Keep.trans ?_ (by with_reducible assumption) | exact Keep.refl _ | assumption)))) | trivial)).mono ?_); rintro e w1 ⟨rfl, hk1⟩
    have hZ : Bx w1 w.heap.size #[.string ByteArray.empty, .int .u64 0, .int .u64 0] 30 := (Bx.new _ _ _).keep hk1
    have k1 : Keep w w1 := (by ((repeat (first | (with_reducible assumption) | ((with_reducible refine Keep.setCell ?_ ?_ _); rotate_left; focus (first | omega | (simp; done) | (simp; omega))) | (with_reducible refine Keep.alloc ?_ _) | (with_reducible refine Keep.drewN ?_ _) | (with_reducible refine Keep.drew ?_) | (with_reducible exact Keep.refl _) | refine Keep.trans ?_ (by with_reducible assumption) | exact Keep.refl _ | assumption))))
    have hZs := hZ.three
    have zZ := hZ.lt
    clear hk1 hd
    go_wp2
    (apply bodyPost_ret; rotate_left; rfl; exact ⟨rfl, (by ((repeat (first | (with_reducible assumption) | ((with_reducible refine Keep.setCell ?_ ?_ _); rotate_left; focus (first | omega | (simp; done) | (simp; omega))) | (with_reducible refine Keep.alloc ?_ _) | (with_reducible refine Keep.drewN ?_ _) | (with_reducible refine Keep.drew ?_) | (with_reducible exact Keep.refl _) | refine Keep.trans ?_ (by with_reducible assumption) | exact Keep.refl _ | assumption))))⟩; simp [results, Tryd.results15, go_sem, U_zero, *])
theorem laws_FnExactReadCard (s : ByteArray) (w : World) (hs : s.size ≤ 9223372036854775807) (hg : Gs w) :
    Calls Tryd.prog 5 #[.string s] w fun e w' => e = .returned (.bool true) ∧ Keep w w' := by
  by_cases hn : (1048576 : Int) < s.size
  · go_enter Tryd.func5, Tryd.ntmps5
    go_wp2
    go_ret; exact ⟨rfl, (by ((repeat (first | (with_reducible assumption) | ((with_reducible refine Keep.setCell ?_ ?_ _); rotate_left; focus (first | omega | (simp; done) | (simp; omega))) | (with_reducible refine Keep.alloc ?_ _) | (with_reducible refine Keep.drewN ?_ _) | (with_reducible refine Keep.drew ?_) | (with_reducible exact Keep.refl _) | refine Keep.trans ?_ (by with_reducible assumption) | exact Keep.refl _ | assumption))))⟩
  · have hI := Aside.mk (fun W h => impl_ReadCard s W (by omega) h)
    have hJ := Aside.mk (fun W => spec_ReadCard s W (by omega) trivial)
    generalize rkN s = n at *
    generalize rkA s = a at *
    generalize rkB s = b at *
    generalize rkE s = E at *
    go_enter Tryd.func5, Tryd.ntmps5
    (go_wp2_with fail); (go_at_call 15); (refine (hJ.out _).mono ?_); rintro e w1 ⟨rfl, hk1⟩
    have k1 : Keep w w1 := (by ((repeat (first | (with_reducible assumption) | ((with_reducible refine Keep.setCell ?_ ?_ _); rotate_left; focus (first | omega | (simp; done) | (simp; omega))) | (with_reducible refine Keep.alloc ?_ _) | (with_reducible refine Keep.drewN ?_ _) | (with_reducible refine Keep.drew ?_) | (with_reducible exact Keep.refl _) | refine Keep.trans ?_ (by with_reducible assumption) | exact Keep.refl _ | assumption))))
    have z1 := k1.size
    clear hk1 hJ
    (go_wp2_with fail); (go_at_call 16); (refine (hI.out _ (hg.keep (by ((repeat (first | (with_reducible assumption) | ((with_reducible refine Keep.setCell ?_ ?_ _); rotate_left; focus (first | omega | (simp; done) | (simp; omega))) | (with_reducible refine Keep.alloc ?_ _) | (with_reducible refine Keep.drewN ?_ _) | (with_reducible refine Keep.drew ?_) | (with_reducible exact Keep.refl _) | refine Keep.trans ?_ (by with_reducible assumption) | exact Keep.refl _ | assumption)))))).mono ?_); rintro e w2 ⟨rfl, hk2⟩
    have hA : Bx w2 w1.heap.size #[.string n, .int .u64 (U a), .int .u64 (U b)] 30 := (Bx.new _ _ _).keep hk2
    have k2 : Keep w w2 := (by ((repeat (first | (with_reducible assumption) | ((with_reducible refine Keep.setCell ?_ ?_ _); rotate_left; focus (first | omega | (simp; done) | (simp; omega))) | (with_reducible refine Keep.alloc ?_ _) | (with_reducible refine Keep.drewN ?_ _) | (with_reducible refine Keep.drew ?_) | (with_reducible exact Keep.refl _) | refine Keep.trans ?_ (by with_reducible assumption) | exact Keep.refl _ | assumption))))
    have z2 := k2.size
    have zA := hA.lt
    have hAs := hA.three
    clear hk2 hI
    (go_wp2_with fail); (go_at_call 17); (refine (laws_eqCard_self _ _ _ _).mono ?_); rintro e w3 ⟨rfl, hk3⟩
    have k3 : Keep w w3 := (by ((repeat (first | (with_reducible assumption) | ((with_reducible refine Keep.setCell ?_ ?_ _); rotate_left; focus (first | omega | (simp; done) | (simp; omega))) | (with_reducible refine Keep.alloc ?_ _) | (with_reducible refine Keep.drewN ?_ _) | (with_reducible refine Keep.drew ?_) | (with_reducible exact Keep.refl _) | refine Keep.trans ?_ (by with_reducible assumption) | exact Keep.refl _ | assumption))))
    clear hk3
    go_wp2
    go_ret; exact ⟨rfl, k3⟩
end Go.Proofs.YtagldpbmadfokaaDoor

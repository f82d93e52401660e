/- The holes that sort, and keys, with a code. -/
import Derived.Test.YtbgegnbcjklmjaaDoorK5
import Derived.Test.YtbgegnbcjklmjaaDoorE7
set_option linter.unusedVariables false
set_option linter.unusedSimpArgs false
namespace Go.Proofs.YtbgegnbcjklmjaaDoor
open Go.RowKit
set_option maxHeartbeats 4000000
set_option maxRecDepth 20000
def hsL (s : ByteArray) (k st sz : Int) : List Int := cond (fieldB s k st sz) (sortL k st sz) []
theorem impl_HolesToSort (s : ByteArray) (k st sz : Int) (w : World) (hw : FieldW s k st sz) :
    Calls Tryd.prog 34 #[.agg #[.string s, .int .i8 k, .int .i16 st, .int .i16 sz]] w fun e w' => ∃ v, e = .returned (.tuple #[v, .int .i64 (fE s k st sz)]) ∧ w'.ownsRow w.heap.size 2 1 v (hsL s k st sz).length (ints (hsL s k st sz)) ∧ Keep w w' := by
  cases h1 : fieldB s k st sz <;> simp only [hsL, fE, h1, cond_true, cond_false]
  · go_enter Tryd.func34, Tryd.ntmps34
    (go_wp2_with fail); (go_at_call 53); (refine (impl_isField _ _ _ _ _ hw.1 hw.2.1 hw.2.2.1 hw.2.2.2).mono ?_); rintro e w1 ⟨rfl, hk1⟩
    rw [h1]
    go_wp2
    go_ret2; exact ⟨_, rfl, World.ownsRow_nil _ _ _ _, (by ((repeat (first | (with_reducible assumption) | ((with_reducible refine Keep.setCell ?_ ?_ _); rotate_left; focus (first | omega | (simp; done) | (simp; omega))) | (with_reducible refine Keep.alloc ?_ _) | (with_reducible refine Keep.drewN ?_ _) | (with_reducible refine Keep.drew ?_) | (with_reducible exact Keep.refl _) | refine Keep.trans ?_ (by with_reducible assumption) | exact Keep.refl _ | assumption))))⟩
  · obtain ⟨u1, u2, u3, u4, u5⟩ := fieldB_use h1
    have hz := okSz_of h1
    go_enter Tryd.func34, Tryd.ntmps34
    (go_wp2_with fail); (go_at_call 53); (refine (impl_isField _ _ _ _ _ hw.1 hw.2.1 hw.2.2.1 hw.2.2.2).mono ?_); rintro e w1 ⟨rfl, hk1⟩
    rw [h1]
    obtain ⟨hk1c, hk1f⟩ := hk1.cells; have hk1z0 : w.heap.size < w1.heap.size := (by have := hk1.size; (try simp at this); omega)
    go_wp2_with fail
    go_at_call 63
    refine (impl_sorting _ _ _ _ _ hz hw.2.2.1 u2 u3).mono ?_
    rintro e w2 ⟨v, rfl, hown, hk2⟩
    have HO := Aside.mk hown
    have hz := hk1.size
    clear hown
    go_wp2
    go_ret2; exact ⟨_, rfl, own_base HO.out (by simp at hz; omega), (by ((repeat (first | (with_reducible assumption) | ((with_reducible refine Keep.setCell ?_ ?_ _); rotate_left; focus (first | omega | (simp; done) | (simp; omega))) | (with_reducible refine Keep.alloc ?_ _) | (with_reducible refine Keep.drewN ?_ _) | (with_reducible refine Keep.drew ?_) | (with_reducible exact Keep.refl _) | refine Keep.trans ?_ (by with_reducible assumption) | exact Keep.refl _ | assumption))))⟩
theorem spec_HolesToSort (s : ByteArray) (k st sz : Int) (w : World) (hw : FieldW s k st sz) :
    Calls Tryd.prog 33 #[.agg #[.string s, .int .i8 k, .int .i16 st, .int .i16 sz]] w fun e w' => ∃ v, e = .returned (.tuple #[v, .int .i64 (fE s k st sz)]) ∧ w'.ownsRow w.heap.size 2 1 v (hsL s k st sz).length (ints (hsL s k st sz)) ∧ Keep w w' := by
  have hB := (Bx.new w #[.string s, .int .i8 k, .int .i16 st, .int .i16 sz] 39)
  obtain ⟨b0, b1, b2, b3, _, _, _, _, bz⟩ := hB.four
  cases h1 : fieldB s k st sz <;> simp only [hsL, fE, h1, cond_true, cond_false]
  · go_enter Tryd.func33, Tryd.ntmps33
    (go_wp2_with fail); (go_at_call 52); (refine (spec_l01Field _ _ _ _ _ _ _ hw.1 hw.2.1 hw.2.2.1 hw.2.2.2 b0 b1 b2 b3).mono ?_); rintro e w1 ⟨rfl, hk1⟩
    rw [h1]
    have hz := hk1.size
    go_wp2
    go_ret2; exact ⟨_, rfl, by simpa [ints] using own_empty w1 w.heap.size 2 (by simp at hz; omega), (by ((repeat (first | (with_reducible assumption) | ((with_reducible refine Keep.setCell ?_ ?_ _); rotate_left; focus (first | omega | (simp; done) | (simp; omega))) | (with_reducible refine Keep.alloc ?_ _) | (with_reducible refine Keep.drewN ?_ _) | (with_reducible refine Keep.drew ?_) | (with_reducible exact Keep.refl _) | refine Keep.trans ?_ (by with_reducible assumption) | exact Keep.refl _ | assumption))))⟩
  · obtain ⟨u1, u2, u3, u4, u5⟩ := fieldB_use h1
    have hz := okSz_of h1
    go_enter Tryd.func33, Tryd.ntmps33
    (go_wp2_with fail); (go_at_call 52); (refine (spec_l01Field _ _ _ _ _ _ _ hw.1 hw.2.1 hw.2.2.1 hw.2.2.2 b0 b1 b2 b3).mono ?_); rintro e w1 ⟨rfl, hk1⟩
    rw [h1]
    go_wp2_with fail
    go_at_call 62
    refine (spec_l02Holes s k st sz _ _ _ hz u2 u3 (hk1.cell b0) (hk1.cell b1) (hk1.cell b2) (hk1.cell b3)).mono ?_
    rintro e w2 ⟨v, rfl, hown, hk2⟩
    have HO := Aside.mk hown
    have hz := hk1.size
    clear hown
    go_wp2
    go_ret2; exact ⟨_, rfl, own_base HO.out (by simp at hz; omega), (by ((repeat (first | (with_reducible assumption) | ((with_reducible refine Keep.setCell ?_ ?_ _); rotate_left; focus (first | omega | (simp; done) | (simp; omega))) | (with_reducible refine Keep.alloc ?_ _) | (with_reducible refine Keep.drewN ?_ _) | (with_reducible refine Keep.drew ?_) | (with_reducible exact Keep.refl _) | refine Keep.trans ?_ (by with_reducible assumption) | exact Keep.refl _ | assumption))))⟩
def kyN (s : ByteArray) (k st sz : Int) (a b : Wd) : Int := cond (fieldB s k st sz) (cond (okB b) (kv a b (sortL k st sz)) 0) 0
def kyE (s : ByteArray) (k st sz : Int) (b : Wd) : Int := cond (fieldB s k st sz) (cond (okB b) 0 1) 1
theorem impl_KeyOf (s : ByteArray) (k st sz : Int) (a b : Wd) (w : World) (hw : FieldW s k st sz) :
    Calls Tryd.prog 40 #[.agg #[.string s, .int .i8 k, .int .i16 st, .int .i16 sz], .agg #[.int .u64 (U a), .int .u64 (U b)]] w fun e w' => e = .returned (.tuple #[.int .i64 (kyN s k st sz a b), .int .i64 (kyE s k st sz b)]) ∧ Keep w w' := by
  cases h1 : fieldB s k st sz
  · simp only [kyN, kyE, h1, cond_true, cond_false]
    go_enter Tryd.func40, Tryd.ntmps40
    (go_wp2_with fail); (go_at_call 53); (refine (impl_isField _ _ _ _ _ hw.1 hw.2.1 hw.2.2.1 hw.2.2.2).mono ?_); rintro e w1 ⟨rfl, hk1⟩
    rw [h1]
    obtain ⟨hk1c, hk1f⟩ := hk1.cells; have hk1z0 : w.heap.size < w1.heap.size := (by have := hk1.size; (try simp at this); omega); have hk1z1 : w.heap.size + 1 < w1.heap.size := (by have := hk1.size; (try simp at this); omega)
    go_wp2
    go_ret2; exact ⟨rfl, (by ((repeat (first | (with_reducible assumption) | ((with_reducible refine Keep.setCell ?_ ?_ _); rotate_left; focus (first | omega | (simp; done) | (simp; omega))) | (with_reducible refine Keep.alloc ?_ _) | (with_reducible refine Keep.drewN ?_ _) | (with_reducible refine Keep.drew ?_) | (with_reducible exact Keep.refl _) | refine Keep.trans ?_ (by with_reducible assumption) | exact Keep.refl _ | assumption))))⟩
  · obtain ⟨u1, u2, u3, u4, u5⟩ := fieldB_use h1
    have hz := okSz_of h1
    cases h2 : okB b <;> simp only [kyN, kyE, h1, h2, cond_true, cond_false]
    · go_enter Tryd.func40, Tryd.ntmps40
      (go_wp2_with fail); (go_at_call 53); (refine (impl_isField _ _ _ _ _ hw.1 hw.2.1 hw.2.2.1 hw.2.2.2).mono ?_); rintro e w1 ⟨rfl, hk1⟩
      rw [h1]
      obtain ⟨hk1c, hk1f⟩ := hk1.cells; have hk1z0 : w.heap.size < w1.heap.size := (by have := hk1.size; (try simp at this); omega); have hk1z1 : w.heap.size + 1 < w1.heap.size := (by have := hk1.size; (try simp at this); omega)
      (go_wp2_with fail); (go_at_call 66); (refine (impl_isMask _ _ _).mono ?_); rintro e w2 ⟨rfl, hk2⟩
      rw [h2]
      obtain ⟨hk2c, hk2f⟩ := hk2.cells; have hk2z0 : w.heap.size < w2.heap.size := (by have := hk2.size; (try simp at this); omega); have hk2z1 : w.heap.size + 1 < w2.heap.size := (by have := hk2.size; (try simp at this); omega)
      go_wp2
      go_ret2; exact ⟨rfl, (by ((repeat (first | (with_reducible assumption) | ((with_reducible refine Keep.setCell ?_ ?_ _); rotate_left; focus (first | omega | (simp; done) | (simp; omega))) | (with_reducible refine Keep.alloc ?_ _) | (with_reducible refine Keep.drewN ?_ _) | (with_reducible refine Keep.drew ?_) | (with_reducible exact Keep.refl _) | refine Keep.trans ?_ (by with_reducible assumption) | exact Keep.refl _ | assumption))))⟩
    · go_enter Tryd.func40, Tryd.ntmps40
      (go_wp2_with fail); (go_at_call 53); (refine (impl_isField _ _ _ _ _ hw.1 hw.2.1 hw.2.2.1 hw.2.2.2).mono ?_); rintro e w1 ⟨rfl, hk1⟩
      rw [h1]
      obtain ⟨hk1c, hk1f⟩ := hk1.cells; have hk1z0 : w.heap.size < w1.heap.size := (by have := hk1.size; (try simp at this); omega); have hk1z1 : w.heap.size + 1 < w1.heap.size := (by have := hk1.size; (try simp at this); omega)
      (go_wp2_with fail); (go_at_call 66); (refine (impl_isMask _ _ _).mono ?_); rintro e w2 ⟨rfl, hk2⟩
      rw [h2]
      obtain ⟨hk2c, hk2f⟩ := hk2.cells; have hk2z0 : w.heap.size < w2.heap.size := (by have := hk2.size; (try simp at this); omega); have hk2z1 : w.heap.size + 1 < w2.heap.size := (by have := hk2.size; (try simp at this); omega)
      (go_wp2_with fail); (go_at_call 67); (refine (impl_key _ _ _ _ _ _ _ hz hw.2.2.1 u2 u3).mono ?_); rintro e w3 ⟨rfl, hk3⟩
      go_wp2
      go_ret2; exact ⟨rfl, (by ((repeat (first | (with_reducible assumption) | ((with_reducible refine Keep.setCell ?_ ?_ _); rotate_left; focus (first | omega | (simp; done) | (simp; omega))) | (with_reducible refine Keep.alloc ?_ _) | (with_reducible refine Keep.drewN ?_ _) | (with_reducible refine Keep.drew ?_) | (with_reducible exact Keep.refl _) | refine Keep.trans ?_ (by with_reducible assumption) | exact Keep.refl _ | assumption))))⟩
theorem spec_KeyOf (s : ByteArray) (k st sz : Int) (a b : Wd) (w : World) (hw : FieldW s k st sz) :
    Calls Tryd.prog 38 #[.agg #[.string s, .int .i8 k, .int .i16 st, .int .i16 sz], .agg #[.int .u64 (U a), .int .u64 (U b)]] w fun e w' => e = .returned (.tuple #[.int .i64 (kyN s k st sz a b), .int .i64 (kyE s k st sz b)]) ∧ Keep w w' := by
  have hB := ((Bx.new w #[.string s, .int .i8 k, .int .i16 st, .int .i16 sz] 39).alloc (Obj.cells #[.int .u64 (U a), .int .u64 (U b)] 28))
  obtain ⟨b0, b1, b2, b3, _, _, _, _, bz⟩ := hB.four
  cases h1 : fieldB s k st sz
  · simp only [kyN, kyE, h1, cond_true, cond_false]
    go_enter Tryd.func38, Tryd.ntmps38
    (go_wp2_with fail); (go_at_call 52); (refine (spec_l01Field _ _ _ _ _ _ _ hw.1 hw.2.1 hw.2.2.1 hw.2.2.2 b0 b1 b2 b3).mono ?_); rintro e w1 ⟨rfl, hk1⟩
    rw [h1]
    obtain ⟨hk1c, hk1f⟩ := hk1.cells; have hk1z0 : w.heap.size < w1.heap.size := (by have := hk1.size; (try simp at this); omega); have hk1z1 : w.heap.size + 1 < w1.heap.size := (by have := hk1.size; (try simp at this); omega)
    go_wp2
    go_ret2; exact ⟨rfl, (by ((repeat (first | (with_reducible assumption) | ((with_reducible refine Keep.setCell ?_ ?_ _); rotate_left; focus (first | omega | (simp; done) | (simp; omega))) | (with_reducible refine Keep.alloc ?_ _) | (with_reducible refine Keep.drewN ?_ _) | (with_reducible refine Keep.drew ?_) | (with_reducible exact Keep.refl _) | refine Keep.trans ?_ (by with_reducible assumption) | exact Keep.refl _ | assumption))))⟩
  · obtain ⟨u1, u2, u3, u4, u5⟩ := fieldB_use h1
    have hz := okSz_of h1
    cases h2 : okB b <;> simp only [kyN, kyE, h1, h2, cond_true, cond_false]
    · go_enter Tryd.func38, Tryd.ntmps38
      (go_wp2_with fail); (go_at_call 52); (refine (spec_l01Field _ _ _ _ _ _ _ hw.1 hw.2.1 hw.2.2.1 hw.2.2.2 b0 b1 b2 b3).mono ?_); rintro e w1 ⟨rfl, hk1⟩
      rw [h1]
      obtain ⟨hk1c, hk1f⟩ := hk1.cells; have hk1z0 : w.heap.size < w1.heap.size := (by have := hk1.size; (try simp at this); omega); have hk1z1 : w.heap.size + 1 < w1.heap.size := (by have := hk1.size; (try simp at this); omega)
      (go_wp2_with fail); (go_at_call 64); (refine (spec_l01Mask _ _ _).mono ?_); rintro e w2 ⟨rfl, hk2⟩
      rw [h2]
      obtain ⟨hk2c, hk2f⟩ := hk2.cells; have hk2z0 : w.heap.size < w2.heap.size := (by have := hk2.size; (try simp at this); omega); have hk2z1 : w.heap.size + 1 < w2.heap.size := (by have := hk2.size; (try simp at this); omega)
      go_wp2
      go_ret2; exact ⟨rfl, (by ((repeat (first | (with_reducible assumption) | ((with_reducible refine Keep.setCell ?_ ?_ _); rotate_left; focus (first | omega | (simp; done) | (simp; omega))) | (with_reducible refine Keep.alloc ?_ _) | (with_reducible refine Keep.drewN ?_ _) | (with_reducible refine Keep.drew ?_) | (with_reducible exact Keep.refl _) | refine Keep.trans ?_ (by with_reducible assumption) | exact Keep.refl _ | assumption))))⟩
    · go_enter Tryd.func38, Tryd.ntmps38
      (go_wp2_with fail); (go_at_call 52); (refine (spec_l01Field _ _ _ _ _ _ _ hw.1 hw.2.1 hw.2.2.1 hw.2.2.2 b0 b1 b2 b3).mono ?_); rintro e w1 ⟨rfl, hk1⟩
      rw [h1]
      obtain ⟨hk1c, hk1f⟩ := hk1.cells; have hk1z0 : w.heap.size < w1.heap.size := (by have := hk1.size; (try simp at this); omega); have hk1z1 : w.heap.size + 1 < w1.heap.size := (by have := hk1.size; (try simp at this); omega)
      (go_wp2_with fail); (go_at_call 64); (refine (spec_l01Mask _ _ _).mono ?_); rintro e w2 ⟨rfl, hk2⟩
      rw [h2]
      obtain ⟨hk2c, hk2f⟩ := hk2.cells; have hk2z0 : w.heap.size < w2.heap.size := (by have := hk2.size; (try simp at this); omega); have hk2z1 : w.heap.size + 1 < w2.heap.size := (by have := hk2.size; (try simp at this); omega)
      have k12 := hk1.trans hk2
      (go_wp2_with fail); (go_at_call 65); (refine (spec_l02Key s k st sz _ _ _ _ _ hz u2 u3 (k12.cell b0) (k12.cell b1) (k12.cell b2) (k12.cell b3)).mono ?_); rintro e w3 ⟨rfl, hk3⟩
      go_wp2
      go_ret2; exact ⟨rfl, (by ((repeat (first | (with_reducible assumption) | ((with_reducible refine Keep.setCell ?_ ?_ _); rotate_left; focus (first | omega | (simp; done) | (simp; omega))) | (with_reducible refine Keep.alloc ?_ _) | (with_reducible refine Keep.drewN ?_ _) | (with_reducible refine Keep.drew ?_) | (with_reducible exact Keep.refl _) | refine Keep.trans ?_ (by with_reducible assumption) | exact Keep.refl _ | assumption))))⟩
end Go.Proofs.YtbgegnbcjklmjaaDoor

/- Fields: how many holes, and which are valid. -/
import Derived.Test.YtpmilcfppcmodaaDoorN1
set_option linter.unusedVariables false
set_option linter.unusedSimpArgs false
namespace Go.Proofs.YtpmilcfppcmodaaDoor
open Go.RowKit
set_option maxHeartbeats 1000000
def widthN (k n : Int) : Int := if k = 1 then 4 * n else if k = 2 then 5 * n else if k = 3 then n + 1 else n
def mostW (k : Int) : Int := if k = 0 then 24 else if k = 1 then 4 else if k = 2 then 4 else if k = 3 then 12 else 0
def I8 (n : Int) : Prop := -128 ≤ n ∧ n ≤ 127
def fieldB (s : ByteArray) (k st sz : Int) : Bool := nameB s && (inB sz 1 (mostW k) && inB st 0 (96 - widthN k sz))
theorem impl_many (s : ByteArray) (k st sz : Int) (w : World) (hz : I16 sz) :
    Calls Tryd.prog 142 #[.agg #[.string s, .int .i8 k, .int .i16 st, .int .i16 sz]] w fun e w' => e = .returned (.int .i64 (widthN k sz)) ∧ Keep w w' := by
  obtain ⟨z1, z2⟩ := hz
  have e0 : IntKind.i64.wrap sz = sz := wrapI64 ⟨by omega, by omega⟩
  have e4 : IntKind.i64.wrap (4 * sz) = 4 * sz := wrapI64 ⟨by omega, by omega⟩
  have e5 : IntKind.i64.wrap (5 * sz) = 5 * sz := wrapI64 ⟨by omega, by omega⟩
  have e1 : IntKind.i64.wrap (sz + 1) = sz + 1 := wrapI64 ⟨by omega, by omega⟩
  by_cases h1 : k = 1
  · subst h1
    go_enter Tryd.func142, Tryd.ntmps142
    go_wp2
    go_ret; exact ⟨rfl, (by ((repeat (first | (with_reducible assumption) | ((with_reducible refine Keep.setCell ?_ ?_ _); rotate_left; focus (first | omega | (simp; done) | (simp; omega))) | (with_reducible refine Keep.alloc ?_ _) | (with_reducible refine Keep.drewN ?_ _) | (with_reducible refine Keep.drew ?_) | (with_reducible exact Keep.refl _) | refine Keep.trans ?_ (by with_reducible assumption) | exact Keep.refl _ | assumption))))⟩
  · by_cases h2 : k = 2
    · subst h2
      go_enter Tryd.func142, Tryd.ntmps142
      go_wp2
      go_ret; exact ⟨rfl, (by ((repeat (first | (with_reducible assumption) | ((with_reducible refine Keep.setCell ?_ ?_ _); rotate_left; focus (first | omega | (simp; done) | (simp; omega))) | (with_reducible refine Keep.alloc ?_ _) | (with_reducible refine Keep.drewN ?_ _) | (with_reducible refine Keep.drew ?_) | (with_reducible exact Keep.refl _) | refine Keep.trans ?_ (by with_reducible assumption) | exact Keep.refl _ | assumption))))⟩
    · by_cases h3 : k = 3
      · subst h3
        go_enter Tryd.func142, Tryd.ntmps142
        go_wp2
        go_ret; exact ⟨rfl, (by ((repeat (first | (with_reducible assumption) | ((with_reducible refine Keep.setCell ?_ ?_ _); rotate_left; focus (first | omega | (simp; done) | (simp; omega))) | (with_reducible refine Keep.alloc ?_ _) | (with_reducible refine Keep.drewN ?_ _) | (with_reducible refine Keep.drew ?_) | (with_reducible exact Keep.refl _) | refine Keep.trans ?_ (by with_reducible assumption) | exact Keep.refl _ | assumption))))⟩
      · have e : widthN k sz = sz := by unfold widthN; rw [if_neg h1, if_neg h2, if_neg h3]
        rw [e]
        go_enter Tryd.func142, Tryd.ntmps142
        go_wp2
        go_ret; exact ⟨rfl, (by ((repeat (first | (with_reducible assumption) | ((with_reducible refine Keep.setCell ?_ ?_ _); rotate_left; focus (first | omega | (simp; done) | (simp; omega))) | (with_reducible refine Keep.alloc ?_ _) | (with_reducible refine Keep.drewN ?_ _) | (with_reducible refine Keep.drew ?_) | (with_reducible exact Keep.refl _) | refine Keep.trans ?_ (by with_reducible assumption) | exact Keep.refl _ | assumption))))⟩
theorem spec_l01Width (s : ByteArray) (k st sz : Int) (g o : Nat) (w : World) (hz : I16 sz)
    (c0 : w.cell? ⟨g, o, none⟩ = some (.string s)) (c1 : w.cell? ⟨g, o + 1, none⟩ = some (.int .i8 k)) (c2 : w.cell? ⟨g, o + 2, none⟩ = some (.int .i16 st)) (c3 : w.cell? ⟨g, o + 3, none⟩ = some (.int .i16 sz)) :
    Calls Tryd.prog 117 #[.pointer (some ⟨g, o, none⟩)] w fun e w' => e = .returned (.int .i64 (widthN k sz)) ∧ Keep w w' := by
  obtain ⟨z1, z2⟩ := hz
  have e0 : IntKind.i64.wrap sz = sz := wrapI64 ⟨by omega, by omega⟩
  have e4 : IntKind.i64.wrap (4 * sz) = 4 * sz := wrapI64 ⟨by omega, by omega⟩
  have e5 : IntKind.i64.wrap (5 * sz) = 5 * sz := wrapI64 ⟨by omega, by omega⟩
  have e1 : IntKind.i64.wrap (sz + 1) = sz + 1 := wrapI64 ⟨by omega, by omega⟩
  by_cases h1 : k = 1
  · subst h1
    go_enter Tryd.func117, Tryd.ntmps117
    go_wp2
    go_ret; exact ⟨rfl, (by ((repeat (first | (with_reducible assumption) | ((with_reducible refine Keep.setCell ?_ ?_ _); rotate_left; focus (first | omega | (simp; done) | (simp; omega))) | (with_reducible refine Keep.alloc ?_ _) | (with_reducible refine Keep.drewN ?_ _) | (with_reducible refine Keep.drew ?_) | (with_reducible exact Keep.refl _) | refine Keep.trans ?_ (by with_reducible assumption) | exact Keep.refl _ | assumption))))⟩
  · by_cases h2 : k = 2
    · subst h2
      go_enter Tryd.func117, Tryd.ntmps117
      go_wp2
      go_ret; exact ⟨rfl, (by ((repeat (first | (with_reducible assumption) | ((with_reducible refine Keep.setCell ?_ ?_ _); rotate_left; focus (first | omega | (simp; done) | (simp; omega))) | (with_reducible refine Keep.alloc ?_ _) | (with_reducible refine Keep.drewN ?_ _) | (with_reducible refine Keep.drew ?_) | (with_reducible exact Keep.refl _) | refine Keep.trans ?_ (by with_reducible assumption) | exact Keep.refl _ | assumption))))⟩
    · by_cases h3 : k = 3
      · subst h3
        go_enter Tryd.func117, Tryd.ntmps117
        go_wp2
        go_ret; exact ⟨rfl, (by ((repeat (first | (with_reducible assumption) | ((with_reducible refine Keep.setCell ?_ ?_ _); rotate_left; focus (first | omega | (simp; done) | (simp; omega))) | (with_reducible refine Keep.alloc ?_ _) | (with_reducible refine Keep.drewN ?_ _) | (with_reducible refine Keep.drew ?_) | (with_reducible exact Keep.refl _) | refine Keep.trans ?_ (by with_reducible assumption) | exact Keep.refl _ | assumption))))⟩
      · have e : widthN k sz = sz := by unfold widthN; rw [if_neg h1, if_neg h2, if_neg h3]
        rw [e]
        go_enter Tryd.func117, Tryd.ntmps117
        go_wp2
        go_ret; exact ⟨rfl, (by ((repeat (first | (with_reducible assumption) | ((with_reducible refine Keep.setCell ?_ ?_ _); rotate_left; focus (first | omega | (simp; done) | (simp; omega))) | (with_reducible refine Keep.alloc ?_ _) | (with_reducible refine Keep.drewN ?_ _) | (with_reducible refine Keep.drew ?_) | (with_reducible exact Keep.refl _) | refine Keep.trans ?_ (by with_reducible assumption) | exact Keep.refl _ | assumption))))⟩
end Go.Proofs.YtpmilcfppcmodaaDoor

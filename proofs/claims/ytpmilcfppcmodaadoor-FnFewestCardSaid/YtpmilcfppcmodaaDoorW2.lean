/- The laws of what is told by a truth value and a code. -/
import Derived.Test.YtpmilcfppcmodaaDoorQ1
import Derived.Test.YtpmilcfppcmodaaDoorM4
import Derived.Test.YtpmilcfppcmodaaDoorMono
set_option linter.unusedVariables false
set_option linter.unusedSimpArgs false
namespace Go.Proofs.YtpmilcfppcmodaaDoor
open Go.RowKit
set_option maxHeartbeats 1000000
theorem laws_toQuery (a b c d : Wd) (w : World) :
    Calls Tryd.prog 46 #[.agg #[.int .u64 (U a), .int .u64 (U b), .int .u64 (U c), .int .u64 (U d)]] w fun e w' => e = .returned (.agg #[.int .u64 (U a), .int .u64 (U b), .int .u64 (U c), .int .u64 (U d)]) ∧ Keep w w' := by
  go_enter Tryd.func46, Tryd.ntmps46
  go_wp2_with (first
    | (go_at_call 102; have hA2 := hA; refine (laws_toMask _ _ _).mono ?_; rintro e w2 ⟨rfl, hk2⟩
       have hR2 := ((hR.set' (by simp) _).set' (by simp) _).keep hk2
       have hO2 : Bx w2 (w.heap.size + 1 + 1) #[.int .u64 (U a), .int .u64 (U b), .int .u64 0, .int .u64 0] 35 := ((hO.set _).set _).keep hk2
       have kk : Keep w w2 := (by ((repeat (first | (with_reducible assumption) | ((with_reducible refine Keep.setCell ?_ ?_ _); rotate_left; focus (first | omega | (simp; done) | (simp; omega))) | (with_reducible refine Keep.alloc ?_ _) | (with_reducible refine Keep.drewN ?_ _) | (with_reducible refine Keep.drew ?_) | (with_reducible exact Keep.refl _) | refine Keep.trans ?_ (by with_reducible assumption) | exact Keep.refl _ | assumption))))
       clear hA2 hA hR hO hAs hRs hOs
       obtain ⟨r0, r1, r2, r3, r4, r5, r6, r7, r8⟩ := hR2.four
       obtain ⟨o0, o1, o2, o3, o4, o5, o6, o7, o8⟩ := hO2.four
       clear hR2 hO2 hk hk2)
    | (go_at_call 102; refine (laws_toMask _ _ _).mono ?_; rintro e w1 ⟨rfl, hk⟩
       have hA := (((Bx.new w #[.int .u64 (U a), .int .u64 (U b), .int .u64 (U c), .int .u64 (U d)] 66).alloc _).alloc _).keep hk
       have hR := ((Bx.new1 w _ #[.int .u64 0, .int .u64 0, .int .u64 0, .int .u64 0] 35).alloc _).keep hk
       have hO := (Bx.new2 w _ _ #[.int .u64 0, .int .u64 0, .int .u64 0, .int .u64 0] 35).keep hk
       have hAs := hA.four
       have hRs := hR.four
       have hOs := hO.four))
  (apply bodyPost_ret; rotate_left; rfl; exact ⟨rfl, (by ((repeat (first | (with_reducible assumption) | ((with_reducible refine Keep.setCell ?_ ?_ _); rotate_left; focus (first | omega | (simp; done) | (simp; omega))) | (with_reducible refine Keep.alloc ?_ _) | (with_reducible refine Keep.drewN ?_ _) | (with_reducible refine Keep.drew ?_) | (with_reducible exact Keep.refl _) | refine Keep.trans ?_ (by with_reducible assumption) | exact Keep.refl _ | assumption))))⟩; simp [results, Tryd.results46, go_sem, U_zero, *])
end Go.Proofs.YtpmilcfppcmodaaDoor

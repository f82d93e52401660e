/- Regions whose values come out by themselves. -/
import Derived.Test.YtpmilcfppcmodaaDoorMono
set_option linter.unusedVariables false
set_option linter.unusedSimpArgs false
namespace Go.Proofs.YtpmilcfppcmodaaDoor
open Go.RowKit
theorem Fx.self (v : Value) (w : World) : Fx v v w := rfl
theorem gives_fx {P : Program} {f : FuncId} {args : Array Value} {w : World} {X : Value} (h : Calls P f args w fun e w' => e = .returned X ∧ Keep w w') :
    Calls P f args w fun e w' => ∃ u, e = .returned u ∧ Keep w w' ∧ Fx X u w' := h.mono fun e w' ⟨h1, h2⟩ => ⟨X, h1, h2, rfl⟩
end Go.Proofs.YtpmilcfppcmodaaDoor

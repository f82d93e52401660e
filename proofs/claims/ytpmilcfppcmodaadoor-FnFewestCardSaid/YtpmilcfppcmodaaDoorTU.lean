/- Facts of a drawn region on rows of the call's own: in a tuple with a code, and by themselves. -/
import Derived.Test.YtpmilcfppcmodaaDoorAu
import Derived.Test.YtpmilcfppcmodaaDoorOW
set_option linter.unusedVariables false
set_option linter.unusedSimpArgs false
namespace Go.Proofs.YtpmilcfppcmodaaDoor
open Go.RowKit
/-- A row of the call's own and a code. -/
def TupI (B : Nat) (T : TypeId) (sz n : Nat) (xs : List Value) (E : Int) : Fact := fun v w => ∃ v0, v = .tuple #[v0, .int .i64 E] ∧ w.ownsRow B T sz v0 n xs
theorem TupI.mono {B : Nat} {T : TypeId} {sz n : Nat} {xs : List Value} {E : Int} : MonoFact (TupI B T sz n xs E) := fun _ _ _ ⟨v0, h1, h2⟩ k => ⟨v0, h1, own_keep h2 k⟩
/-- A whole block that is a row of the call's own. -/
def Osl (B : Nat) (T : TypeId) (sz n : Nat) (xs : List Value) : Fact := fun v w => ∃ g, v = .slice (some ⟨g, 0, none⟩) n n ∧ w.ownsRow B T sz (.slice (some ⟨g, 0, none⟩) n n) n xs
theorem Osl.mono {B : Nat} {T : TypeId} {sz n : Nat} {xs : List Value} : MonoFact (Osl B T sz n xs) := fun _ _ _ ⟨g, h1, h2⟩ k => ⟨g, h1, own_keep h2 k⟩
/-- A row of the call's own. -/
def Orow (B : Nat) (T : TypeId) (sz n : Nat) (xs : List Value) : Fact := fun v w => w.ownsRow B T sz v n xs
theorem Orow.mono {B : Nat} {T : TypeId} {sz n : Nat} {xs : List Value} : MonoFact (Orow B T sz n xs) := fun _ _ _ h k => own_keep h k
theorem gives_osl {P : Program} {f : FuncId} {args : Array Value} {w : World} {B : Nat} {T : TypeId} {sz n : Nat} {xs : List Value}
    (h : Calls P f args w fun e w' => ∃ g, e = .returned (.slice (some ⟨g, 0, none⟩) n n) ∧ w'.ownsRow w.heap.size T sz (.slice (some ⟨g, 0, none⟩) n n) n xs ∧ Keep w w') (hB : B ≤ w.heap.size) :
    Calls P f args w fun e w' => ∃ u, e = .returned u ∧ Keep w w' ∧ Osl B T sz n xs u w' := h.mono fun e w' ⟨g, h1, h2, h3⟩ => ⟨_, h1, h3, g, rfl, own_base h2 hB⟩
theorem gives_tupI {P : Program} {f : FuncId} {args : Array Value} {w : World} {B : Nat} {T : TypeId} {sz n : Nat} {xs : List Value} {E : Int}
    (h : Calls P f args w fun e w' => ∃ v, e = .returned (.tuple #[v, .int .i64 E]) ∧ w'.ownsRow w.heap.size T sz v n xs ∧ Keep w w') (hB : B ≤ w.heap.size) :
    Calls P f args w fun e w' => ∃ u, e = .returned u ∧ Keep w w' ∧ TupI B T sz n xs E u w' := h.mono fun e w' ⟨v, h1, h2, h3⟩ => ⟨_, h1, h3, v, rfl, own_base h2 hB⟩
end Go.Proofs.YtpmilcfppcmodaaDoor

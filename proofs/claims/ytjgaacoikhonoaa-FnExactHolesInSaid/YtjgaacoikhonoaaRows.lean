/-
  No cell of these rows narrows 'for every input' (looked for: loops, veiled, ifaces, maps, wideKeys, modest, calm, conditions, laid).
  DERIVED. THE GIVEN ROWS OF THIS SEAT. 12 by the template 'for every input the law returns true; each argument reads behind the call as it read before'; 0 by the template 'total and deterministic' (their statements: YtjgaacoikhonoaaTotals.lean).
  GIVEN WITH THE SEED: the statements are not yours to turn. If you find one false, say at which input.
  Laid BY PROGRAM, IN A SANDBOX (cutbox-rows.mjs): the forced cells as the released guide's own fill.sh prints them over the translation a48a501e4f7f5f53… (all of the seat's roots in one cut). By AI agents, Wed Nov 11 2026. No macro, syntax, notation, axiom, sorry.
-/
import Derived.Test.YtjgaacoikhonoaaChecked
import GoSem.Claim
import GoSem.ClaimJoined
import GoSem.ClaimMapViews
import Derived.JoinedTies
import Derived.KernelRfl
namespace Go.Proofs.Ytjgaacoikhonoaa
/- THE CELL 'sum', in the pinned program and in every row, IS THE sha256 OF THE DUMP (.gsa) THAT YtjgaacoikhonoaaProg.lean LOADS. Nothing in Lean hashes anything: it is a label: what it is worth is what the hold of that sum in a sandbox is worth. -/
noncomputable def Try.pinned : Pinned := { name := "ytjgaacoikhonoaa", sum := "a48a501e4f7f5f535e93009ff69a2121b832c60866370fb889e9a6f76b151eee", checked := Try.checked }
namespace Rows
def none {H : Type} : Left H := { results := [], args := [] }

/-- 'laws.FnExactMeetMasks': WHATEVER THE INPUT: true; the input reads as it did. -/
def fnExactMeetMasksSpec : ChangeSpec := { name := "fnExactMeetMasks", fn := fun _ => fun
  | [d1, d2] => { results := [.lit (.bool true)], args := [d1, d2] }
  | _ => none }
def fnExactMeetMasksRow : OpenClaim := { program := "ytjgaacoikhonoaa", sum := "a48a501e4f7f5f535e93009ff69a2121b832c60866370fb889e9a6f76b151eee", func := "loop.example/g01261/laws.FnExactMeetMasks", spec := "fnExactMeetMasks", apart := false }
def FnExactMeetMasksSaid : Prop := fnExactMeetMasksRow.holds Try.pinned (OpenSpec.ofChange fnExactMeetMasksSpec)

/-- ITS FALSE NEIGHBOUR: 'it returns false'. Refute it at one input. -/
def fnExactMeetMasksWrong : ChangeSpec := { name := "fnExactMeetMasks", fn := fun _ => fun
  | [d1, d2] => { results := [.lit (.bool false)], args := [d1, d2] }
  | _ => none }
def FnExactMeetMasksWrongFalsely : Prop := fnExactMeetMasksRow.holds Try.pinned (OpenSpec.ofChange fnExactMeetMasksWrong)

/-- 'laws.FnExactValidQuery': WHATEVER THE INPUT: true; the input reads as it did. -/
def fnExactValidQuerySpec : ChangeSpec := { name := "fnExactValidQuery", fn := fun _ => fun
  | [d] => { results := [.lit (.bool true)], args := [d] }
  | _ => none }
def fnExactValidQueryRow : OpenClaim := { program := "ytjgaacoikhonoaa", sum := "a48a501e4f7f5f535e93009ff69a2121b832c60866370fb889e9a6f76b151eee", func := "loop.example/g01261/laws.FnExactValidQuery", spec := "fnExactValidQuery", apart := false }
def FnExactValidQuerySaid : Prop := fnExactValidQueryRow.holds Try.pinned (OpenSpec.ofChange fnExactValidQuerySpec)

/-- ITS FALSE NEIGHBOUR: 'it returns false'. Refute it at one input. -/
def fnExactValidQueryWrong : ChangeSpec := { name := "fnExactValidQuery", fn := fun _ => fun
  | [d] => { results := [.lit (.bool false)], args := [d] }
  | _ => none }
def FnExactValidQueryWrongFalsely : Prop := fnExactValidQueryRow.holds Try.pinned (OpenSpec.ofChange fnExactValidQueryWrong)

/-- 'laws.FnExactHasHole': WHATEVER THE INPUT: true; the input reads as it did. -/
def fnExactHasHoleSpec : ChangeSpec := { name := "fnExactHasHole", fn := fun _ => fun
  | [d1, d2] => { results := [.lit (.bool true)], args := [d1, d2] }
  | _ => none }
def fnExactHasHoleRow : OpenClaim := { program := "ytjgaacoikhonoaa", sum := "a48a501e4f7f5f535e93009ff69a2121b832c60866370fb889e9a6f76b151eee", func := "loop.example/g01261/laws.FnExactHasHole", spec := "fnExactHasHole", apart := false }
def FnExactHasHoleSaid : Prop := fnExactHasHoleRow.holds Try.pinned (OpenSpec.ofChange fnExactHasHoleSpec)

/-- ITS FALSE NEIGHBOUR: 'it returns false'. Refute it at one input. -/
def fnExactHasHoleWrong : ChangeSpec := { name := "fnExactHasHole", fn := fun _ => fun
  | [d1, d2] => { results := [.lit (.bool false)], args := [d1, d2] }
  | _ => none }
def FnExactHasHoleWrongFalsely : Prop := fnExactHasHoleRow.holds Try.pinned (OpenSpec.ofChange fnExactHasHoleWrong)

/-- 'laws.FnExactCountHoles': WHATEVER THE INPUT: true; the input reads as it did. -/
def fnExactCountHolesSpec : ChangeSpec := { name := "fnExactCountHoles", fn := fun _ => fun
  | [d] => { results := [.lit (.bool true)], args := [d] }
  | _ => none }
def fnExactCountHolesRow : OpenClaim := { program := "ytjgaacoikhonoaa", sum := "a48a501e4f7f5f535e93009ff69a2121b832c60866370fb889e9a6f76b151eee", func := "loop.example/g01261/laws.FnExactCountHoles", spec := "fnExactCountHoles", apart := false }
def FnExactCountHolesSaid : Prop := fnExactCountHolesRow.holds Try.pinned (OpenSpec.ofChange fnExactCountHolesSpec)

/-- ITS FALSE NEIGHBOUR: 'it returns false'. Refute it at one input. -/
def fnExactCountHolesWrong : ChangeSpec := { name := "fnExactCountHoles", fn := fun _ => fun
  | [d] => { results := [.lit (.bool false)], args := [d] }
  | _ => none }
def FnExactCountHolesWrongFalsely : Prop := fnExactCountHolesRow.holds Try.pinned (OpenSpec.ofChange fnExactCountHolesWrong)

/-- 'laws.FnExactDropsCard': WHATEVER THE INPUT: true; the input reads as it did. -/
def fnExactDropsCardSpec : ChangeSpec := { name := "fnExactDropsCard", fn := fun _ => fun
  | [d1, d2] => { results := [.lit (.bool true)], args := [d1, d2] }
  | _ => none }
def fnExactDropsCardRow : OpenClaim := { program := "ytjgaacoikhonoaa", sum := "a48a501e4f7f5f535e93009ff69a2121b832c60866370fb889e9a6f76b151eee", func := "loop.example/g01261/laws.FnExactDropsCard", spec := "fnExactDropsCard", apart := false }
def FnExactDropsCardSaid : Prop := fnExactDropsCardRow.holds Try.pinned (OpenSpec.ofChange fnExactDropsCardSpec)

/-- ITS FALSE NEIGHBOUR: 'it returns false'. Refute it at one input. -/
def fnExactDropsCardWrong : ChangeSpec := { name := "fnExactDropsCard", fn := fun _ => fun
  | [d1, d2] => { results := [.lit (.bool false)], args := [d1, d2] }
  | _ => none }
def FnExactDropsCardWrongFalsely : Prop := fnExactDropsCardRow.holds Try.pinned (OpenSpec.ofChange fnExactDropsCardWrong)

/-- 'laws.FnExactMixPart': WHATEVER THE INPUT: true; the input reads as it did. -/
def fnExactMixPartSpec : ChangeSpec := { name := "fnExactMixPart", fn := fun _ => fun
  | [d] => { results := [.lit (.bool true)], args := [d] }
  | _ => none }
def fnExactMixPartRow : OpenClaim := { program := "ytjgaacoikhonoaa", sum := "a48a501e4f7f5f535e93009ff69a2121b832c60866370fb889e9a6f76b151eee", func := "loop.example/g01261/laws.FnExactMixPart", spec := "fnExactMixPart", apart := false }
def FnExactMixPartSaid : Prop := fnExactMixPartRow.holds Try.pinned (OpenSpec.ofChange fnExactMixPartSpec)

/-- ITS FALSE NEIGHBOUR: 'it returns false'. Refute it at one input. -/
def fnExactMixPartWrong : ChangeSpec := { name := "fnExactMixPart", fn := fun _ => fun
  | [d] => { results := [.lit (.bool false)], args := [d] }
  | _ => none }
def FnExactMixPartWrongFalsely : Prop := fnExactMixPartRow.holds Try.pinned (OpenSpec.ofChange fnExactMixPartWrong)

/-- 'laws.FnExactMaskOf': WHATEVER THE INPUT: true; the input reads as it did. -/
def fnExactMaskOfSpec : ChangeSpec := { name := "fnExactMaskOf", fn := fun _ => fun
  | [d] => { results := [.lit (.bool true)], args := [d] }
  | _ => none }
def fnExactMaskOfRow : OpenClaim := { program := "ytjgaacoikhonoaa", sum := "a48a501e4f7f5f535e93009ff69a2121b832c60866370fb889e9a6f76b151eee", func := "loop.example/g01261/laws.FnExactMaskOf", spec := "fnExactMaskOf", apart := false }
def FnExactMaskOfSaid : Prop := fnExactMaskOfRow.holds Try.pinned (OpenSpec.ofChange fnExactMaskOfSpec)

/-- ITS FALSE NEIGHBOUR: 'it returns false'. Refute it at one input. -/
def fnExactMaskOfWrong : ChangeSpec := { name := "fnExactMaskOf", fn := fun _ => fun
  | [d] => { results := [.lit (.bool false)], args := [d] }
  | _ => none }
def FnExactMaskOfWrongFalsely : Prop := fnExactMaskOfRow.holds Try.pinned (OpenSpec.ofChange fnExactMaskOfWrong)

/-- 'laws.FnExactBothQueries': WHATEVER THE INPUT: true; the input reads as it did. -/
def fnExactBothQueriesSpec : ChangeSpec := { name := "fnExactBothQueries", fn := fun _ => fun
  | [d1, d2] => { results := [.lit (.bool true)], args := [d1, d2] }
  | _ => none }
def fnExactBothQueriesRow : OpenClaim := { program := "ytjgaacoikhonoaa", sum := "a48a501e4f7f5f535e93009ff69a2121b832c60866370fb889e9a6f76b151eee", func := "loop.example/g01261/laws.FnExactBothQueries", spec := "fnExactBothQueries", apart := false }
def FnExactBothQueriesSaid : Prop := fnExactBothQueriesRow.holds Try.pinned (OpenSpec.ofChange fnExactBothQueriesSpec)

/-- ITS FALSE NEIGHBOUR: 'it returns false'. Refute it at one input. -/
def fnExactBothQueriesWrong : ChangeSpec := { name := "fnExactBothQueries", fn := fun _ => fun
  | [d1, d2] => { results := [.lit (.bool false)], args := [d1, d2] }
  | _ => none }
def FnExactBothQueriesWrongFalsely : Prop := fnExactBothQueriesRow.holds Try.pinned (OpenSpec.ofChange fnExactBothQueriesWrong)

/-- 'laws.FnExactWithHole': WHATEVER THE INPUT: true; the input reads as it did. -/
def fnExactWithHoleSpec : ChangeSpec := { name := "fnExactWithHole", fn := fun _ => fun
  | [d1, d2, d3] => { results := [.lit (.bool true)], args := [d1, d2, d3] }
  | _ => none }
def fnExactWithHoleRow : OpenClaim := { program := "ytjgaacoikhonoaa", sum := "a48a501e4f7f5f535e93009ff69a2121b832c60866370fb889e9a6f76b151eee", func := "loop.example/g01261/laws.FnExactWithHole", spec := "fnExactWithHole", apart := false }
def FnExactWithHoleSaid : Prop := fnExactWithHoleRow.holds Try.pinned (OpenSpec.ofChange fnExactWithHoleSpec)

/-- ITS FALSE NEIGHBOUR: 'it returns false'. Refute it at one input. -/
def fnExactWithHoleWrong : ChangeSpec := { name := "fnExactWithHole", fn := fun _ => fun
  | [d1, d2, d3] => { results := [.lit (.bool false)], args := [d1, d2, d3] }
  | _ => none }
def FnExactWithHoleWrongFalsely : Prop := fnExactWithHoleRow.holds Try.pinned (OpenSpec.ofChange fnExactWithHoleWrong)

/-- 'laws.FnExactHolesIn': WHATEVER THE INPUT: true; the input reads as it did. -/
def fnExactHolesInSpec : ChangeSpec := { name := "fnExactHolesIn", fn := fun _ => fun
  | [d] => { results := [.lit (.bool true)], args := [d] }
  | _ => none }
def fnExactHolesInRow : OpenClaim := { program := "ytjgaacoikhonoaa", sum := "a48a501e4f7f5f535e93009ff69a2121b832c60866370fb889e9a6f76b151eee", func := "loop.example/g01261/laws.FnExactHolesIn", spec := "fnExactHolesIn", apart := false }
def FnExactHolesInSaid : Prop := fnExactHolesInRow.holds Try.pinned (OpenSpec.ofChange fnExactHolesInSpec)

/-- ITS FALSE NEIGHBOUR: 'it returns false'. Refute it at one input. -/
def fnExactHolesInWrong : ChangeSpec := { name := "fnExactHolesIn", fn := fun _ => fun
  | [d] => { results := [.lit (.bool false)], args := [d] }
  | _ => none }
def FnExactHolesInWrongFalsely : Prop := fnExactHolesInRow.holds Try.pinned (OpenSpec.ofChange fnExactHolesInWrong)

/-- 'laws.FnExactPassesOf': WHATEVER THE INPUT: true; the input reads as it did. -/
def fnExactPassesOfSpec : ChangeSpec := { name := "fnExactPassesOf", fn := fun _ => fun
  | [d] => { results := [.lit (.bool true)], args := [d] }
  | _ => none }
def fnExactPassesOfRow : OpenClaim := { program := "ytjgaacoikhonoaa", sum := "a48a501e4f7f5f535e93009ff69a2121b832c60866370fb889e9a6f76b151eee", func := "loop.example/g01261/laws.FnExactPassesOf", spec := "fnExactPassesOf", apart := false }
def FnExactPassesOfSaid : Prop := fnExactPassesOfRow.holds Try.pinned (OpenSpec.ofChange fnExactPassesOfSpec)

/-- ITS FALSE NEIGHBOUR: 'it returns false'. Refute it at one input. -/
def fnExactPassesOfWrong : ChangeSpec := { name := "fnExactPassesOf", fn := fun _ => fun
  | [d] => { results := [.lit (.bool false)], args := [d] }
  | _ => none }
def FnExactPassesOfWrongFalsely : Prop := fnExactPassesOfRow.holds Try.pinned (OpenSpec.ofChange fnExactPassesOfWrong)

/-- 'laws.FnMasks': WHATEVER THE INPUT: true; the input reads as it did. -/
def fnMasksSpec : ChangeSpec := { name := "fnMasks", fn := fun _ => fun
  | [d1, d2] => { results := [.lit (.bool true)], args := [d1, d2] }
  | _ => none }
def fnMasksRow : OpenClaim := { program := "ytjgaacoikhonoaa", sum := "a48a501e4f7f5f535e93009ff69a2121b832c60866370fb889e9a6f76b151eee", func := "loop.example/g01261/laws.FnMasks", spec := "fnMasks", apart := false }
def FnMasksSaid : Prop := fnMasksRow.holds Try.pinned (OpenSpec.ofChange fnMasksSpec)

/-- ITS FALSE NEIGHBOUR: 'it returns false'. Refute it at one input. -/
def fnMasksWrong : ChangeSpec := { name := "fnMasks", fn := fun _ => fun
  | [d1, d2] => { results := [.lit (.bool false)], args := [d1, d2] }
  | _ => none }
def FnMasksWrongFalsely : Prop := fnMasksRow.holds Try.pinned (OpenSpec.ofChange fnMasksWrong)

/- THE SECOND FORM. 'bulk': how many values and letters a reading holds, each counted each time it is reached (what is shared counts as often as it is met; a slice's spare places count too). A statement '..UptoSaid' is the law's where the arguments, and the package variables that the reading takes, are together of bulk at most 1048576: NARROWER than '..Said'. Prove '..Said' where nothing that the law and all that it calls make is longer than what came in: it says more and counts as full. Else prove '..UptoSaid'. A law counts once. -/
mutual
def uptoBulk {H : Type} : DataW H → Nat
  | .lit (.string bytes) => bytes.length + 1
  | .lit _ => 1
  | .nil => 1
  | .ptr d => uptoBulk d + 1
  | .slice elems spare => uptoBulkAll elems + uptoBulkAll spare + 1
  | .agg parts => uptoBulkAll parts + 1
  | .iface _ d => uptoBulk d + 1
  | .map entries => uptoBulkEntries entries + 1
  | .held _ => 1
def uptoBulkAll {H : Type} : List (DataW H) → Nat
  | [] => 0
  | d :: r => uptoBulk d + uptoBulkAll r
def uptoBulkEntries {H : Type} : List (Lit × DataW H) → Nat
  | [] => 0
  | x :: r => uptoBulkEntry x + uptoBulkEntries r
def uptoBulkEntry {H : Type} : Lit × DataW H → Nat
  | (.string bytes, d) => bytes.length + uptoBulk d + 1
  | (_, d) => uptoBulk d + 1
 end
def uptoSmall : (H : Type) → List (DataW H) → Bool := fun _ ds => decide (uptoBulkAll ds ≤ 1048576)
def OpenSpec.upto (s : _root_.Go.ChangeSpec) : _root_.Go.OpenSpec := { _root_.Go.OpenSpec.ofChange s with cond := some uptoSmall }

/-- 'laws.FnExactMeetMasks', WHERE WHAT IT READS IS OF BULK AT MOST 1048576: true; the input reads as it did. -/
def fnExactMeetMasksUptoRow : OpenClaim := { program := "ytjgaacoikhonoaa", sum := "a48a501e4f7f5f535e93009ff69a2121b832c60866370fb889e9a6f76b151eee", func := "loop.example/g01261/laws.FnExactMeetMasks", spec := "fnExactMeetMasks", apart := false, narrowed := true }
def FnExactMeetMasksUptoSaid : Prop := fnExactMeetMasksUptoRow.holds Try.pinned (OpenSpec.upto fnExactMeetMasksSpec)

/-- 'laws.FnExactValidQuery', WHERE WHAT IT READS IS OF BULK AT MOST 1048576: true; the input reads as it did. -/
def fnExactValidQueryUptoRow : OpenClaim := { program := "ytjgaacoikhonoaa", sum := "a48a501e4f7f5f535e93009ff69a2121b832c60866370fb889e9a6f76b151eee", func := "loop.example/g01261/laws.FnExactValidQuery", spec := "fnExactValidQuery", apart := false, narrowed := true }
def FnExactValidQueryUptoSaid : Prop := fnExactValidQueryUptoRow.holds Try.pinned (OpenSpec.upto fnExactValidQuerySpec)

/-- 'laws.FnExactHasHole', WHERE WHAT IT READS IS OF BULK AT MOST 1048576: true; the input reads as it did. -/
def fnExactHasHoleUptoRow : OpenClaim := { program := "ytjgaacoikhonoaa", sum := "a48a501e4f7f5f535e93009ff69a2121b832c60866370fb889e9a6f76b151eee", func := "loop.example/g01261/laws.FnExactHasHole", spec := "fnExactHasHole", apart := false, narrowed := true }
def FnExactHasHoleUptoSaid : Prop := fnExactHasHoleUptoRow.holds Try.pinned (OpenSpec.upto fnExactHasHoleSpec)

/-- 'laws.FnExactCountHoles', WHERE WHAT IT READS IS OF BULK AT MOST 1048576: true; the input reads as it did. -/
def fnExactCountHolesUptoRow : OpenClaim := { program := "ytjgaacoikhonoaa", sum := "a48a501e4f7f5f535e93009ff69a2121b832c60866370fb889e9a6f76b151eee", func := "loop.example/g01261/laws.FnExactCountHoles", spec := "fnExactCountHoles", apart := false, narrowed := true }
def FnExactCountHolesUptoSaid : Prop := fnExactCountHolesUptoRow.holds Try.pinned (OpenSpec.upto fnExactCountHolesSpec)

/-- 'laws.FnExactDropsCard', WHERE WHAT IT READS IS OF BULK AT MOST 1048576: true; the input reads as it did. -/
def fnExactDropsCardUptoRow : OpenClaim := { program := "ytjgaacoikhonoaa", sum := "a48a501e4f7f5f535e93009ff69a2121b832c60866370fb889e9a6f76b151eee", func := "loop.example/g01261/laws.FnExactDropsCard", spec := "fnExactDropsCard", apart := false, narrowed := true }
def FnExactDropsCardUptoSaid : Prop := fnExactDropsCardUptoRow.holds Try.pinned (OpenSpec.upto fnExactDropsCardSpec)

/-- 'laws.FnExactMixPart', WHERE WHAT IT READS IS OF BULK AT MOST 1048576: true; the input reads as it did. -/
def fnExactMixPartUptoRow : OpenClaim := { program := "ytjgaacoikhonoaa", sum := "a48a501e4f7f5f535e93009ff69a2121b832c60866370fb889e9a6f76b151eee", func := "loop.example/g01261/laws.FnExactMixPart", spec := "fnExactMixPart", apart := false, narrowed := true }
def FnExactMixPartUptoSaid : Prop := fnExactMixPartUptoRow.holds Try.pinned (OpenSpec.upto fnExactMixPartSpec)

/-- 'laws.FnExactMaskOf', WHERE WHAT IT READS IS OF BULK AT MOST 1048576: true; the input reads as it did. -/
def fnExactMaskOfUptoRow : OpenClaim := { program := "ytjgaacoikhonoaa", sum := "a48a501e4f7f5f535e93009ff69a2121b832c60866370fb889e9a6f76b151eee", func := "loop.example/g01261/laws.FnExactMaskOf", spec := "fnExactMaskOf", apart := false, narrowed := true }
def FnExactMaskOfUptoSaid : Prop := fnExactMaskOfUptoRow.holds Try.pinned (OpenSpec.upto fnExactMaskOfSpec)

/-- 'laws.FnExactBothQueries', WHERE WHAT IT READS IS OF BULK AT MOST 1048576: true; the input reads as it did. -/
def fnExactBothQueriesUptoRow : OpenClaim := { program := "ytjgaacoikhonoaa", sum := "a48a501e4f7f5f535e93009ff69a2121b832c60866370fb889e9a6f76b151eee", func := "loop.example/g01261/laws.FnExactBothQueries", spec := "fnExactBothQueries", apart := false, narrowed := true }
def FnExactBothQueriesUptoSaid : Prop := fnExactBothQueriesUptoRow.holds Try.pinned (OpenSpec.upto fnExactBothQueriesSpec)

/-- 'laws.FnExactWithHole', WHERE WHAT IT READS IS OF BULK AT MOST 1048576: true; the input reads as it did. -/
def fnExactWithHoleUptoRow : OpenClaim := { program := "ytjgaacoikhonoaa", sum := "a48a501e4f7f5f535e93009ff69a2121b832c60866370fb889e9a6f76b151eee", func := "loop.example/g01261/laws.FnExactWithHole", spec := "fnExactWithHole", apart := false, narrowed := true }
def FnExactWithHoleUptoSaid : Prop := fnExactWithHoleUptoRow.holds Try.pinned (OpenSpec.upto fnExactWithHoleSpec)

/-- 'laws.FnExactHolesIn', WHERE WHAT IT READS IS OF BULK AT MOST 1048576: true; the input reads as it did. -/
def fnExactHolesInUptoRow : OpenClaim := { program := "ytjgaacoikhonoaa", sum := "a48a501e4f7f5f535e93009ff69a2121b832c60866370fb889e9a6f76b151eee", func := "loop.example/g01261/laws.FnExactHolesIn", spec := "fnExactHolesIn", apart := false, narrowed := true }
def FnExactHolesInUptoSaid : Prop := fnExactHolesInUptoRow.holds Try.pinned (OpenSpec.upto fnExactHolesInSpec)

/-- 'laws.FnExactPassesOf', WHERE WHAT IT READS IS OF BULK AT MOST 1048576: true; the input reads as it did. -/
def fnExactPassesOfUptoRow : OpenClaim := { program := "ytjgaacoikhonoaa", sum := "a48a501e4f7f5f535e93009ff69a2121b832c60866370fb889e9a6f76b151eee", func := "loop.example/g01261/laws.FnExactPassesOf", spec := "fnExactPassesOf", apart := false, narrowed := true }
def FnExactPassesOfUptoSaid : Prop := fnExactPassesOfUptoRow.holds Try.pinned (OpenSpec.upto fnExactPassesOfSpec)

/-- 'laws.FnMasks', WHERE WHAT IT READS IS OF BULK AT MOST 1048576: true; the input reads as it did. -/
def fnMasksUptoRow : OpenClaim := { program := "ytjgaacoikhonoaa", sum := "a48a501e4f7f5f535e93009ff69a2121b832c60866370fb889e9a6f76b151eee", func := "loop.example/g01261/laws.FnMasks", spec := "fnMasks", apart := false, narrowed := true }
def FnMasksUptoSaid : Prop := fnMasksUptoRow.holds Try.pinned (OpenSpec.upto fnMasksSpec)

end Rows
end Go.Proofs.Ytjgaacoikhonoaa

/-
  No cell of these rows narrows 'for every input' (looked for: loops, veiled, ifaces, maps, wideKeys, modest, calm, conditions, laid).
  DERIVED. THE GIVEN ROWS OF THIS SEAT. 3 by the template 'for every input the law returns true; each argument reads behind the call as it read before'; 0 by the template 'total and deterministic' (their statements: YtihebflgceljfaaTotals.lean).
  GIVEN WITH THE SEED: the statements are not yours to turn. If you find one false, say at which input.
  Laid BY PROGRAM, IN A SANDBOX (cutbox-rows.mjs): the forced cells as the released guide's own fill.sh prints them over the translation 628ef5c5a2c66010… (all of the seat's roots in one cut). By AI agents, Wed Nov 11 2026. No macro, syntax, notation, axiom, sorry.
-/
import Derived.Test.YtihebflgceljfaaChecked
import GoSem.Claim
import GoSem.ClaimJoined
import GoSem.ClaimMapViews
import Derived.JoinedTies
import Derived.KernelRfl
namespace Go.Proofs.Ytihebflgceljfaa
/- THE CELL 'sum', in the pinned program and in every row, IS THE sha256 OF THE DUMP (.gsa) THAT YtihebflgceljfaaProg.lean LOADS. Nothing in Lean hashes anything: it is a label: what it is worth is what the hold of that sum in a sandbox is worth. -/
noncomputable def Try.pinned : Pinned := { name := "ytihebflgceljfaa", sum := "628ef5c5a2c660103563bbb4be38c3cbf55c0377abd7a3a18e9fd1915366396f", checked := Try.checked }
namespace Rows
def none {H : Type} : Left H := { results := [], args := [] }

/-- 'laws.FnExactFullestOf': WHATEVER THE INPUT: true; the input reads as it did. -/
def fnExactFullestOfSpec : ChangeSpec := { name := "fnExactFullestOf", fn := fun _ => fun
  | [d1, d2] => { results := [.lit (.bool true)], args := [d1, d2] }
  | _ => none }
def fnExactFullestOfRow : OpenClaim := { program := "ytihebflgceljfaa", sum := "628ef5c5a2c660103563bbb4be38c3cbf55c0377abd7a3a18e9fd1915366396f", func := "loop.example/g01261/laws.FnExactFullestOf", spec := "fnExactFullestOf", unfollowed := true, recurses := true, apart := false }
def FnExactFullestOfSaid : Prop := fnExactFullestOfRow.holds Try.pinned (OpenSpec.ofChange fnExactFullestOfSpec)

/-- ITS FALSE NEIGHBOUR: 'it returns false'. Refute it at one input. -/
def fnExactFullestOfWrong : ChangeSpec := { name := "fnExactFullestOf", fn := fun _ => fun
  | [d1, d2] => { results := [.lit (.bool false)], args := [d1, d2] }
  | _ => none }
def FnExactFullestOfWrongFalsely : Prop := fnExactFullestOfRow.holds Try.pinned (OpenSpec.ofChange fnExactFullestOfWrong)

/-- 'laws.FnExactSameDeck': WHATEVER THE INPUT: true; the input reads as it did. -/
def fnExactSameDeckSpec : ChangeSpec := { name := "fnExactSameDeck", fn := fun _ => fun
  | [d1, d2] => { results := [.lit (.bool true)], args := [d1, d2] }
  | _ => none }
def fnExactSameDeckRow : OpenClaim := { program := "ytihebflgceljfaa", sum := "628ef5c5a2c660103563bbb4be38c3cbf55c0377abd7a3a18e9fd1915366396f", func := "loop.example/g01261/laws.FnExactSameDeck", spec := "fnExactSameDeck", apart := false }
def FnExactSameDeckSaid : Prop := fnExactSameDeckRow.holds Try.pinned (OpenSpec.ofChange fnExactSameDeckSpec)

/-- ITS FALSE NEIGHBOUR: 'it returns false'. Refute it at one input. -/
def fnExactSameDeckWrong : ChangeSpec := { name := "fnExactSameDeck", fn := fun _ => fun
  | [d1, d2] => { results := [.lit (.bool false)], args := [d1, d2] }
  | _ => none }
def FnExactSameDeckWrongFalsely : Prop := fnExactSameDeckRow.holds Try.pinned (OpenSpec.ofChange fnExactSameDeckWrong)

/-- 'laws.FnMasks': WHATEVER THE INPUT: true; the input reads as it did. -/
def fnMasksSpec : ChangeSpec := { name := "fnMasks", fn := fun _ => fun
  | [d1, d2] => { results := [.lit (.bool true)], args := [d1, d2] }
  | _ => none }
def fnMasksRow : OpenClaim := { program := "ytihebflgceljfaa", sum := "628ef5c5a2c660103563bbb4be38c3cbf55c0377abd7a3a18e9fd1915366396f", func := "loop.example/g01261/laws.FnMasks", spec := "fnMasks", apart := false }
def FnMasksSaid : Prop := fnMasksRow.holds Try.pinned (OpenSpec.ofChange fnMasksSpec)

/-- ITS FALSE NEIGHBOUR: 'it returns false'. Refute it at one input. -/
def fnMasksWrong : ChangeSpec := { name := "fnMasks", fn := fun _ => fun
  | [d1, d2] => { results := [.lit (.bool false)], args := [d1, d2] }
  | _ => none }
def FnMasksWrongFalsely : Prop := fnMasksRow.holds Try.pinned (OpenSpec.ofChange fnMasksWrong)

/- THE SECOND FORM. 'bulk': how many values and letters a reading holds, each counted each time it is reached (what is shared counts as often as it is met; a slice's spare places count too). A statement '..UptoSaid' is the law's where the arguments, and the package variables that the reading takes, are together of bulk at most 1048576: NARROWER than '..Said'. Prove '..Said' where nothing that the law and all that it calls make is longer than what came in: it says more and counts as full. Else prove '..UptoSaid'. A law counts once. -/
mutual
def uptoBulk {H : Type} : DataW H → Nat
  | .lit (.string bytes) => bytes.length + 1
  | .lit _ => 1
  | .nil => 1
  | .ptr d => uptoBulk d + 1
  | .slice elems spare => uptoBulkAll elems + uptoBulkAll spare + 1
  | .agg parts => uptoBulkAll parts + 1
  | .iface _ d => uptoBulk d + 1
  | .map entries => uptoBulkEntries entries + 1
  | .held _ => 1
def uptoBulkAll {H : Type} : List (DataW H) → Nat
  | [] => 0
  | d :: r => uptoBulk d + uptoBulkAll r
def uptoBulkEntries {H : Type} : List (Lit × DataW H) → Nat
  | [] => 0
  | x :: r => uptoBulkEntry x + uptoBulkEntries r
def uptoBulkEntry {H : Type} : Lit × DataW H → Nat
  | (.string bytes, d) => bytes.length + uptoBulk d + 1
  | (_, d) => uptoBulk d + 1
 end
def uptoSmall : (H : Type) → List (DataW H) → Bool := fun _ ds => decide (uptoBulkAll ds ≤ 1048576)
def OpenSpec.upto (s : _root_.Go.ChangeSpec) : _root_.Go.OpenSpec := { _root_.Go.OpenSpec.ofChange s with cond := some uptoSmall }

/-- 'laws.FnExactFullestOf', WHERE WHAT IT READS IS OF BULK AT MOST 1048576: true; the input reads as it did. -/
def fnExactFullestOfUptoRow : OpenClaim := { program := "ytihebflgceljfaa", sum := "628ef5c5a2c660103563bbb4be38c3cbf55c0377abd7a3a18e9fd1915366396f", func := "loop.example/g01261/laws.FnExactFullestOf", spec := "fnExactFullestOf", unfollowed := true, recurses := true, apart := false, narrowed := true }
def FnExactFullestOfUptoSaid : Prop := fnExactFullestOfUptoRow.holds Try.pinned (OpenSpec.upto fnExactFullestOfSpec)

/-- 'laws.FnExactSameDeck', WHERE WHAT IT READS IS OF BULK AT MOST 1048576: true; the input reads as it did. -/
def fnExactSameDeckUptoRow : OpenClaim := { program := "ytihebflgceljfaa", sum := "628ef5c5a2c660103563bbb4be38c3cbf55c0377abd7a3a18e9fd1915366396f", func := "loop.example/g01261/laws.FnExactSameDeck", spec := "fnExactSameDeck", apart := false, narrowed := true }
def FnExactSameDeckUptoSaid : Prop := fnExactSameDeckUptoRow.holds Try.pinned (OpenSpec.upto fnExactSameDeckSpec)

/-- 'laws.FnMasks', WHERE WHAT IT READS IS OF BULK AT MOST 1048576: true; the input reads as it did. -/
def fnMasksUptoRow : OpenClaim := { program := "ytihebflgceljfaa", sum := "628ef5c5a2c660103563bbb4be38c3cbf55c0377abd7a3a18e9fd1915366396f", func := "loop.example/g01261/laws.FnMasks", spec := "fnMasks", apart := false, narrowed := true }
def FnMasksUptoSaid : Prop := fnMasksUptoRow.holds Try.pinned (OpenSpec.upto fnMasksSpec)

end Rows
end Go.Proofs.Ytihebflgceljfaa

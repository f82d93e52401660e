/-
  NARROWER THAN 'FOR EVERY INPUT', by the rows' own cells (each row's printed sentence says how): FnFewest: laid · FnExactValidDeck: laid · FnExactFindCard: laid · FnExactValidScheme: laid · FnExactPassNeedle: laid · FnExactSplitDeck: laid · FnExactFieldOfHole: laid · FnExactAnswerOf: laid · FnExactPassMany: laid · FnExactAnyOf: laid · FnExactIsSorted: laid · FnExactFewestNeedles: laid.
  DERIVED. THE GIVEN ROWS OF THIS SEAT. 12 by the template 'for every input the law returns true; each argument reads behind the call as it read before'; 0 by the template 'total and deterministic' (their statements: YtpmilcfppcmodaaDoorTotals.lean).
  GIVEN WITH THE SEED: the statements are not yours to turn. If you find one false, say at which input.
  Laid BY PROGRAM, IN A SANDBOX (cutbox-rows.mjs): the forced cells as the released guide's own fill.sh prints them over the translation c2c494783b51003f… (all of the seat's roots in one cut). By AI agents, Wed Nov 11 2026. No macro, syntax, notation, axiom, sorry.
-/
import Derived.Test.YtpmilcfppcmodaaDoorChecked
import GoSem.PinnedTables
import GoSem.Claim
import GoSem.ClaimJoined
import GoSem.ClaimMapViews
import Derived.JoinedTies
import Derived.KernelRfl
namespace Go.Proofs.YtpmilcfppcmodaaDoor
/- THE CELL 'sum', in the pinned program and in every row, IS THE sha256 OF THE DUMP (.gsa) THAT YtpmilcfppcmodaaDoorProg.lean LOADS. Nothing in Lean hashes anything: it is a label: what it is worth is what the hold of that sum in a sandbox is worth. -/
noncomputable def Tryd.pinned : Pinned := { name := "ytpmilcfppcmodaadoor", sum := "c2c494783b51003fee3ab9fde23605e8db2e4a3606bae463deaa37986a948a64", checked := Tryd.checked }
namespace Rows
def none {H : Type} : Left H := { results := [], args := [] }

/- WHAT THE LISTED PACKAGE-LEVEL VARIABLES READ AS WHEN THE CALL BEGINS. Each datum BY PROGRAM (the guide's laid-datum.mjs) off the statement by which the dump's own 'gosem.cut.vars' lays the variable. In a bare row this is a premise. The card (YtpmilcfppcmodaaDoorCards.lean) ties it to the program's text. -/
def laid_unicode_utf8_acceptRanges {H : Type} : DataW H := .agg [.agg [.lit (.int .u8 128), .lit (.int .u8 191)], .agg [.lit (.int .u8 160), .lit (.int .u8 191)], .agg [.lit (.int .u8 128), .lit (.int .u8 159)], .agg [.lit (.int .u8 144), .lit (.int .u8 191)], .agg [.lit (.int .u8 128), .lit (.int .u8 143)], .agg [.lit (.int .u8 0), .lit (.int .u8 0)], .agg [.lit (.int .u8 0), .lit (.int .u8 0)], .agg [.lit (.int .u8 0), .lit (.int .u8 0)], .agg [.lit (.int .u8 0), .lit (.int .u8 0)], .agg [.lit (.int .u8 0), .lit (.int .u8 0)], .agg [.lit (.int .u8 0), .lit (.int .u8 0)], .agg [.lit (.int .u8 0), .lit (.int .u8 0)], .agg [.lit (.int .u8 0), .lit (.int .u8 0)], .agg [.lit (.int .u8 0), .lit (.int .u8 0)], .agg [.lit (.int .u8 0), .lit (.int .u8 0)], .agg [.lit (.int .u8 0), .lit (.int .u8 0)]]
/-- One of Go's own tables, pinned by name: the form's constant. -/
def laid_unicode_utf8_first : DataW Unit := Go.Pinned.utf8First

/-- 'laws.FnFewest': WHATEVER THE INPUT: true; the input reads as it did. -/
def fnFewestSpec : ChangeSpec := { name := "fnFewest", fn := fun _ => fun
  | [d1, d2] => { results := [.lit (.bool true)], args := [d1, d2] }
  | _ => none }
def fnFewestRow : OpenClaim := { program := "ytpmilcfppcmodaadoor", sum := "c2c494783b51003fee3ab9fde23605e8db2e4a3606bae463deaa37986a948a64", func := "loop.example/g01261/laws.FnFewest", spec := "fnFewest", inPlace := ["internal/bytealg.IndexByteString", "internal/bytealg.IndexString"], unfollowed := true, recurses := true, named := ["unicode/utf8.first", "unicode/utf8.acceptRanges", "internal/bytealg.MaxLen"], apart := false, laid := [("unicode/utf8.acceptRanges", laid_unicode_utf8_acceptRanges), ("unicode/utf8.first", laid_unicode_utf8_first)] }
def FnFewestSaid : Prop := fnFewestRow.holds Tryd.pinned (OpenSpec.ofChange fnFewestSpec)

/-- ITS FALSE NEIGHBOUR: 'it returns false'. Refute it at one input. -/
def fnFewestWrong : ChangeSpec := { name := "fnFewest", fn := fun _ => fun
  | [d1, d2] => { results := [.lit (.bool false)], args := [d1, d2] }
  | _ => none }
def FnFewestWrongFalsely : Prop := fnFewestRow.holds Tryd.pinned (OpenSpec.ofChange fnFewestWrong)

/-- 'laws.FnExactValidDeck': WHATEVER THE INPUT: true; the input reads as it did. -/
def fnExactValidDeckSpec : ChangeSpec := { name := "fnExactValidDeck", fn := fun _ => fun
  | [d] => { results := [.lit (.bool true)], args := [d] }
  | _ => none }
def fnExactValidDeckRow : OpenClaim := { program := "ytpmilcfppcmodaadoor", sum := "c2c494783b51003fee3ab9fde23605e8db2e4a3606bae463deaa37986a948a64", func := "loop.example/g01261/laws.FnExactValidDeck", spec := "fnExactValidDeck", inPlace := ["internal/bytealg.IndexByteString", "internal/bytealg.IndexString"], unfollowed := true, recurses := true, named := ["unicode/utf8.first", "unicode/utf8.acceptRanges", "internal/bytealg.MaxLen"], apart := false, laid := [("unicode/utf8.acceptRanges", laid_unicode_utf8_acceptRanges), ("unicode/utf8.first", laid_unicode_utf8_first)] }
def FnExactValidDeckSaid : Prop := fnExactValidDeckRow.holds Tryd.pinned (OpenSpec.ofChange fnExactValidDeckSpec)

/-- ITS FALSE NEIGHBOUR: 'it returns false'. Refute it at one input. -/
def fnExactValidDeckWrong : ChangeSpec := { name := "fnExactValidDeck", fn := fun _ => fun
  | [d] => { results := [.lit (.bool false)], args := [d] }
  | _ => none }
def FnExactValidDeckWrongFalsely : Prop := fnExactValidDeckRow.holds Tryd.pinned (OpenSpec.ofChange fnExactValidDeckWrong)

/-- 'laws.FnExactFindCard': WHATEVER THE INPUT: true; the input reads as it did. -/
def fnExactFindCardSpec : ChangeSpec := { name := "fnExactFindCard", fn := fun _ => fun
  | [d1, d2] => { results := [.lit (.bool true)], args := [d1, d2] }
  | _ => none }
def fnExactFindCardRow : OpenClaim := { program := "ytpmilcfppcmodaadoor", sum := "c2c494783b51003fee3ab9fde23605e8db2e4a3606bae463deaa37986a948a64", func := "loop.example/g01261/laws.FnExactFindCard", spec := "fnExactFindCard", inPlace := ["internal/bytealg.IndexByteString", "internal/bytealg.IndexString"], unfollowed := true, recurses := true, named := ["unicode/utf8.first", "unicode/utf8.acceptRanges", "internal/bytealg.MaxLen"], apart := false, laid := [("unicode/utf8.acceptRanges", laid_unicode_utf8_acceptRanges), ("unicode/utf8.first", laid_unicode_utf8_first)] }
def FnExactFindCardSaid : Prop := fnExactFindCardRow.holds Tryd.pinned (OpenSpec.ofChange fnExactFindCardSpec)

/-- ITS FALSE NEIGHBOUR: 'it returns false'. Refute it at one input. -/
def fnExactFindCardWrong : ChangeSpec := { name := "fnExactFindCard", fn := fun _ => fun
  | [d1, d2] => { results := [.lit (.bool false)], args := [d1, d2] }
  | _ => none }
def FnExactFindCardWrongFalsely : Prop := fnExactFindCardRow.holds Tryd.pinned (OpenSpec.ofChange fnExactFindCardWrong)

/-- 'laws.FnExactValidScheme': WHATEVER THE INPUT: true; the input reads as it did. -/
def fnExactValidSchemeSpec : ChangeSpec := { name := "fnExactValidScheme", fn := fun _ => fun
  | [d] => { results := [.lit (.bool true)], args := [d] }
  | _ => none }
def fnExactValidSchemeRow : OpenClaim := { program := "ytpmilcfppcmodaadoor", sum := "c2c494783b51003fee3ab9fde23605e8db2e4a3606bae463deaa37986a948a64", func := "loop.example/g01261/laws.FnExactValidScheme", spec := "fnExactValidScheme", inPlace := ["internal/bytealg.IndexByteString", "internal/bytealg.IndexString"], unfollowed := true, recurses := true, named := ["unicode/utf8.first", "unicode/utf8.acceptRanges", "internal/bytealg.MaxLen"], apart := false, laid := [("unicode/utf8.acceptRanges", laid_unicode_utf8_acceptRanges), ("unicode/utf8.first", laid_unicode_utf8_first)] }
def FnExactValidSchemeSaid : Prop := fnExactValidSchemeRow.holds Tryd.pinned (OpenSpec.ofChange fnExactValidSchemeSpec)

/-- ITS FALSE NEIGHBOUR: 'it returns false'. Refute it at one input. -/
def fnExactValidSchemeWrong : ChangeSpec := { name := "fnExactValidScheme", fn := fun _ => fun
  | [d] => { results := [.lit (.bool false)], args := [d] }
  | _ => none }
def FnExactValidSchemeWrongFalsely : Prop := fnExactValidSchemeRow.holds Tryd.pinned (OpenSpec.ofChange fnExactValidSchemeWrong)

/-- 'laws.FnExactPassNeedle': WHATEVER THE INPUT: true; the input reads as it did. -/
def fnExactPassNeedleSpec : ChangeSpec := { name := "fnExactPassNeedle", fn := fun _ => fun
  | [d1, d2] => { results := [.lit (.bool true)], args := [d1, d2] }
  | _ => none }
def fnExactPassNeedleRow : OpenClaim := { program := "ytpmilcfppcmodaadoor", sum := "c2c494783b51003fee3ab9fde23605e8db2e4a3606bae463deaa37986a948a64", func := "loop.example/g01261/laws.FnExactPassNeedle", spec := "fnExactPassNeedle", inPlace := ["internal/bytealg.IndexByteString", "internal/bytealg.IndexString"], unfollowed := true, recurses := true, named := ["unicode/utf8.first", "unicode/utf8.acceptRanges", "internal/bytealg.MaxLen"], apart := false, laid := [("unicode/utf8.acceptRanges", laid_unicode_utf8_acceptRanges), ("unicode/utf8.first", laid_unicode_utf8_first)] }
def FnExactPassNeedleSaid : Prop := fnExactPassNeedleRow.holds Tryd.pinned (OpenSpec.ofChange fnExactPassNeedleSpec)

/-- ITS FALSE NEIGHBOUR: 'it returns false'. Refute it at one input. -/
def fnExactPassNeedleWrong : ChangeSpec := { name := "fnExactPassNeedle", fn := fun _ => fun
  | [d1, d2] => { results := [.lit (.bool false)], args := [d1, d2] }
  | _ => none }
def FnExactPassNeedleWrongFalsely : Prop := fnExactPassNeedleRow.holds Tryd.pinned (OpenSpec.ofChange fnExactPassNeedleWrong)

/-- 'laws.FnExactSplitDeck': WHATEVER THE INPUT: true; the input reads as it did. -/
def fnExactSplitDeckSpec : ChangeSpec := { name := "fnExactSplitDeck", fn := fun _ => fun
  | [d1, d2] => { results := [.lit (.bool true)], args := [d1, d2] }
  | _ => none }
def fnExactSplitDeckRow : OpenClaim := { program := "ytpmilcfppcmodaadoor", sum := "c2c494783b51003fee3ab9fde23605e8db2e4a3606bae463deaa37986a948a64", func := "loop.example/g01261/laws.FnExactSplitDeck", spec := "fnExactSplitDeck", inPlace := ["internal/bytealg.IndexByteString", "internal/bytealg.IndexString"], unfollowed := true, recurses := true, named := ["unicode/utf8.first", "unicode/utf8.acceptRanges", "internal/bytealg.MaxLen"], apart := false, laid := [("unicode/utf8.acceptRanges", laid_unicode_utf8_acceptRanges), ("unicode/utf8.first", laid_unicode_utf8_first)] }
def FnExactSplitDeckSaid : Prop := fnExactSplitDeckRow.holds Tryd.pinned (OpenSpec.ofChange fnExactSplitDeckSpec)

/-- ITS FALSE NEIGHBOUR: 'it returns false'. Refute it at one input. -/
def fnExactSplitDeckWrong : ChangeSpec := { name := "fnExactSplitDeck", fn := fun _ => fun
  | [d1, d2] => { results := [.lit (.bool false)], args := [d1, d2] }
  | _ => none }
def FnExactSplitDeckWrongFalsely : Prop := fnExactSplitDeckRow.holds Tryd.pinned (OpenSpec.ofChange fnExactSplitDeckWrong)

/-- 'laws.FnExactFieldOfHole': WHATEVER THE INPUT: true; the input reads as it did. -/
def fnExactFieldOfHoleSpec : ChangeSpec := { name := "fnExactFieldOfHole", fn := fun _ => fun
  | [d1, d2] => { results := [.lit (.bool true)], args := [d1, d2] }
  | _ => none }
def fnExactFieldOfHoleRow : OpenClaim := { program := "ytpmilcfppcmodaadoor", sum := "c2c494783b51003fee3ab9fde23605e8db2e4a3606bae463deaa37986a948a64", func := "loop.example/g01261/laws.FnExactFieldOfHole", spec := "fnExactFieldOfHole", inPlace := ["internal/bytealg.IndexByteString", "internal/bytealg.IndexString"], unfollowed := true, recurses := true, named := ["unicode/utf8.first", "unicode/utf8.acceptRanges", "internal/bytealg.MaxLen"], apart := false, laid := [("unicode/utf8.acceptRanges", laid_unicode_utf8_acceptRanges), ("unicode/utf8.first", laid_unicode_utf8_first)] }
def FnExactFieldOfHoleSaid : Prop := fnExactFieldOfHoleRow.holds Tryd.pinned (OpenSpec.ofChange fnExactFieldOfHoleSpec)

/-- ITS FALSE NEIGHBOUR: 'it returns false'. Refute it at one input. -/
def fnExactFieldOfHoleWrong : ChangeSpec := { name := "fnExactFieldOfHole", fn := fun _ => fun
  | [d1, d2] => { results := [.lit (.bool false)], args := [d1, d2] }
  | _ => none }
def FnExactFieldOfHoleWrongFalsely : Prop := fnExactFieldOfHoleRow.holds Tryd.pinned (OpenSpec.ofChange fnExactFieldOfHoleWrong)

/-- 'laws.FnExactAnswerOf': WHATEVER THE INPUT: true; the input reads as it did. -/
def fnExactAnswerOfSpec : ChangeSpec := { name := "fnExactAnswerOf", fn := fun _ => fun
  | [d1, d2] => { results := [.lit (.bool true)], args := [d1, d2] }
  | _ => none }
def fnExactAnswerOfRow : OpenClaim := { program := "ytpmilcfppcmodaadoor", sum := "c2c494783b51003fee3ab9fde23605e8db2e4a3606bae463deaa37986a948a64", func := "loop.example/g01261/laws.FnExactAnswerOf", spec := "fnExactAnswerOf", inPlace := ["internal/bytealg.IndexByteString", "internal/bytealg.IndexString"], unfollowed := true, recurses := true, named := ["unicode/utf8.first", "unicode/utf8.acceptRanges", "internal/bytealg.MaxLen"], apart := false, laid := [("unicode/utf8.acceptRanges", laid_unicode_utf8_acceptRanges), ("unicode/utf8.first", laid_unicode_utf8_first)] }
def FnExactAnswerOfSaid : Prop := fnExactAnswerOfRow.holds Tryd.pinned (OpenSpec.ofChange fnExactAnswerOfSpec)

/-- ITS FALSE NEIGHBOUR: 'it returns false'. Refute it at one input. -/
def fnExactAnswerOfWrong : ChangeSpec := { name := "fnExactAnswerOf", fn := fun _ => fun
  | [d1, d2] => { results := [.lit (.bool false)], args := [d1, d2] }
  | _ => none }
def FnExactAnswerOfWrongFalsely : Prop := fnExactAnswerOfRow.holds Tryd.pinned (OpenSpec.ofChange fnExactAnswerOfWrong)

/-- 'laws.FnExactPassMany': WHATEVER THE INPUT: true; the input reads as it did. -/
def fnExactPassManySpec : ChangeSpec := { name := "fnExactPassMany", fn := fun _ => fun
  | [d1, d2] => { results := [.lit (.bool true)], args := [d1, d2] }
  | _ => none }
def fnExactPassManyRow : OpenClaim := { program := "ytpmilcfppcmodaadoor", sum := "c2c494783b51003fee3ab9fde23605e8db2e4a3606bae463deaa37986a948a64", func := "loop.example/g01261/laws.FnExactPassMany", spec := "fnExactPassMany", inPlace := ["internal/bytealg.IndexByteString", "internal/bytealg.IndexString"], unfollowed := true, recurses := true, named := ["unicode/utf8.first", "unicode/utf8.acceptRanges", "internal/bytealg.MaxLen"], apart := false, laid := [("unicode/utf8.acceptRanges", laid_unicode_utf8_acceptRanges), ("unicode/utf8.first", laid_unicode_utf8_first)] }
def FnExactPassManySaid : Prop := fnExactPassManyRow.holds Tryd.pinned (OpenSpec.ofChange fnExactPassManySpec)

/-- ITS FALSE NEIGHBOUR: 'it returns false'. Refute it at one input. -/
def fnExactPassManyWrong : ChangeSpec := { name := "fnExactPassMany", fn := fun _ => fun
  | [d1, d2] => { results := [.lit (.bool false)], args := [d1, d2] }
  | _ => none }
def FnExactPassManyWrongFalsely : Prop := fnExactPassManyRow.holds Tryd.pinned (OpenSpec.ofChange fnExactPassManyWrong)

/-- 'laws.FnExactAnyOf': WHATEVER THE INPUT: true; the input reads as it did. -/
def fnExactAnyOfSpec : ChangeSpec := { name := "fnExactAnyOf", fn := fun _ => fun
  | [d1, d2] => { results := [.lit (.bool true)], args := [d1, d2] }
  | _ => none }
def fnExactAnyOfRow : OpenClaim := { program := "ytpmilcfppcmodaadoor", sum := "c2c494783b51003fee3ab9fde23605e8db2e4a3606bae463deaa37986a948a64", func := "loop.example/g01261/laws.FnExactAnyOf", spec := "fnExactAnyOf", inPlace := ["internal/bytealg.IndexByteString", "internal/bytealg.IndexString"], unfollowed := true, recurses := true, named := ["unicode/utf8.first", "unicode/utf8.acceptRanges", "internal/bytealg.MaxLen"], apart := false, laid := [("unicode/utf8.acceptRanges", laid_unicode_utf8_acceptRanges), ("unicode/utf8.first", laid_unicode_utf8_first)] }
def FnExactAnyOfSaid : Prop := fnExactAnyOfRow.holds Tryd.pinned (OpenSpec.ofChange fnExactAnyOfSpec)

/-- ITS FALSE NEIGHBOUR: 'it returns false'. Refute it at one input. -/
def fnExactAnyOfWrong : ChangeSpec := { name := "fnExactAnyOf", fn := fun _ => fun
  | [d1, d2] => { results := [.lit (.bool false)], args := [d1, d2] }
  | _ => none }
def FnExactAnyOfWrongFalsely : Prop := fnExactAnyOfRow.holds Tryd.pinned (OpenSpec.ofChange fnExactAnyOfWrong)

/-- 'laws.FnExactIsSorted': WHATEVER THE INPUT: true; the input reads as it did. -/
def fnExactIsSortedSpec : ChangeSpec := { name := "fnExactIsSorted", fn := fun _ => fun
  | [d1, d2] => { results := [.lit (.bool true)], args := [d1, d2] }
  | _ => none }
def fnExactIsSortedRow : OpenClaim := { program := "ytpmilcfppcmodaadoor", sum := "c2c494783b51003fee3ab9fde23605e8db2e4a3606bae463deaa37986a948a64", func := "loop.example/g01261/laws.FnExactIsSorted", spec := "fnExactIsSorted", inPlace := ["internal/bytealg.IndexByteString", "internal/bytealg.IndexString"], unfollowed := true, recurses := true, named := ["unicode/utf8.first", "unicode/utf8.acceptRanges", "internal/bytealg.MaxLen"], apart := false, laid := [("unicode/utf8.acceptRanges", laid_unicode_utf8_acceptRanges), ("unicode/utf8.first", laid_unicode_utf8_first)] }
def FnExactIsSortedSaid : Prop := fnExactIsSortedRow.holds Tryd.pinned (OpenSpec.ofChange fnExactIsSortedSpec)

/-- ITS FALSE NEIGHBOUR: 'it returns false'. Refute it at one input. -/
def fnExactIsSortedWrong : ChangeSpec := { name := "fnExactIsSorted", fn := fun _ => fun
  | [d1, d2] => { results := [.lit (.bool false)], args := [d1, d2] }
  | _ => none }
def FnExactIsSortedWrongFalsely : Prop := fnExactIsSortedRow.holds Tryd.pinned (OpenSpec.ofChange fnExactIsSortedWrong)

/-- 'laws.FnExactFewestNeedles': WHATEVER THE INPUT: true; the input reads as it did. -/
def fnExactFewestNeedlesSpec : ChangeSpec := { name := "fnExactFewestNeedles", fn := fun _ => fun
  | [d1, d2] => { results := [.lit (.bool true)], args := [d1, d2] }
  | _ => none }
def fnExactFewestNeedlesRow : OpenClaim := { program := "ytpmilcfppcmodaadoor", sum := "c2c494783b51003fee3ab9fde23605e8db2e4a3606bae463deaa37986a948a64", func := "loop.example/g01261/laws.FnExactFewestNeedles", spec := "fnExactFewestNeedles", inPlace := ["internal/bytealg.IndexByteString", "internal/bytealg.IndexString"], unfollowed := true, recurses := true, named := ["unicode/utf8.first", "unicode/utf8.acceptRanges", "internal/bytealg.MaxLen"], apart := false, laid := [("unicode/utf8.acceptRanges", laid_unicode_utf8_acceptRanges), ("unicode/utf8.first", laid_unicode_utf8_first)] }
def FnExactFewestNeedlesSaid : Prop := fnExactFewestNeedlesRow.holds Tryd.pinned (OpenSpec.ofChange fnExactFewestNeedlesSpec)

/-- ITS FALSE NEIGHBOUR: 'it returns false'. Refute it at one input. -/
def fnExactFewestNeedlesWrong : ChangeSpec := { name := "fnExactFewestNeedles", fn := fun _ => fun
  | [d1, d2] => { results := [.lit (.bool false)], args := [d1, d2] }
  | _ => none }
def FnExactFewestNeedlesWrongFalsely : Prop := fnExactFewestNeedlesRow.holds Tryd.pinned (OpenSpec.ofChange fnExactFewestNeedlesWrong)

/- THE SECOND FORM. 'bulk': how many values and letters a reading holds, each counted each time it is reached (what is shared counts as often as it is met; a slice's spare places count too). A statement '..UptoSaid' is the law's where the arguments, and the package variables that the reading takes, are together of bulk at most 1048576: NARROWER than '..Said'. Prove '..Said' where nothing that the law and all that it calls make is longer than what came in: it says more and counts as full. Else prove '..UptoSaid'. A law counts once. -/
mutual
def uptoBulk {H : Type} : DataW H → Nat
  | .lit (.string bytes) => bytes.length + 1
  | .lit _ => 1
  | .nil => 1
  | .ptr d => uptoBulk d + 1
  | .slice elems spare => uptoBulkAll elems + uptoBulkAll spare + 1
  | .agg parts => uptoBulkAll parts + 1
  | .iface _ d => uptoBulk d + 1
  | .map entries => uptoBulkEntries entries + 1
  | .held _ => 1
def uptoBulkAll {H : Type} : List (DataW H) → Nat
  | [] => 0
  | d :: r => uptoBulk d + uptoBulkAll r
def uptoBulkEntries {H : Type} : List (Lit × DataW H) → Nat
  | [] => 0
  | x :: r => uptoBulkEntry x + uptoBulkEntries r
def uptoBulkEntry {H : Type} : Lit × DataW H → Nat
  | (.string bytes, d) => bytes.length + uptoBulk d + 1
  | (_, d) => uptoBulk d + 1
 end
def uptoSmall : (H : Type) → List (DataW H) → Bool := fun _ ds => decide (uptoBulkAll ds ≤ 1048576)
def OpenSpec.upto (s : _root_.Go.ChangeSpec) : _root_.Go.OpenSpec := { _root_.Go.OpenSpec.ofChange s with cond := some uptoSmall }

/-- 'laws.FnFewest', WHERE WHAT IT READS IS OF BULK AT MOST 1048576: true; the input reads as it did. -/
def fnFewestUptoRow : OpenClaim := { program := "ytpmilcfppcmodaadoor", sum := "c2c494783b51003fee3ab9fde23605e8db2e4a3606bae463deaa37986a948a64", func := "loop.example/g01261/laws.FnFewest", spec := "fnFewest", inPlace := ["internal/bytealg.IndexByteString", "internal/bytealg.IndexString"], unfollowed := true, recurses := true, named := ["unicode/utf8.first", "unicode/utf8.acceptRanges", "internal/bytealg.MaxLen"], apart := false, laid := [("unicode/utf8.acceptRanges", laid_unicode_utf8_acceptRanges), ("unicode/utf8.first", laid_unicode_utf8_first)], narrowed := true }
def FnFewestUptoSaid : Prop := fnFewestUptoRow.holds Tryd.pinned (OpenSpec.upto fnFewestSpec)

/-- 'laws.FnExactValidDeck', WHERE WHAT IT READS IS OF BULK AT MOST 1048576: true; the input reads as it did. -/
def fnExactValidDeckUptoRow : OpenClaim := { program := "ytpmilcfppcmodaadoor", sum := "c2c494783b51003fee3ab9fde23605e8db2e4a3606bae463deaa37986a948a64", func := "loop.example/g01261/laws.FnExactValidDeck", spec := "fnExactValidDeck", inPlace := ["internal/bytealg.IndexByteString", "internal/bytealg.IndexString"], unfollowed := true, recurses := true, named := ["unicode/utf8.first", "unicode/utf8.acceptRanges", "internal/bytealg.MaxLen"], apart := false, laid := [("unicode/utf8.acceptRanges", laid_unicode_utf8_acceptRanges), ("unicode/utf8.first", laid_unicode_utf8_first)], narrowed := true }
def FnExactValidDeckUptoSaid : Prop := fnExactValidDeckUptoRow.holds Tryd.pinned (OpenSpec.upto fnExactValidDeckSpec)

/-- 'laws.FnExactFindCard', WHERE WHAT IT READS IS OF BULK AT MOST 1048576: true; the input reads as it did. -/
def fnExactFindCardUptoRow : OpenClaim := { program := "ytpmilcfppcmodaadoor", sum := "c2c494783b51003fee3ab9fde23605e8db2e4a3606bae463deaa37986a948a64", func := "loop.example/g01261/laws.FnExactFindCard", spec := "fnExactFindCard", inPlace := ["internal/bytealg.IndexByteString", "internal/bytealg.IndexString"], unfollowed := true, recurses := true, named := ["unicode/utf8.first", "unicode/utf8.acceptRanges", "internal/bytealg.MaxLen"], apart := false, laid := [("unicode/utf8.acceptRanges", laid_unicode_utf8_acceptRanges), ("unicode/utf8.first", laid_unicode_utf8_first)], narrowed := true }
def FnExactFindCardUptoSaid : Prop := fnExactFindCardUptoRow.holds Tryd.pinned (OpenSpec.upto fnExactFindCardSpec)

/-- 'laws.FnExactValidScheme', WHERE WHAT IT READS IS OF BULK AT MOST 1048576: true; the input reads as it did. -/
def fnExactValidSchemeUptoRow : OpenClaim := { program := "ytpmilcfppcmodaadoor", sum := "c2c494783b51003fee3ab9fde23605e8db2e4a3606bae463deaa37986a948a64", func := "loop.example/g01261/laws.FnExactValidScheme", spec := "fnExactValidScheme", inPlace := ["internal/bytealg.IndexByteString", "internal/bytealg.IndexString"], unfollowed := true, recurses := true, named := ["unicode/utf8.first", "unicode/utf8.acceptRanges", "internal/bytealg.MaxLen"], apart := false, laid := [("unicode/utf8.acceptRanges", laid_unicode_utf8_acceptRanges), ("unicode/utf8.first", laid_unicode_utf8_first)], narrowed := true }
def FnExactValidSchemeUptoSaid : Prop := fnExactValidSchemeUptoRow.holds Tryd.pinned (OpenSpec.upto fnExactValidSchemeSpec)

/-- 'laws.FnExactPassNeedle', WHERE WHAT IT READS IS OF BULK AT MOST 1048576: true; the input reads as it did. -/
def fnExactPassNeedleUptoRow : OpenClaim := { program := "ytpmilcfppcmodaadoor", sum := "c2c494783b51003fee3ab9fde23605e8db2e4a3606bae463deaa37986a948a64", func := "loop.example/g01261/laws.FnExactPassNeedle", spec := "fnExactPassNeedle", inPlace := ["internal/bytealg.IndexByteString", "internal/bytealg.IndexString"], unfollowed := true, recurses := true, named := ["unicode/utf8.first", "unicode/utf8.acceptRanges", "internal/bytealg.MaxLen"], apart := false, laid := [("unicode/utf8.acceptRanges", laid_unicode_utf8_acceptRanges), ("unicode/utf8.first", laid_unicode_utf8_first)], narrowed := true }
def FnExactPassNeedleUptoSaid : Prop := fnExactPassNeedleUptoRow.holds Tryd.pinned (OpenSpec.upto fnExactPassNeedleSpec)

/-- 'laws.FnExactSplitDeck', WHERE WHAT IT READS IS OF BULK AT MOST 1048576: true; the input reads as it did. -/
def fnExactSplitDeckUptoRow : OpenClaim := { program := "ytpmilcfppcmodaadoor", sum := "c2c494783b51003fee3ab9fde23605e8db2e4a3606bae463deaa37986a948a64", func := "loop.example/g01261/laws.FnExactSplitDeck", spec := "fnExactSplitDeck", inPlace := ["internal/bytealg.IndexByteString", "internal/bytealg.IndexString"], unfollowed := true, recurses := true, named := ["unicode/utf8.first", "unicode/utf8.acceptRanges", "internal/bytealg.MaxLen"], apart := false, laid := [("unicode/utf8.acceptRanges", laid_unicode_utf8_acceptRanges), ("unicode/utf8.first", laid_unicode_utf8_first)], narrowed := true }
def FnExactSplitDeckUptoSaid : Prop := fnExactSplitDeckUptoRow.holds Tryd.pinned (OpenSpec.upto fnExactSplitDeckSpec)

/-- 'laws.FnExactFieldOfHole', WHERE WHAT IT READS IS OF BULK AT MOST 1048576: true; the input reads as it did. -/
def fnExactFieldOfHoleUptoRow : OpenClaim := { program := "ytpmilcfppcmodaadoor", sum := "c2c494783b51003fee3ab9fde23605e8db2e4a3606bae463deaa37986a948a64", func := "loop.example/g01261/laws.FnExactFieldOfHole", spec := "fnExactFieldOfHole", inPlace := ["internal/bytealg.IndexByteString", "internal/bytealg.IndexString"], unfollowed := true, recurses := true, named := ["unicode/utf8.first", "unicode/utf8.acceptRanges", "internal/bytealg.MaxLen"], apart := false, laid := [("unicode/utf8.acceptRanges", laid_unicode_utf8_acceptRanges), ("unicode/utf8.first", laid_unicode_utf8_first)], narrowed := true }
def FnExactFieldOfHoleUptoSaid : Prop := fnExactFieldOfHoleUptoRow.holds Tryd.pinned (OpenSpec.upto fnExactFieldOfHoleSpec)

/-- 'laws.FnExactAnswerOf', WHERE WHAT IT READS IS OF BULK AT MOST 1048576: true; the input reads as it did. -/
def fnExactAnswerOfUptoRow : OpenClaim := { program := "ytpmilcfppcmodaadoor", sum := "c2c494783b51003fee3ab9fde23605e8db2e4a3606bae463deaa37986a948a64", func := "loop.example/g01261/laws.FnExactAnswerOf", spec := "fnExactAnswerOf", inPlace := ["internal/bytealg.IndexByteString", "internal/bytealg.IndexString"], unfollowed := true, recurses := true, named := ["unicode/utf8.first", "unicode/utf8.acceptRanges", "internal/bytealg.MaxLen"], apart := false, laid := [("unicode/utf8.acceptRanges", laid_unicode_utf8_acceptRanges), ("unicode/utf8.first", laid_unicode_utf8_first)], narrowed := true }
def FnExactAnswerOfUptoSaid : Prop := fnExactAnswerOfUptoRow.holds Tryd.pinned (OpenSpec.upto fnExactAnswerOfSpec)

/-- 'laws.FnExactPassMany', WHERE WHAT IT READS IS OF BULK AT MOST 1048576: true; the input reads as it did. -/
def fnExactPassManyUptoRow : OpenClaim := { program := "ytpmilcfppcmodaadoor", sum := "c2c494783b51003fee3ab9fde23605e8db2e4a3606bae463deaa37986a948a64", func := "loop.example/g01261/laws.FnExactPassMany", spec := "fnExactPassMany", inPlace := ["internal/bytealg.IndexByteString", "internal/bytealg.IndexString"], unfollowed := true, recurses := true, named := ["unicode/utf8.first", "unicode/utf8.acceptRanges", "internal/bytealg.MaxLen"], apart := false, laid := [("unicode/utf8.acceptRanges", laid_unicode_utf8_acceptRanges), ("unicode/utf8.first", laid_unicode_utf8_first)], narrowed := true }
def FnExactPassManyUptoSaid : Prop := fnExactPassManyUptoRow.holds Tryd.pinned (OpenSpec.upto fnExactPassManySpec)

/-- 'laws.FnExactAnyOf', WHERE WHAT IT READS IS OF BULK AT MOST 1048576: true; the input reads as it did. -/
def fnExactAnyOfUptoRow : OpenClaim := { program := "ytpmilcfppcmodaadoor", sum := "c2c494783b51003fee3ab9fde23605e8db2e4a3606bae463deaa37986a948a64", func := "loop.example/g01261/laws.FnExactAnyOf", spec := "fnExactAnyOf", inPlace := ["internal/bytealg.IndexByteString", "internal/bytealg.IndexString"], unfollowed := true, recurses := true, named := ["unicode/utf8.first", "unicode/utf8.acceptRanges", "internal/bytealg.MaxLen"], apart := false, laid := [("unicode/utf8.acceptRanges", laid_unicode_utf8_acceptRanges), ("unicode/utf8.first", laid_unicode_utf8_first)], narrowed := true }
def FnExactAnyOfUptoSaid : Prop := fnExactAnyOfUptoRow.holds Tryd.pinned (OpenSpec.upto fnExactAnyOfSpec)

/-- 'laws.FnExactIsSorted', WHERE WHAT IT READS IS OF BULK AT MOST 1048576: true; the input reads as it did. -/
def fnExactIsSortedUptoRow : OpenClaim := { program := "ytpmilcfppcmodaadoor", sum := "c2c494783b51003fee3ab9fde23605e8db2e4a3606bae463deaa37986a948a64", func := "loop.example/g01261/laws.FnExactIsSorted", spec := "fnExactIsSorted", inPlace := ["internal/bytealg.IndexByteString", "internal/bytealg.IndexString"], unfollowed := true, recurses := true, named := ["unicode/utf8.first", "unicode/utf8.acceptRanges", "internal/bytealg.MaxLen"], apart := false, laid := [("unicode/utf8.acceptRanges", laid_unicode_utf8_acceptRanges), ("unicode/utf8.first", laid_unicode_utf8_first)], narrowed := true }
def FnExactIsSortedUptoSaid : Prop := fnExactIsSortedUptoRow.holds Tryd.pinned (OpenSpec.upto fnExactIsSortedSpec)

/-- 'laws.FnExactFewestNeedles', WHERE WHAT IT READS IS OF BULK AT MOST 1048576: true; the input reads as it did. -/
def fnExactFewestNeedlesUptoRow : OpenClaim := { program := "ytpmilcfppcmodaadoor", sum := "c2c494783b51003fee3ab9fde23605e8db2e4a3606bae463deaa37986a948a64", func := "loop.example/g01261/laws.FnExactFewestNeedles", spec := "fnExactFewestNeedles", inPlace := ["internal/bytealg.IndexByteString", "internal/bytealg.IndexString"], unfollowed := true, recurses := true, named := ["unicode/utf8.first", "unicode/utf8.acceptRanges", "internal/bytealg.MaxLen"], apart := false, laid := [("unicode/utf8.acceptRanges", laid_unicode_utf8_acceptRanges), ("unicode/utf8.first", laid_unicode_utf8_first)], narrowed := true }
def FnExactFewestNeedlesUptoSaid : Prop := fnExactFewestNeedlesUptoRow.holds Tryd.pinned (OpenSpec.upto fnExactFewestNeedlesSpec)

end Rows
end Go.Proofs.YtpmilcfppcmodaaDoor

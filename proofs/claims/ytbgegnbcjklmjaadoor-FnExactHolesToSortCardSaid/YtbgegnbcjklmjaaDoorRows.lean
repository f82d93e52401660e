/-
  NARROWER THAN 'FOR EVERY INPUT', by the rows' own cells (each row's printed sentence says how): FnExactValidCard: laid · FnExactValidField: laid · FnExactHolesOf: laid · FnExactMostOf: laid · FnExactPartOf: laid · FnExactClearField: laid · FnExactHolesToSort: laid · FnExactKeyOf: laid · FnExactEncodeField: laid · FnExactDecodeField: laid · FnExactQueryFor: laid · FnExactPutField: laid.
  DERIVED. THE GIVEN ROWS OF THIS SEAT. 12 by the template 'for every input the law returns true; each argument reads behind the call as it read before'; 0 by the template 'total and deterministic' (their statements: YtbgegnbcjklmjaaDoorTotals.lean).
  GIVEN WITH THE SEED: the statements are not yours to turn. If you find one false, say at which input.
  Laid BY PROGRAM, IN A SANDBOX (cutbox-rows.mjs): the forced cells as the released guide's own fill.sh prints them over the translation 226476293aa88903… (all of the seat's roots in one cut). By AI agents, Wed Nov 11 2026. No macro, syntax, notation, axiom, sorry.
-/
import Derived.Test.YtbgegnbcjklmjaaDoorChecked
import GoSem.PinnedTables
import GoSem.Claim
import GoSem.ClaimJoined
import GoSem.ClaimMapViews
import Derived.JoinedTies
import Derived.KernelRfl
namespace Go.Proofs.YtbgegnbcjklmjaaDoor
/- THE CELL 'sum', in the pinned program and in every row, IS THE sha256 OF THE DUMP (.gsa) THAT YtbgegnbcjklmjaaDoorProg.lean LOADS. Nothing in Lean hashes anything: it is a label: what it is worth is what the hold of that sum in a sandbox is worth. -/
noncomputable def Tryd.pinned : Pinned := { name := "ytbgegnbcjklmjaadoor", sum := "226476293aa88903b21b658431eb9be224d97440002cbc97770b5246c1beb68a", checked := Tryd.checked }
namespace Rows
def none {H : Type} : Left H := { results := [], args := [] }

/- WHAT THE LISTED PACKAGE-LEVEL VARIABLES READ AS WHEN THE CALL BEGINS. Each datum BY PROGRAM (the guide's laid-datum.mjs) off the statement by which the dump's own 'gosem.cut.vars' lays the variable. In a bare row this is a premise. The card (YtbgegnbcjklmjaaDoorCards.lean) ties it to the program's text. -/
def laid_unicode_utf8_acceptRanges {H : Type} : DataW H := .agg [.agg [.lit (.int .u8 128), .lit (.int .u8 191)], .agg [.lit (.int .u8 160), .lit (.int .u8 191)], .agg [.lit (.int .u8 128), .lit (.int .u8 159)], .agg [.lit (.int .u8 144), .lit (.int .u8 191)], .agg [.lit (.int .u8 128), .lit (.int .u8 143)], .agg [.lit (.int .u8 0), .lit (.int .u8 0)], .agg [.lit (.int .u8 0), .lit (.int .u8 0)], .agg [.lit (.int .u8 0), .lit (.int .u8 0)], .agg [.lit (.int .u8 0), .lit (.int .u8 0)], .agg [.lit (.int .u8 0), .lit (.int .u8 0)], .agg [.lit (.int .u8 0), .lit (.int .u8 0)], .agg [.lit (.int .u8 0), .lit (.int .u8 0)], .agg [.lit (.int .u8 0), .lit (.int .u8 0)], .agg [.lit (.int .u8 0), .lit (.int .u8 0)], .agg [.lit (.int .u8 0), .lit (.int .u8 0)], .agg [.lit (.int .u8 0), .lit (.int .u8 0)]]
/-- One of Go's own tables, pinned by name: the form's constant. -/
def laid_unicode_utf8_first : DataW Unit := Go.Pinned.utf8First

/-- 'laws.FnExactValidCard': WHATEVER THE INPUT: true; the input reads as it did. -/
def fnExactValidCardSpec : ChangeSpec := { name := "fnExactValidCard", fn := fun _ => fun
  | [d] => { results := [.lit (.bool true)], args := [d] }
  | _ => none }
def fnExactValidCardRow : OpenClaim := { program := "ytbgegnbcjklmjaadoor", sum := "226476293aa88903b21b658431eb9be224d97440002cbc97770b5246c1beb68a", func := "loop.example/g01261/laws.FnExactValidCard", spec := "fnExactValidCard", inPlace := ["internal/bytealg.IndexByteString", "internal/bytealg.IndexString"], named := ["unicode/utf8.first", "unicode/utf8.acceptRanges", "internal/bytealg.MaxLen"], apart := false, laid := [("unicode/utf8.acceptRanges", laid_unicode_utf8_acceptRanges), ("unicode/utf8.first", laid_unicode_utf8_first)] }
def FnExactValidCardSaid : Prop := fnExactValidCardRow.holds Tryd.pinned (OpenSpec.ofChange fnExactValidCardSpec)

/-- ITS FALSE NEIGHBOUR: 'it returns false'. Refute it at one input. -/
def fnExactValidCardWrong : ChangeSpec := { name := "fnExactValidCard", fn := fun _ => fun
  | [d] => { results := [.lit (.bool false)], args := [d] }
  | _ => none }
def FnExactValidCardWrongFalsely : Prop := fnExactValidCardRow.holds Tryd.pinned (OpenSpec.ofChange fnExactValidCardWrong)

/-- 'laws.FnExactValidField': WHATEVER THE INPUT: true; the input reads as it did. -/
def fnExactValidFieldSpec : ChangeSpec := { name := "fnExactValidField", fn := fun _ => fun
  | [d] => { results := [.lit (.bool true)], args := [d] }
  | _ => none }
def fnExactValidFieldRow : OpenClaim := { program := "ytbgegnbcjklmjaadoor", sum := "226476293aa88903b21b658431eb9be224d97440002cbc97770b5246c1beb68a", func := "loop.example/g01261/laws.FnExactValidField", spec := "fnExactValidField", inPlace := ["internal/bytealg.IndexByteString", "internal/bytealg.IndexString"], named := ["unicode/utf8.first", "unicode/utf8.acceptRanges", "internal/bytealg.MaxLen"], apart := false, laid := [("unicode/utf8.acceptRanges", laid_unicode_utf8_acceptRanges), ("unicode/utf8.first", laid_unicode_utf8_first)] }
def FnExactValidFieldSaid : Prop := fnExactValidFieldRow.holds Tryd.pinned (OpenSpec.ofChange fnExactValidFieldSpec)

/-- ITS FALSE NEIGHBOUR: 'it returns false'. Refute it at one input. -/
def fnExactValidFieldWrong : ChangeSpec := { name := "fnExactValidField", fn := fun _ => fun
  | [d] => { results := [.lit (.bool false)], args := [d] }
  | _ => none }
def FnExactValidFieldWrongFalsely : Prop := fnExactValidFieldRow.holds Tryd.pinned (OpenSpec.ofChange fnExactValidFieldWrong)

/-- 'laws.FnExactHolesOf': WHATEVER THE INPUT: true; the input reads as it did. -/
def fnExactHolesOfSpec : ChangeSpec := { name := "fnExactHolesOf", fn := fun _ => fun
  | [d] => { results := [.lit (.bool true)], args := [d] }
  | _ => none }
def fnExactHolesOfRow : OpenClaim := { program := "ytbgegnbcjklmjaadoor", sum := "226476293aa88903b21b658431eb9be224d97440002cbc97770b5246c1beb68a", func := "loop.example/g01261/laws.FnExactHolesOf", spec := "fnExactHolesOf", inPlace := ["internal/bytealg.IndexByteString", "internal/bytealg.IndexString"], named := ["unicode/utf8.first", "unicode/utf8.acceptRanges", "internal/bytealg.MaxLen"], apart := false, laid := [("unicode/utf8.acceptRanges", laid_unicode_utf8_acceptRanges), ("unicode/utf8.first", laid_unicode_utf8_first)] }
def FnExactHolesOfSaid : Prop := fnExactHolesOfRow.holds Tryd.pinned (OpenSpec.ofChange fnExactHolesOfSpec)

/-- ITS FALSE NEIGHBOUR: 'it returns false'. Refute it at one input. -/
def fnExactHolesOfWrong : ChangeSpec := { name := "fnExactHolesOf", fn := fun _ => fun
  | [d] => { results := [.lit (.bool false)], args := [d] }
  | _ => none }
def FnExactHolesOfWrongFalsely : Prop := fnExactHolesOfRow.holds Tryd.pinned (OpenSpec.ofChange fnExactHolesOfWrong)

/-- 'laws.FnExactMostOf': WHATEVER THE INPUT: true; the input reads as it did. -/
def fnExactMostOfSpec : ChangeSpec := { name := "fnExactMostOf", fn := fun _ => fun
  | [d] => { results := [.lit (.bool true)], args := [d] }
  | _ => none }
def fnExactMostOfRow : OpenClaim := { program := "ytbgegnbcjklmjaadoor", sum := "226476293aa88903b21b658431eb9be224d97440002cbc97770b5246c1beb68a", func := "loop.example/g01261/laws.FnExactMostOf", spec := "fnExactMostOf", inPlace := ["internal/bytealg.IndexByteString", "internal/bytealg.IndexString"], named := ["unicode/utf8.first", "unicode/utf8.acceptRanges", "internal/bytealg.MaxLen"], apart := false, laid := [("unicode/utf8.acceptRanges", laid_unicode_utf8_acceptRanges), ("unicode/utf8.first", laid_unicode_utf8_first)] }
def FnExactMostOfSaid : Prop := fnExactMostOfRow.holds Tryd.pinned (OpenSpec.ofChange fnExactMostOfSpec)

/-- ITS FALSE NEIGHBOUR: 'it returns false'. Refute it at one input. -/
def fnExactMostOfWrong : ChangeSpec := { name := "fnExactMostOf", fn := fun _ => fun
  | [d] => { results := [.lit (.bool false)], args := [d] }
  | _ => none }
def FnExactMostOfWrongFalsely : Prop := fnExactMostOfRow.holds Tryd.pinned (OpenSpec.ofChange fnExactMostOfWrong)

/-- 'laws.FnExactPartOf': WHATEVER THE INPUT: true; the input reads as it did. -/
def fnExactPartOfSpec : ChangeSpec := { name := "fnExactPartOf", fn := fun _ => fun
  | [d] => { results := [.lit (.bool true)], args := [d] }
  | _ => none }
def fnExactPartOfRow : OpenClaim := { program := "ytbgegnbcjklmjaadoor", sum := "226476293aa88903b21b658431eb9be224d97440002cbc97770b5246c1beb68a", func := "loop.example/g01261/laws.FnExactPartOf", spec := "fnExactPartOf", inPlace := ["internal/bytealg.IndexByteString", "internal/bytealg.IndexString"], named := ["unicode/utf8.first", "unicode/utf8.acceptRanges", "internal/bytealg.MaxLen"], apart := false, laid := [("unicode/utf8.acceptRanges", laid_unicode_utf8_acceptRanges), ("unicode/utf8.first", laid_unicode_utf8_first)] }
def FnExactPartOfSaid : Prop := fnExactPartOfRow.holds Tryd.pinned (OpenSpec.ofChange fnExactPartOfSpec)

/-- ITS FALSE NEIGHBOUR: 'it returns false'. Refute it at one input. -/
def fnExactPartOfWrong : ChangeSpec := { name := "fnExactPartOf", fn := fun _ => fun
  | [d] => { results := [.lit (.bool false)], args := [d] }
  | _ => none }
def FnExactPartOfWrongFalsely : Prop := fnExactPartOfRow.holds Tryd.pinned (OpenSpec.ofChange fnExactPartOfWrong)

/-- 'laws.FnExactClearField': WHATEVER THE INPUT: true; the input reads as it did. -/
def fnExactClearFieldSpec : ChangeSpec := { name := "fnExactClearField", fn := fun _ => fun
  | [d1, d2] => { results := [.lit (.bool true)], args := [d1, d2] }
  | _ => none }
def fnExactClearFieldRow : OpenClaim := { program := "ytbgegnbcjklmjaadoor", sum := "226476293aa88903b21b658431eb9be224d97440002cbc97770b5246c1beb68a", func := "loop.example/g01261/laws.FnExactClearField", spec := "fnExactClearField", inPlace := ["internal/bytealg.IndexByteString", "internal/bytealg.IndexString"], named := ["unicode/utf8.first", "unicode/utf8.acceptRanges", "internal/bytealg.MaxLen"], apart := false, laid := [("unicode/utf8.acceptRanges", laid_unicode_utf8_acceptRanges), ("unicode/utf8.first", laid_unicode_utf8_first)] }
def FnExactClearFieldSaid : Prop := fnExactClearFieldRow.holds Tryd.pinned (OpenSpec.ofChange fnExactClearFieldSpec)

/-- ITS FALSE NEIGHBOUR: 'it returns false'. Refute it at one input. -/
def fnExactClearFieldWrong : ChangeSpec := { name := "fnExactClearField", fn := fun _ => fun
  | [d1, d2] => { results := [.lit (.bool false)], args := [d1, d2] }
  | _ => none }
def FnExactClearFieldWrongFalsely : Prop := fnExactClearFieldRow.holds Tryd.pinned (OpenSpec.ofChange fnExactClearFieldWrong)

/-- 'laws.FnExactHolesToSort': WHATEVER THE INPUT: true; the input reads as it did. -/
def fnExactHolesToSortSpec : ChangeSpec := { name := "fnExactHolesToSort", fn := fun _ => fun
  | [d] => { results := [.lit (.bool true)], args := [d] }
  | _ => none }
def fnExactHolesToSortRow : OpenClaim := { program := "ytbgegnbcjklmjaadoor", sum := "226476293aa88903b21b658431eb9be224d97440002cbc97770b5246c1beb68a", func := "loop.example/g01261/laws.FnExactHolesToSort", spec := "fnExactHolesToSort", inPlace := ["internal/bytealg.IndexByteString", "internal/bytealg.IndexString"], named := ["unicode/utf8.first", "unicode/utf8.acceptRanges", "internal/bytealg.MaxLen"], apart := false, laid := [("unicode/utf8.acceptRanges", laid_unicode_utf8_acceptRanges), ("unicode/utf8.first", laid_unicode_utf8_first)] }
def FnExactHolesToSortSaid : Prop := fnExactHolesToSortRow.holds Tryd.pinned (OpenSpec.ofChange fnExactHolesToSortSpec)

/-- ITS FALSE NEIGHBOUR: 'it returns false'. Refute it at one input. -/
def fnExactHolesToSortWrong : ChangeSpec := { name := "fnExactHolesToSort", fn := fun _ => fun
  | [d] => { results := [.lit (.bool false)], args := [d] }
  | _ => none }
def FnExactHolesToSortWrongFalsely : Prop := fnExactHolesToSortRow.holds Tryd.pinned (OpenSpec.ofChange fnExactHolesToSortWrong)

/-- 'laws.FnExactKeyOf': WHATEVER THE INPUT: true; the input reads as it did. -/
def fnExactKeyOfSpec : ChangeSpec := { name := "fnExactKeyOf", fn := fun _ => fun
  | [d1, d2] => { results := [.lit (.bool true)], args := [d1, d2] }
  | _ => none }
def fnExactKeyOfRow : OpenClaim := { program := "ytbgegnbcjklmjaadoor", sum := "226476293aa88903b21b658431eb9be224d97440002cbc97770b5246c1beb68a", func := "loop.example/g01261/laws.FnExactKeyOf", spec := "fnExactKeyOf", inPlace := ["internal/bytealg.IndexByteString", "internal/bytealg.IndexString"], named := ["unicode/utf8.first", "unicode/utf8.acceptRanges", "internal/bytealg.MaxLen"], apart := false, laid := [("unicode/utf8.acceptRanges", laid_unicode_utf8_acceptRanges), ("unicode/utf8.first", laid_unicode_utf8_first)] }
def FnExactKeyOfSaid : Prop := fnExactKeyOfRow.holds Tryd.pinned (OpenSpec.ofChange fnExactKeyOfSpec)

/-- ITS FALSE NEIGHBOUR: 'it returns false'. Refute it at one input. -/
def fnExactKeyOfWrong : ChangeSpec := { name := "fnExactKeyOf", fn := fun _ => fun
  | [d1, d2] => { results := [.lit (.bool false)], args := [d1, d2] }
  | _ => none }
def FnExactKeyOfWrongFalsely : Prop := fnExactKeyOfRow.holds Tryd.pinned (OpenSpec.ofChange fnExactKeyOfWrong)

/-- 'laws.FnExactEncodeField': WHATEVER THE INPUT: true; the input reads as it did. -/
def fnExactEncodeFieldSpec : ChangeSpec := { name := "fnExactEncodeField", fn := fun _ => fun
  | [d1, d2] => { results := [.lit (.bool true)], args := [d1, d2] }
  | _ => none }
def fnExactEncodeFieldRow : OpenClaim := { program := "ytbgegnbcjklmjaadoor", sum := "226476293aa88903b21b658431eb9be224d97440002cbc97770b5246c1beb68a", func := "loop.example/g01261/laws.FnExactEncodeField", spec := "fnExactEncodeField", inPlace := ["internal/bytealg.IndexByteString", "internal/bytealg.IndexString"], named := ["unicode/utf8.first", "unicode/utf8.acceptRanges", "internal/bytealg.MaxLen"], apart := false, laid := [("unicode/utf8.acceptRanges", laid_unicode_utf8_acceptRanges), ("unicode/utf8.first", laid_unicode_utf8_first)] }
def FnExactEncodeFieldSaid : Prop := fnExactEncodeFieldRow.holds Tryd.pinned (OpenSpec.ofChange fnExactEncodeFieldSpec)

/-- ITS FALSE NEIGHBOUR: 'it returns false'. Refute it at one input. -/
def fnExactEncodeFieldWrong : ChangeSpec := { name := "fnExactEncodeField", fn := fun _ => fun
  | [d1, d2] => { results := [.lit (.bool false)], args := [d1, d2] }
  | _ => none }
def FnExactEncodeFieldWrongFalsely : Prop := fnExactEncodeFieldRow.holds Tryd.pinned (OpenSpec.ofChange fnExactEncodeFieldWrong)

/-- 'laws.FnExactDecodeField': WHATEVER THE INPUT: true; the input reads as it did. -/
def fnExactDecodeFieldSpec : ChangeSpec := { name := "fnExactDecodeField", fn := fun _ => fun
  | [d1, d2] => { results := [.lit (.bool true)], args := [d1, d2] }
  | _ => none }
def fnExactDecodeFieldRow : OpenClaim := { program := "ytbgegnbcjklmjaadoor", sum := "226476293aa88903b21b658431eb9be224d97440002cbc97770b5246c1beb68a", func := "loop.example/g01261/laws.FnExactDecodeField", spec := "fnExactDecodeField", inPlace := ["internal/bytealg.IndexByteString", "internal/bytealg.IndexString"], named := ["unicode/utf8.first", "unicode/utf8.acceptRanges", "internal/bytealg.MaxLen"], apart := false, laid := [("unicode/utf8.acceptRanges", laid_unicode_utf8_acceptRanges), ("unicode/utf8.first", laid_unicode_utf8_first)] }
def FnExactDecodeFieldSaid : Prop := fnExactDecodeFieldRow.holds Tryd.pinned (OpenSpec.ofChange fnExactDecodeFieldSpec)

/-- ITS FALSE NEIGHBOUR: 'it returns false'. Refute it at one input. -/
def fnExactDecodeFieldWrong : ChangeSpec := { name := "fnExactDecodeField", fn := fun _ => fun
  | [d1, d2] => { results := [.lit (.bool false)], args := [d1, d2] }
  | _ => none }
def FnExactDecodeFieldWrongFalsely : Prop := fnExactDecodeFieldRow.holds Tryd.pinned (OpenSpec.ofChange fnExactDecodeFieldWrong)

/-- 'laws.FnExactQueryFor': WHATEVER THE INPUT: true; the input reads as it did. -/
def fnExactQueryForSpec : ChangeSpec := { name := "fnExactQueryFor", fn := fun _ => fun
  | [d1, d2] => { results := [.lit (.bool true)], args := [d1, d2] }
  | _ => none }
def fnExactQueryForRow : OpenClaim := { program := "ytbgegnbcjklmjaadoor", sum := "226476293aa88903b21b658431eb9be224d97440002cbc97770b5246c1beb68a", func := "loop.example/g01261/laws.FnExactQueryFor", spec := "fnExactQueryFor", inPlace := ["internal/bytealg.IndexByteString", "internal/bytealg.IndexString"], named := ["unicode/utf8.first", "unicode/utf8.acceptRanges", "internal/bytealg.MaxLen"], apart := false, laid := [("unicode/utf8.acceptRanges", laid_unicode_utf8_acceptRanges), ("unicode/utf8.first", laid_unicode_utf8_first)] }
def FnExactQueryForSaid : Prop := fnExactQueryForRow.holds Tryd.pinned (OpenSpec.ofChange fnExactQueryForSpec)

/-- ITS FALSE NEIGHBOUR: 'it returns false'. Refute it at one input. -/
def fnExactQueryForWrong : ChangeSpec := { name := "fnExactQueryFor", fn := fun _ => fun
  | [d1, d2] => { results := [.lit (.bool false)], args := [d1, d2] }
  | _ => none }
def FnExactQueryForWrongFalsely : Prop := fnExactQueryForRow.holds Tryd.pinned (OpenSpec.ofChange fnExactQueryForWrong)

/-- 'laws.FnExactPutField': WHATEVER THE INPUT: true; the input reads as it did. -/
def fnExactPutFieldSpec : ChangeSpec := { name := "fnExactPutField", fn := fun _ => fun
  | [d1, d2, d3] => { results := [.lit (.bool true)], args := [d1, d2, d3] }
  | _ => none }
def fnExactPutFieldRow : OpenClaim := { program := "ytbgegnbcjklmjaadoor", sum := "226476293aa88903b21b658431eb9be224d97440002cbc97770b5246c1beb68a", func := "loop.example/g01261/laws.FnExactPutField", spec := "fnExactPutField", inPlace := ["internal/bytealg.IndexByteString", "internal/bytealg.IndexString"], named := ["unicode/utf8.first", "unicode/utf8.acceptRanges", "internal/bytealg.MaxLen"], apart := false, laid := [("unicode/utf8.acceptRanges", laid_unicode_utf8_acceptRanges), ("unicode/utf8.first", laid_unicode_utf8_first)] }
def FnExactPutFieldSaid : Prop := fnExactPutFieldRow.holds Tryd.pinned (OpenSpec.ofChange fnExactPutFieldSpec)

/-- ITS FALSE NEIGHBOUR: 'it returns false'. Refute it at one input. -/
def fnExactPutFieldWrong : ChangeSpec := { name := "fnExactPutField", fn := fun _ => fun
  | [d1, d2, d3] => { results := [.lit (.bool false)], args := [d1, d2, d3] }
  | _ => none }
def FnExactPutFieldWrongFalsely : Prop := fnExactPutFieldRow.holds Tryd.pinned (OpenSpec.ofChange fnExactPutFieldWrong)

/- THE SECOND FORM. 'bulk': how many values and letters a reading holds, each counted each time it is reached (what is shared counts as often as it is met; a slice's spare places count too). A statement '..UptoSaid' is the law's where the arguments, and the package variables that the reading takes, are together of bulk at most 1048576: NARROWER than '..Said'. Prove '..Said' where nothing that the law and all that it calls make is longer than what came in: it says more and counts as full. Else prove '..UptoSaid'. A law counts once. -/
mutual
def uptoBulk {H : Type} : DataW H → Nat
  | .lit (.string bytes) => bytes.length + 1
  | .lit _ => 1
  | .nil => 1
  | .ptr d => uptoBulk d + 1
  | .slice elems spare => uptoBulkAll elems + uptoBulkAll spare + 1
  | .agg parts => uptoBulkAll parts + 1
  | .iface _ d => uptoBulk d + 1
  | .map entries => uptoBulkEntries entries + 1
  | .held _ => 1
def uptoBulkAll {H : Type} : List (DataW H) → Nat
  | [] => 0
  | d :: r => uptoBulk d + uptoBulkAll r
def uptoBulkEntries {H : Type} : List (Lit × DataW H) → Nat
  | [] => 0
  | x :: r => uptoBulkEntry x + uptoBulkEntries r
def uptoBulkEntry {H : Type} : Lit × DataW H → Nat
  | (.string bytes, d) => bytes.length + uptoBulk d + 1
  | (_, d) => uptoBulk d + 1
 end
def uptoSmall : (H : Type) → List (DataW H) → Bool := fun _ ds => decide (uptoBulkAll ds ≤ 1048576)
def OpenSpec.upto (s : _root_.Go.ChangeSpec) : _root_.Go.OpenSpec := { _root_.Go.OpenSpec.ofChange s with cond := some uptoSmall }

/-- 'laws.FnExactValidCard', WHERE WHAT IT READS IS OF BULK AT MOST 1048576: true; the input reads as it did. -/
def fnExactValidCardUptoRow : OpenClaim := { program := "ytbgegnbcjklmjaadoor", sum := "226476293aa88903b21b658431eb9be224d97440002cbc97770b5246c1beb68a", func := "loop.example/g01261/laws.FnExactValidCard", spec := "fnExactValidCard", inPlace := ["internal/bytealg.IndexByteString", "internal/bytealg.IndexString"], named := ["unicode/utf8.first", "unicode/utf8.acceptRanges", "internal/bytealg.MaxLen"], apart := false, laid := [("unicode/utf8.acceptRanges", laid_unicode_utf8_acceptRanges), ("unicode/utf8.first", laid_unicode_utf8_first)], narrowed := true }
def FnExactValidCardUptoSaid : Prop := fnExactValidCardUptoRow.holds Tryd.pinned (OpenSpec.upto fnExactValidCardSpec)

/-- 'laws.FnExactValidField', WHERE WHAT IT READS IS OF BULK AT MOST 1048576: true; the input reads as it did. -/
def fnExactValidFieldUptoRow : OpenClaim := { program := "ytbgegnbcjklmjaadoor", sum := "226476293aa88903b21b658431eb9be224d97440002cbc97770b5246c1beb68a", func := "loop.example/g01261/laws.FnExactValidField", spec := "fnExactValidField", inPlace := ["internal/bytealg.IndexByteString", "internal/bytealg.IndexString"], named := ["unicode/utf8.first", "unicode/utf8.acceptRanges", "internal/bytealg.MaxLen"], apart := false, laid := [("unicode/utf8.acceptRanges", laid_unicode_utf8_acceptRanges), ("unicode/utf8.first", laid_unicode_utf8_first)], narrowed := true }
def FnExactValidFieldUptoSaid : Prop := fnExactValidFieldUptoRow.holds Tryd.pinned (OpenSpec.upto fnExactValidFieldSpec)

/-- 'laws.FnExactHolesOf', WHERE WHAT IT READS IS OF BULK AT MOST 1048576: true; the input reads as it did. -/
def fnExactHolesOfUptoRow : OpenClaim := { program := "ytbgegnbcjklmjaadoor", sum := "226476293aa88903b21b658431eb9be224d97440002cbc97770b5246c1beb68a", func := "loop.example/g01261/laws.FnExactHolesOf", spec := "fnExactHolesOf", inPlace := ["internal/bytealg.IndexByteString", "internal/bytealg.IndexString"], named := ["unicode/utf8.first", "unicode/utf8.acceptRanges", "internal/bytealg.MaxLen"], apart := false, laid := [("unicode/utf8.acceptRanges", laid_unicode_utf8_acceptRanges), ("unicode/utf8.first", laid_unicode_utf8_first)], narrowed := true }
def FnExactHolesOfUptoSaid : Prop := fnExactHolesOfUptoRow.holds Tryd.pinned (OpenSpec.upto fnExactHolesOfSpec)

/-- 'laws.FnExactMostOf', WHERE WHAT IT READS IS OF BULK AT MOST 1048576: true; the input reads as it did. -/
def fnExactMostOfUptoRow : OpenClaim := { program := "ytbgegnbcjklmjaadoor", sum := "226476293aa88903b21b658431eb9be224d97440002cbc97770b5246c1beb68a", func := "loop.example/g01261/laws.FnExactMostOf", spec := "fnExactMostOf", inPlace := ["internal/bytealg.IndexByteString", "internal/bytealg.IndexString"], named := ["unicode/utf8.first", "unicode/utf8.acceptRanges", "internal/bytealg.MaxLen"], apart := false, laid := [("unicode/utf8.acceptRanges", laid_unicode_utf8_acceptRanges), ("unicode/utf8.first", laid_unicode_utf8_first)], narrowed := true }
def FnExactMostOfUptoSaid : Prop := fnExactMostOfUptoRow.holds Tryd.pinned (OpenSpec.upto fnExactMostOfSpec)

/-- 'laws.FnExactPartOf', WHERE WHAT IT READS IS OF BULK AT MOST 1048576: true; the input reads as it did. -/
def fnExactPartOfUptoRow : OpenClaim := { program := "ytbgegnbcjklmjaadoor", sum := "226476293aa88903b21b658431eb9be224d97440002cbc97770b5246c1beb68a", func := "loop.example/g01261/laws.FnExactPartOf", spec := "fnExactPartOf", inPlace := ["internal/bytealg.IndexByteString", "internal/bytealg.IndexString"], named := ["unicode/utf8.first", "unicode/utf8.acceptRanges", "internal/bytealg.MaxLen"], apart := false, laid := [("unicode/utf8.acceptRanges", laid_unicode_utf8_acceptRanges), ("unicode/utf8.first", laid_unicode_utf8_first)], narrowed := true }
def FnExactPartOfUptoSaid : Prop := fnExactPartOfUptoRow.holds Tryd.pinned (OpenSpec.upto fnExactPartOfSpec)

/-- 'laws.FnExactClearField', WHERE WHAT IT READS IS OF BULK AT MOST 1048576: true; the input reads as it did. -/
def fnExactClearFieldUptoRow : OpenClaim := { program := "ytbgegnbcjklmjaadoor", sum := "226476293aa88903b21b658431eb9be224d97440002cbc97770b5246c1beb68a", func := "loop.example/g01261/laws.FnExactClearField", spec := "fnExactClearField", inPlace := ["internal/bytealg.IndexByteString", "internal/bytealg.IndexString"], named := ["unicode/utf8.first", "unicode/utf8.acceptRanges", "internal/bytealg.MaxLen"], apart := false, laid := [("unicode/utf8.acceptRanges", laid_unicode_utf8_acceptRanges), ("unicode/utf8.first", laid_unicode_utf8_first)], narrowed := true }
def FnExactClearFieldUptoSaid : Prop := fnExactClearFieldUptoRow.holds Tryd.pinned (OpenSpec.upto fnExactClearFieldSpec)

/-- 'laws.FnExactHolesToSort', WHERE WHAT IT READS IS OF BULK AT MOST 1048576: true; the input reads as it did. -/
def fnExactHolesToSortUptoRow : OpenClaim := { program := "ytbgegnbcjklmjaadoor", sum := "226476293aa88903b21b658431eb9be224d97440002cbc97770b5246c1beb68a", func := "loop.example/g01261/laws.FnExactHolesToSort", spec := "fnExactHolesToSort", inPlace := ["internal/bytealg.IndexByteString", "internal/bytealg.IndexString"], named := ["unicode/utf8.first", "unicode/utf8.acceptRanges", "internal/bytealg.MaxLen"], apart := false, laid := [("unicode/utf8.acceptRanges", laid_unicode_utf8_acceptRanges), ("unicode/utf8.first", laid_unicode_utf8_first)], narrowed := true }
def FnExactHolesToSortUptoSaid : Prop := fnExactHolesToSortUptoRow.holds Tryd.pinned (OpenSpec.upto fnExactHolesToSortSpec)

/-- 'laws.FnExactKeyOf', WHERE WHAT IT READS IS OF BULK AT MOST 1048576: true; the input reads as it did. -/
def fnExactKeyOfUptoRow : OpenClaim := { program := "ytbgegnbcjklmjaadoor", sum := "226476293aa88903b21b658431eb9be224d97440002cbc97770b5246c1beb68a", func := "loop.example/g01261/laws.FnExactKeyOf", spec := "fnExactKeyOf", inPlace := ["internal/bytealg.IndexByteString", "internal/bytealg.IndexString"], named := ["unicode/utf8.first", "unicode/utf8.acceptRanges", "internal/bytealg.MaxLen"], apart := false, laid := [("unicode/utf8.acceptRanges", laid_unicode_utf8_acceptRanges), ("unicode/utf8.first", laid_unicode_utf8_first)], narrowed := true }
def FnExactKeyOfUptoSaid : Prop := fnExactKeyOfUptoRow.holds Tryd.pinned (OpenSpec.upto fnExactKeyOfSpec)

/-- 'laws.FnExactEncodeField', WHERE WHAT IT READS IS OF BULK AT MOST 1048576: true; the input reads as it did. -/
def fnExactEncodeFieldUptoRow : OpenClaim := { program := "ytbgegnbcjklmjaadoor", sum := "226476293aa88903b21b658431eb9be224d97440002cbc97770b5246c1beb68a", func := "loop.example/g01261/laws.FnExactEncodeField", spec := "fnExactEncodeField", inPlace := ["internal/bytealg.IndexByteString", "internal/bytealg.IndexString"], named := ["unicode/utf8.first", "unicode/utf8.acceptRanges", "internal/bytealg.MaxLen"], apart := false, laid := [("unicode/utf8.acceptRanges", laid_unicode_utf8_acceptRanges), ("unicode/utf8.first", laid_unicode_utf8_first)], narrowed := true }
def FnExactEncodeFieldUptoSaid : Prop := fnExactEncodeFieldUptoRow.holds Tryd.pinned (OpenSpec.upto fnExactEncodeFieldSpec)

/-- 'laws.FnExactDecodeField', WHERE WHAT IT READS IS OF BULK AT MOST 1048576: true; the input reads as it did. -/
def fnExactDecodeFieldUptoRow : OpenClaim := { program := "ytbgegnbcjklmjaadoor", sum := "226476293aa88903b21b658431eb9be224d97440002cbc97770b5246c1beb68a", func := "loop.example/g01261/laws.FnExactDecodeField", spec := "fnExactDecodeField", inPlace := ["internal/bytealg.IndexByteString", "internal/bytealg.IndexString"], named := ["unicode/utf8.first", "unicode/utf8.acceptRanges", "internal/bytealg.MaxLen"], apart := false, laid := [("unicode/utf8.acceptRanges", laid_unicode_utf8_acceptRanges), ("unicode/utf8.first", laid_unicode_utf8_first)], narrowed := true }
def FnExactDecodeFieldUptoSaid : Prop := fnExactDecodeFieldUptoRow.holds Tryd.pinned (OpenSpec.upto fnExactDecodeFieldSpec)

/-- 'laws.FnExactQueryFor', WHERE WHAT IT READS IS OF BULK AT MOST 1048576: true; the input reads as it did. -/
def fnExactQueryForUptoRow : OpenClaim := { program := "ytbgegnbcjklmjaadoor", sum := "226476293aa88903b21b658431eb9be224d97440002cbc97770b5246c1beb68a", func := "loop.example/g01261/laws.FnExactQueryFor", spec := "fnExactQueryFor", inPlace := ["internal/bytealg.IndexByteString", "internal/bytealg.IndexString"], named := ["unicode/utf8.first", "unicode/utf8.acceptRanges", "internal/bytealg.MaxLen"], apart := false, laid := [("unicode/utf8.acceptRanges", laid_unicode_utf8_acceptRanges), ("unicode/utf8.first", laid_unicode_utf8_first)], narrowed := true }
def FnExactQueryForUptoSaid : Prop := fnExactQueryForUptoRow.holds Tryd.pinned (OpenSpec.upto fnExactQueryForSpec)

/-- 'laws.FnExactPutField', WHERE WHAT IT READS IS OF BULK AT MOST 1048576: true; the input reads as it did. -/
def fnExactPutFieldUptoRow : OpenClaim := { program := "ytbgegnbcjklmjaadoor", sum := "226476293aa88903b21b658431eb9be224d97440002cbc97770b5246c1beb68a", func := "loop.example/g01261/laws.FnExactPutField", spec := "fnExactPutField", inPlace := ["internal/bytealg.IndexByteString", "internal/bytealg.IndexString"], named := ["unicode/utf8.first", "unicode/utf8.acceptRanges", "internal/bytealg.MaxLen"], apart := false, laid := [("unicode/utf8.acceptRanges", laid_unicode_utf8_acceptRanges), ("unicode/utf8.first", laid_unicode_utf8_first)], narrowed := true }
def FnExactPutFieldUptoSaid : Prop := fnExactPutFieldUptoRow.holds Tryd.pinned (OpenSpec.upto fnExactPutFieldSpec)

end Rows
end Go.Proofs.YtbgegnbcjklmjaaDoor

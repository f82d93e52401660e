/-
  NARROWER THAN 'FOR EVERY INPUT', by the rows' own cells (each row's printed sentence says how): FnExactTrueOf: laid · FnExactAlikeWords: laid · FnExactMaybeWords: laid · FnWords: laid.
  DERIVED. THE GIVEN ROWS OF THIS SEAT. 4 by the template 'for every input the law returns true; each argument reads behind the call as it read before'; 0 by the template 'total and deterministic' (their statements: YtbbnhbfofdhnbaaDoorTotals.lean).
  GIVEN WITH THE SEED: the statements are not yours to turn. If you find one false, say at which input.
  Laid BY PROGRAM, IN A SANDBOX (cutbox-rows.mjs): the forced cells as the released guide's own fill.sh prints them over the translation 4092bced99f39ab5… (all of the seat's roots in one cut). By AI agents, Wed Nov 11 2026. No macro, syntax, notation, axiom, sorry.
-/
import Derived.Test.YtbbnhbfofdhnbaaDoorChecked
import GoSem.PinnedTables
import GoSem.Claim
import GoSem.ClaimJoined
import GoSem.ClaimMapViews
import Derived.JoinedTies
import Derived.KernelRfl
namespace Go.Proofs.YtbbnhbfofdhnbaaDoor
/- THE CELL 'sum', in the pinned program and in every row, IS THE sha256 OF THE DUMP (.gsa) THAT YtbbnhbfofdhnbaaDoorProg.lean LOADS. Nothing in Lean hashes anything: it is a label: what it is worth is what the hold of that sum in a sandbox is worth. -/
noncomputable def Tryd.pinned : Pinned := { name := "ytbbnhbfofdhnbaadoor", sum := "4092bced99f39ab5fe5517b4bbc4d110be22bcc3141d1215261c900f6189293d", checked := Tryd.checked }
namespace Rows
def none {H : Type} : Left H := { results := [], args := [] }

/- WHAT THE LISTED PACKAGE-LEVEL VARIABLES READ AS WHEN THE CALL BEGINS. Each datum BY PROGRAM (the guide's laid-datum.mjs) off the statement by which the dump's own 'gosem.cut.vars' lays the variable. In a bare row this is a premise. The card (YtbbnhbfofdhnbaaDoorCards.lean) ties it to the program's text. -/
def laid_unicode_utf8_acceptRanges {H : Type} : DataW H := .agg [.agg [.lit (.int .u8 128), .lit (.int .u8 191)], .agg [.lit (.int .u8 160), .lit (.int .u8 191)], .agg [.lit (.int .u8 128), .lit (.int .u8 159)], .agg [.lit (.int .u8 144), .lit (.int .u8 191)], .agg [.lit (.int .u8 128), .lit (.int .u8 143)], .agg [.lit (.int .u8 0), .lit (.int .u8 0)], .agg [.lit (.int .u8 0), .lit (.int .u8 0)], .agg [.lit (.int .u8 0), .lit (.int .u8 0)], .agg [.lit (.int .u8 0), .lit (.int .u8 0)], .agg [.lit (.int .u8 0), .lit (.int .u8 0)], .agg [.lit (.int .u8 0), .lit (.int .u8 0)], .agg [.lit (.int .u8 0), .lit (.int .u8 0)], .agg [.lit (.int .u8 0), .lit (.int .u8 0)], .agg [.lit (.int .u8 0), .lit (.int .u8 0)], .agg [.lit (.int .u8 0), .lit (.int .u8 0)], .agg [.lit (.int .u8 0), .lit (.int .u8 0)]]
/-- One of Go's own tables, pinned by name: the form's constant. -/
def laid_unicode_utf8_first : DataW Unit := Go.Pinned.utf8First

/-- 'laws.FnExactTrueOf': WHATEVER THE INPUT: true; the input reads as it did. -/
def fnExactTrueOfSpec : ChangeSpec := { name := "fnExactTrueOf", fn := fun _ => fun
  | [d1, d2] => { results := [.lit (.bool true)], args := [d1, d2] }
  | _ => none }
def fnExactTrueOfRow : OpenClaim := { program := "ytbbnhbfofdhnbaadoor", sum := "4092bced99f39ab5fe5517b4bbc4d110be22bcc3141d1215261c900f6189293d", func := "loop.example/g01261/laws.FnExactTrueOf", spec := "fnExactTrueOf", inPlace := ["internal/bytealg.IndexByteString", "internal/bytealg.IndexString"], unfollowed := true, recurses := true, named := ["unicode/utf8.first", "unicode/utf8.acceptRanges", "internal/bytealg.MaxLen"], apart := false, laid := [("unicode/utf8.acceptRanges", laid_unicode_utf8_acceptRanges), ("unicode/utf8.first", laid_unicode_utf8_first)] }
def FnExactTrueOfSaid : Prop := fnExactTrueOfRow.holds Tryd.pinned (OpenSpec.ofChange fnExactTrueOfSpec)

/-- ITS FALSE NEIGHBOUR: 'it returns false'. Refute it at one input. -/
def fnExactTrueOfWrong : ChangeSpec := { name := "fnExactTrueOf", fn := fun _ => fun
  | [d1, d2] => { results := [.lit (.bool false)], args := [d1, d2] }
  | _ => none }
def FnExactTrueOfWrongFalsely : Prop := fnExactTrueOfRow.holds Tryd.pinned (OpenSpec.ofChange fnExactTrueOfWrong)

/-- 'laws.FnExactAlikeWords': WHATEVER THE INPUT: true; the input reads as it did. -/
def fnExactAlikeWordsSpec : ChangeSpec := { name := "fnExactAlikeWords", fn := fun _ => fun
  | [d1, d2] => { results := [.lit (.bool true)], args := [d1, d2] }
  | _ => none }
def fnExactAlikeWordsRow : OpenClaim := { program := "ytbbnhbfofdhnbaadoor", sum := "4092bced99f39ab5fe5517b4bbc4d110be22bcc3141d1215261c900f6189293d", func := "loop.example/g01261/laws.FnExactAlikeWords", spec := "fnExactAlikeWords", inPlace := ["internal/bytealg.IndexByteString", "internal/bytealg.IndexString"], unfollowed := true, recurses := true, named := ["unicode/utf8.first", "unicode/utf8.acceptRanges", "internal/bytealg.MaxLen"], apart := false, laid := [("unicode/utf8.acceptRanges", laid_unicode_utf8_acceptRanges), ("unicode/utf8.first", laid_unicode_utf8_first)] }
def FnExactAlikeWordsSaid : Prop := fnExactAlikeWordsRow.holds Tryd.pinned (OpenSpec.ofChange fnExactAlikeWordsSpec)

/-- ITS FALSE NEIGHBOUR: 'it returns false'. Refute it at one input. -/
def fnExactAlikeWordsWrong : ChangeSpec := { name := "fnExactAlikeWords", fn := fun _ => fun
  | [d1, d2] => { results := [.lit (.bool false)], args := [d1, d2] }
  | _ => none }
def FnExactAlikeWordsWrongFalsely : Prop := fnExactAlikeWordsRow.holds Tryd.pinned (OpenSpec.ofChange fnExactAlikeWordsWrong)

/-- 'laws.FnExactMaybeWords': WHATEVER THE INPUT: true; the input reads as it did. -/
def fnExactMaybeWordsSpec : ChangeSpec := { name := "fnExactMaybeWords", fn := fun _ => fun
  | [d1, d2, d3] => { results := [.lit (.bool true)], args := [d1, d2, d3] }
  | _ => none }
def fnExactMaybeWordsRow : OpenClaim := { program := "ytbbnhbfofdhnbaadoor", sum := "4092bced99f39ab5fe5517b4bbc4d110be22bcc3141d1215261c900f6189293d", func := "loop.example/g01261/laws.FnExactMaybeWords", spec := "fnExactMaybeWords", inPlace := ["internal/bytealg.IndexByteString", "internal/bytealg.IndexString"], unfollowed := true, recurses := true, named := ["unicode/utf8.first", "unicode/utf8.acceptRanges", "internal/bytealg.MaxLen"], apart := false, laid := [("unicode/utf8.acceptRanges", laid_unicode_utf8_acceptRanges), ("unicode/utf8.first", laid_unicode_utf8_first)] }
def FnExactMaybeWordsSaid : Prop := fnExactMaybeWordsRow.holds Tryd.pinned (OpenSpec.ofChange fnExactMaybeWordsSpec)

/-- ITS FALSE NEIGHBOUR: 'it returns false'. Refute it at one input. -/
def fnExactMaybeWordsWrong : ChangeSpec := { name := "fnExactMaybeWords", fn := fun _ => fun
  | [d1, d2, d3] => { results := [.lit (.bool false)], args := [d1, d2, d3] }
  | _ => none }
def FnExactMaybeWordsWrongFalsely : Prop := fnExactMaybeWordsRow.holds Tryd.pinned (OpenSpec.ofChange fnExactMaybeWordsWrong)

/-- 'laws.FnWords': WHATEVER THE INPUT: true; the input reads as it did. -/
def fnWordsSpec : ChangeSpec := { name := "fnWords", fn := fun _ => fun
  | [d1, d2] => { results := [.lit (.bool true)], args := [d1, d2] }
  | _ => none }
def fnWordsRow : OpenClaim := { program := "ytbbnhbfofdhnbaadoor", sum := "4092bced99f39ab5fe5517b4bbc4d110be22bcc3141d1215261c900f6189293d", func := "loop.example/g01261/laws.FnWords", spec := "fnWords", inPlace := ["internal/bytealg.IndexByteString", "internal/bytealg.IndexString"], unfollowed := true, recurses := true, named := ["unicode/utf8.first", "unicode/utf8.acceptRanges", "internal/bytealg.MaxLen"], apart := false, laid := [("unicode/utf8.acceptRanges", laid_unicode_utf8_acceptRanges), ("unicode/utf8.first", laid_unicode_utf8_first)] }
def FnWordsSaid : Prop := fnWordsRow.holds Tryd.pinned (OpenSpec.ofChange fnWordsSpec)

/-- ITS FALSE NEIGHBOUR: 'it returns false'. Refute it at one input. -/
def fnWordsWrong : ChangeSpec := { name := "fnWords", fn := fun _ => fun
  | [d1, d2] => { results := [.lit (.bool false)], args := [d1, d2] }
  | _ => none }
def FnWordsWrongFalsely : Prop := fnWordsRow.holds Tryd.pinned (OpenSpec.ofChange fnWordsWrong)

/- THE SECOND FORM. 'bulk': how many values and letters a reading holds, each counted each time it is reached (what is shared counts as often as it is met; a slice's spare places count too). A statement '..UptoSaid' is the law's where the arguments, and the package variables that the reading takes, are together of bulk at most 1048576: NARROWER than '..Said'. Prove '..Said' where nothing that the law and all that it calls make is longer than what came in: it says more and counts as full. Else prove '..UptoSaid'. A law counts once. -/
mutual
def uptoBulk {H : Type} : DataW H → Nat
  | .lit (.string bytes) => bytes.length + 1
  | .lit _ => 1
  | .nil => 1
  | .ptr d => uptoBulk d + 1
  | .slice elems spare => uptoBulkAll elems + uptoBulkAll spare + 1
  | .agg parts => uptoBulkAll parts + 1
  | .iface _ d => uptoBulk d + 1
  | .map entries => uptoBulkEntries entries + 1
  | .held _ => 1
def uptoBulkAll {H : Type} : List (DataW H) → Nat
  | [] => 0
  | d :: r => uptoBulk d + uptoBulkAll r
def uptoBulkEntries {H : Type} : List (Lit × DataW H) → Nat
  | [] => 0
  | x :: r => uptoBulkEntry x + uptoBulkEntries r
def uptoBulkEntry {H : Type} : Lit × DataW H → Nat
  | (.string bytes, d) => bytes.length + uptoBulk d + 1
  | (_, d) => uptoBulk d + 1
 end
def uptoSmall : (H : Type) → List (DataW H) → Bool := fun _ ds => decide (uptoBulkAll ds ≤ 1048576)
def OpenSpec.upto (s : _root_.Go.ChangeSpec) : _root_.Go.OpenSpec := { _root_.Go.OpenSpec.ofChange s with cond := some uptoSmall }

/-- 'laws.FnExactTrueOf', WHERE WHAT IT READS IS OF BULK AT MOST 1048576: true; the input reads as it did. -/
def fnExactTrueOfUptoRow : OpenClaim := { program := "ytbbnhbfofdhnbaadoor", sum := "4092bced99f39ab5fe5517b4bbc4d110be22bcc3141d1215261c900f6189293d", func := "loop.example/g01261/laws.FnExactTrueOf", spec := "fnExactTrueOf", inPlace := ["internal/bytealg.IndexByteString", "internal/bytealg.IndexString"], unfollowed := true, recurses := true, named := ["unicode/utf8.first", "unicode/utf8.acceptRanges", "internal/bytealg.MaxLen"], apart := false, laid := [("unicode/utf8.acceptRanges", laid_unicode_utf8_acceptRanges), ("unicode/utf8.first", laid_unicode_utf8_first)], narrowed := true }
def FnExactTrueOfUptoSaid : Prop := fnExactTrueOfUptoRow.holds Tryd.pinned (OpenSpec.upto fnExactTrueOfSpec)

/-- 'laws.FnExactAlikeWords', WHERE WHAT IT READS IS OF BULK AT MOST 1048576: true; the input reads as it did. -/
def fnExactAlikeWordsUptoRow : OpenClaim := { program := "ytbbnhbfofdhnbaadoor", sum := "4092bced99f39ab5fe5517b4bbc4d110be22bcc3141d1215261c900f6189293d", func := "loop.example/g01261/laws.FnExactAlikeWords", spec := "fnExactAlikeWords", inPlace := ["internal/bytealg.IndexByteString", "internal/bytealg.IndexString"], unfollowed := true, recurses := true, named := ["unicode/utf8.first", "unicode/utf8.acceptRanges", "internal/bytealg.MaxLen"], apart := false, laid := [("unicode/utf8.acceptRanges", laid_unicode_utf8_acceptRanges), ("unicode/utf8.first", laid_unicode_utf8_first)], narrowed := true }
def FnExactAlikeWordsUptoSaid : Prop := fnExactAlikeWordsUptoRow.holds Tryd.pinned (OpenSpec.upto fnExactAlikeWordsSpec)

/-- 'laws.FnExactMaybeWords', WHERE WHAT IT READS IS OF BULK AT MOST 1048576: true; the input reads as it did. -/
def fnExactMaybeWordsUptoRow : OpenClaim := { program := "ytbbnhbfofdhnbaadoor", sum := "4092bced99f39ab5fe5517b4bbc4d110be22bcc3141d1215261c900f6189293d", func := "loop.example/g01261/laws.FnExactMaybeWords", spec := "fnExactMaybeWords", inPlace := ["internal/bytealg.IndexByteString", "internal/bytealg.IndexString"], unfollowed := true, recurses := true, named := ["unicode/utf8.first", "unicode/utf8.acceptRanges", "internal/bytealg.MaxLen"], apart := false, laid := [("unicode/utf8.acceptRanges", laid_unicode_utf8_acceptRanges), ("unicode/utf8.first", laid_unicode_utf8_first)], narrowed := true }
def FnExactMaybeWordsUptoSaid : Prop := fnExactMaybeWordsUptoRow.holds Tryd.pinned (OpenSpec.upto fnExactMaybeWordsSpec)

/-- 'laws.FnWords', WHERE WHAT IT READS IS OF BULK AT MOST 1048576: true; the input reads as it did. -/
def fnWordsUptoRow : OpenClaim := { program := "ytbbnhbfofdhnbaadoor", sum := "4092bced99f39ab5fe5517b4bbc4d110be22bcc3141d1215261c900f6189293d", func := "loop.example/g01261/laws.FnWords", spec := "fnWords", inPlace := ["internal/bytealg.IndexByteString", "internal/bytealg.IndexString"], unfollowed := true, recurses := true, named := ["unicode/utf8.first", "unicode/utf8.acceptRanges", "internal/bytealg.MaxLen"], apart := false, laid := [("unicode/utf8.acceptRanges", laid_unicode_utf8_acceptRanges), ("unicode/utf8.first", laid_unicode_utf8_first)], narrowed := true }
def FnWordsUptoSaid : Prop := fnWordsUptoRow.holds Tryd.pinned (OpenSpec.upto fnWordsSpec)

end Rows
end Go.Proofs.YtbbnhbfofdhnbaaDoor

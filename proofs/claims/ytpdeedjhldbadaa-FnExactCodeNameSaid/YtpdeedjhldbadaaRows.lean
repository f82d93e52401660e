/-
  No cell of these rows narrows 'for every input' (looked for: loops, veiled, ifaces, maps, wideKeys, modest, calm, conditions, laid).
  DERIVED. THE GIVEN ROWS OF THIS SEAT. 6 by the template 'for every input the law returns true; each argument reads behind the call as it read before'; 0 by the template 'total and deterministic' (their statements: YtpdeedjhldbadaaTotals.lean).
  GIVEN WITH THE SEED: the statements are not yours to turn. If you find one false, say at which input.
  Laid BY PROGRAM, IN A SANDBOX (cutbox-rows.mjs): the forced cells as the released guide's own fill.sh prints them over the translation 5f37615039a1e7e9… (all of the seat's roots in one cut). By AI agents, Wed Nov 11 2026. No macro, syntax, notation, axiom, sorry.
-/
import Derived.Test.YtpdeedjhldbadaaChecked
import GoSem.Claim
import GoSem.ClaimJoined
import GoSem.ClaimMapViews
import Derived.JoinedTies
import Derived.KernelRfl
namespace Go.Proofs.Ytpdeedjhldbadaa
/- THE CELL 'sum', in the pinned program and in every row, IS THE sha256 OF THE DUMP (.gsa) THAT YtpdeedjhldbadaaProg.lean LOADS. Nothing in Lean hashes anything: it is a label: what it is worth is what the hold of that sum in a sandbox is worth. -/
noncomputable def Try.pinned : Pinned := { name := "ytpdeedjhldbadaa", sum := "5f37615039a1e7e979860b6b8665ea9e39fdee53a197bb9cd09a5a59c46653b0", checked := Try.checked }
namespace Rows
def none {H : Type} : Left H := { results := [], args := [] }

/-- 'laws.FnExactConstants': WHATEVER THE INPUT: true; the input reads as it did. -/
def fnExactConstantsSpec : ChangeSpec := { name := "fnExactConstants", fn := fun _ => fun
  | [] => { results := [.lit (.bool true)], args := [] }
  | _ => none }
def fnExactConstantsRow : OpenClaim := { program := "ytpdeedjhldbadaa", sum := "5f37615039a1e7e979860b6b8665ea9e39fdee53a197bb9cd09a5a59c46653b0", func := "loop.example/g01261/laws.FnExactConstants", spec := "fnExactConstants", apart := false }
def FnExactConstantsSaid : Prop := fnExactConstantsRow.holds Try.pinned (OpenSpec.ofChange fnExactConstantsSpec)

/-- ITS FALSE NEIGHBOUR: 'it returns false'. Refute it at one input. -/
def fnExactConstantsWrong : ChangeSpec := { name := "fnExactConstants", fn := fun _ => fun
  | [] => { results := [.lit (.bool false)], args := [] }
  | _ => none }
def FnExactConstantsWrongFalsely : Prop := fnExactConstantsRow.holds Try.pinned (OpenSpec.ofChange fnExactConstantsWrong)

/-- 'laws.FnExactValidMask': WHATEVER THE INPUT: true; the input reads as it did. -/
def fnExactValidMaskSpec : ChangeSpec := { name := "fnExactValidMask", fn := fun _ => fun
  | [d] => { results := [.lit (.bool true)], args := [d] }
  | _ => none }
def fnExactValidMaskRow : OpenClaim := { program := "ytpdeedjhldbadaa", sum := "5f37615039a1e7e979860b6b8665ea9e39fdee53a197bb9cd09a5a59c46653b0", func := "loop.example/g01261/laws.FnExactValidMask", spec := "fnExactValidMask", apart := false }
def FnExactValidMaskSaid : Prop := fnExactValidMaskRow.holds Try.pinned (OpenSpec.ofChange fnExactValidMaskSpec)

/-- ITS FALSE NEIGHBOUR: 'it returns false'. Refute it at one input. -/
def fnExactValidMaskWrong : ChangeSpec := { name := "fnExactValidMask", fn := fun _ => fun
  | [d] => { results := [.lit (.bool false)], args := [d] }
  | _ => none }
def FnExactValidMaskWrongFalsely : Prop := fnExactValidMaskRow.holds Try.pinned (OpenSpec.ofChange fnExactValidMaskWrong)

/-- 'laws.FnExactCodeName': WHATEVER THE INPUT: true; the input reads as it did. -/
def fnExactCodeNameSpec : ChangeSpec := { name := "fnExactCodeName", fn := fun _ => fun
  | [d] => { results := [.lit (.bool true)], args := [d] }
  | _ => none }
def fnExactCodeNameRow : OpenClaim := { program := "ytpdeedjhldbadaa", sum := "5f37615039a1e7e979860b6b8665ea9e39fdee53a197bb9cd09a5a59c46653b0", func := "loop.example/g01261/laws.FnExactCodeName", spec := "fnExactCodeName", apart := false }
def FnExactCodeNameSaid : Prop := fnExactCodeNameRow.holds Try.pinned (OpenSpec.ofChange fnExactCodeNameSpec)

/-- ITS FALSE NEIGHBOUR: 'it returns false'. Refute it at one input. -/
def fnExactCodeNameWrong : ChangeSpec := { name := "fnExactCodeName", fn := fun _ => fun
  | [d] => { results := [.lit (.bool false)], args := [d] }
  | _ => none }
def FnExactCodeNameWrongFalsely : Prop := fnExactCodeNameRow.holds Try.pinned (OpenSpec.ofChange fnExactCodeNameWrong)

/-- 'laws.FnExactIsWithin': WHATEVER THE INPUT: true; the input reads as it did. -/
def fnExactIsWithinSpec : ChangeSpec := { name := "fnExactIsWithin", fn := fun _ => fun
  | [d1, d2] => { results := [.lit (.bool true)], args := [d1, d2] }
  | _ => none }
def fnExactIsWithinRow : OpenClaim := { program := "ytpdeedjhldbadaa", sum := "5f37615039a1e7e979860b6b8665ea9e39fdee53a197bb9cd09a5a59c46653b0", func := "loop.example/g01261/laws.FnExactIsWithin", spec := "fnExactIsWithin", apart := false }
def FnExactIsWithinSaid : Prop := fnExactIsWithinRow.holds Try.pinned (OpenSpec.ofChange fnExactIsWithinSpec)

/-- ITS FALSE NEIGHBOUR: 'it returns false'. Refute it at one input. -/
def fnExactIsWithinWrong : ChangeSpec := { name := "fnExactIsWithin", fn := fun _ => fun
  | [d1, d2] => { results := [.lit (.bool false)], args := [d1, d2] }
  | _ => none }
def FnExactIsWithinWrongFalsely : Prop := fnExactIsWithinRow.holds Try.pinned (OpenSpec.ofChange fnExactIsWithinWrong)

/-- 'laws.FnExactValidMix': WHATEVER THE INPUT: true; the input reads as it did. -/
def fnExactValidMixSpec : ChangeSpec := { name := "fnExactValidMix", fn := fun _ => fun
  | [d] => { results := [.lit (.bool true)], args := [d] }
  | _ => none }
def fnExactValidMixRow : OpenClaim := { program := "ytpdeedjhldbadaa", sum := "5f37615039a1e7e979860b6b8665ea9e39fdee53a197bb9cd09a5a59c46653b0", func := "loop.example/g01261/laws.FnExactValidMix", spec := "fnExactValidMix", apart := false }
def FnExactValidMixSaid : Prop := fnExactValidMixRow.holds Try.pinned (OpenSpec.ofChange fnExactValidMixSpec)

/-- ITS FALSE NEIGHBOUR: 'it returns false'. Refute it at one input. -/
def fnExactValidMixWrong : ChangeSpec := { name := "fnExactValidMix", fn := fun _ => fun
  | [d] => { results := [.lit (.bool false)], args := [d] }
  | _ => none }
def FnExactValidMixWrongFalsely : Prop := fnExactValidMixRow.holds Try.pinned (OpenSpec.ofChange fnExactValidMixWrong)

/-- 'laws.FnExactJoinMasks': WHATEVER THE INPUT: true; the input reads as it did. -/
def fnExactJoinMasksSpec : ChangeSpec := { name := "fnExactJoinMasks", fn := fun _ => fun
  | [d1, d2] => { results := [.lit (.bool true)], args := [d1, d2] }
  | _ => none }
def fnExactJoinMasksRow : OpenClaim := { program := "ytpdeedjhldbadaa", sum := "5f37615039a1e7e979860b6b8665ea9e39fdee53a197bb9cd09a5a59c46653b0", func := "loop.example/g01261/laws.FnExactJoinMasks", spec := "fnExactJoinMasks", apart := false }
def FnExactJoinMasksSaid : Prop := fnExactJoinMasksRow.holds Try.pinned (OpenSpec.ofChange fnExactJoinMasksSpec)

/-- ITS FALSE NEIGHBOUR: 'it returns false'. Refute it at one input. -/
def fnExactJoinMasksWrong : ChangeSpec := { name := "fnExactJoinMasks", fn := fun _ => fun
  | [d1, d2] => { results := [.lit (.bool false)], args := [d1, d2] }
  | _ => none }
def FnExactJoinMasksWrongFalsely : Prop := fnExactJoinMasksRow.holds Try.pinned (OpenSpec.ofChange fnExactJoinMasksWrong)

/- THE SECOND FORM. 'bulk': how many values and letters a reading holds, each counted each time it is reached (what is shared counts as often as it is met; a slice's spare places count too). A statement '..UptoSaid' is the law's where the arguments, and the package variables that the reading takes, are together of bulk at most 1048576: NARROWER than '..Said'. Prove '..Said' where nothing that the law and all that it calls make is longer than what came in: it says more and counts as full. Else prove '..UptoSaid'. A law counts once. -/
mutual
def uptoBulk {H : Type} : DataW H → Nat
  | .lit (.string bytes) => bytes.length + 1
  | .lit _ => 1
  | .nil => 1
  | .ptr d => uptoBulk d + 1
  | .slice elems spare => uptoBulkAll elems + uptoBulkAll spare + 1
  | .agg parts => uptoBulkAll parts + 1
  | .iface _ d => uptoBulk d + 1
  | .map entries => uptoBulkEntries entries + 1
  | .held _ => 1
def uptoBulkAll {H : Type} : List (DataW H) → Nat
  | [] => 0
  | d :: r => uptoBulk d + uptoBulkAll r
def uptoBulkEntries {H : Type} : List (Lit × DataW H) → Nat
  | [] => 0
  | x :: r => uptoBulkEntry x + uptoBulkEntries r
def uptoBulkEntry {H : Type} : Lit × DataW H → Nat
  | (.string bytes, d) => bytes.length + uptoBulk d + 1
  | (_, d) => uptoBulk d + 1
 end
def uptoSmall : (H : Type) → List (DataW H) → Bool := fun _ ds => decide (uptoBulkAll ds ≤ 1048576)
def OpenSpec.upto (s : _root_.Go.ChangeSpec) : _root_.Go.OpenSpec := { _root_.Go.OpenSpec.ofChange s with cond := some uptoSmall }

/-- 'laws.FnExactConstants', WHERE WHAT IT READS IS OF BULK AT MOST 1048576: true; the input reads as it did. -/
def fnExactConstantsUptoRow : OpenClaim := { program := "ytpdeedjhldbadaa", sum := "5f37615039a1e7e979860b6b8665ea9e39fdee53a197bb9cd09a5a59c46653b0", func := "loop.example/g01261/laws.FnExactConstants", spec := "fnExactConstants", apart := false, narrowed := true }
def FnExactConstantsUptoSaid : Prop := fnExactConstantsUptoRow.holds Try.pinned (OpenSpec.upto fnExactConstantsSpec)

/-- 'laws.FnExactValidMask', WHERE WHAT IT READS IS OF BULK AT MOST 1048576: true; the input reads as it did. -/
def fnExactValidMaskUptoRow : OpenClaim := { program := "ytpdeedjhldbadaa", sum := "5f37615039a1e7e979860b6b8665ea9e39fdee53a197bb9cd09a5a59c46653b0", func := "loop.example/g01261/laws.FnExactValidMask", spec := "fnExactValidMask", apart := false, narrowed := true }
def FnExactValidMaskUptoSaid : Prop := fnExactValidMaskUptoRow.holds Try.pinned (OpenSpec.upto fnExactValidMaskSpec)

/-- 'laws.FnExactCodeName', WHERE WHAT IT READS IS OF BULK AT MOST 1048576: true; the input reads as it did. -/
def fnExactCodeNameUptoRow : OpenClaim := { program := "ytpdeedjhldbadaa", sum := "5f37615039a1e7e979860b6b8665ea9e39fdee53a197bb9cd09a5a59c46653b0", func := "loop.example/g01261/laws.FnExactCodeName", spec := "fnExactCodeName", apart := false, narrowed := true }
def FnExactCodeNameUptoSaid : Prop := fnExactCodeNameUptoRow.holds Try.pinned (OpenSpec.upto fnExactCodeNameSpec)

/-- 'laws.FnExactIsWithin', WHERE WHAT IT READS IS OF BULK AT MOST 1048576: true; the input reads as it did. -/
def fnExactIsWithinUptoRow : OpenClaim := { program := "ytpdeedjhldbadaa", sum := "5f37615039a1e7e979860b6b8665ea9e39fdee53a197bb9cd09a5a59c46653b0", func := "loop.example/g01261/laws.FnExactIsWithin", spec := "fnExactIsWithin", apart := false, narrowed := true }
def FnExactIsWithinUptoSaid : Prop := fnExactIsWithinUptoRow.holds Try.pinned (OpenSpec.upto fnExactIsWithinSpec)

/-- 'laws.FnExactValidMix', WHERE WHAT IT READS IS OF BULK AT MOST 1048576: true; the input reads as it did. -/
def fnExactValidMixUptoRow : OpenClaim := { program := "ytpdeedjhldbadaa", sum := "5f37615039a1e7e979860b6b8665ea9e39fdee53a197bb9cd09a5a59c46653b0", func := "loop.example/g01261/laws.FnExactValidMix", spec := "fnExactValidMix", apart := false, narrowed := true }
def FnExactValidMixUptoSaid : Prop := fnExactValidMixUptoRow.holds Try.pinned (OpenSpec.upto fnExactValidMixSpec)

/-- 'laws.FnExactJoinMasks', WHERE WHAT IT READS IS OF BULK AT MOST 1048576: true; the input reads as it did. -/
def fnExactJoinMasksUptoRow : OpenClaim := { program := "ytpdeedjhldbadaa", sum := "5f37615039a1e7e979860b6b8665ea9e39fdee53a197bb9cd09a5a59c46653b0", func := "loop.example/g01261/laws.FnExactJoinMasks", spec := "fnExactJoinMasks", apart := false, narrowed := true }
def FnExactJoinMasksUptoSaid : Prop := fnExactJoinMasksUptoRow.holds Try.pinned (OpenSpec.upto fnExactJoinMasksSpec)

end Rows
end Go.Proofs.Ytpdeedjhldbadaa

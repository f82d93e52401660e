/-
  DERIVED. GIVEN WITH THE SEED: THE CARDS: each row of YtagldpbmadfokaaDoorRows.lean that lists a variable, with what it lists TIED to the program's text (the seventh form; the later family's looks); each row that meets fmt, with fmt's text TOLD by the authors' own Lean function (tested against real Go, not proved from fmt's source: count such statements apart). THE CARD IS WHAT COUNTS. Prove the row's statement (the work); the ties are given (YtagldpbmadfokaaDoorTie.lean); close each card by the builder's one call (the guide's Derived/Test/ToyasCard.lean, 'card_holds'). Laid BY PROGRAM, IN A SANDBOX (cutbox-door.mjs). By AI agents, Wed Nov 11 2026. No macro, syntax, notation, axiom, sorry.
-/
import Derived.Test.YtagldpbmadfokaaDoorRows
import GoSem.ClaimSeven
namespace Go.Proofs.YtagldpbmadfokaaDoor
namespace Rows

/-- THE TIED CARD OF 'laws.FnExactCardText'. -/
def fnExactCardTextCard : Claim7 := { stood := { row := fnExactCardTextRow, standIns := [], harness := (true, "10fc3e1659438f4098ee70d43fa8fc2b667ee99fcc2dfcaae81a6c5aa189dd0e"), looks := true }, kinds := [], alts := [], laidByText := true, laidKinds := [.data, .data, .data, .data, .pinned], laidTests := true, laidLooks := .later }
def FnExactCardTextCardSaid : Prop := Claim7.holds Tryd.pinned (.plain (OpenSpec.ofChange fnExactCardTextSpec)) fnExactCardTextCard

/-- THE TIED CARD OF 'laws.FnExactDeckText'. -/
def fnExactDeckTextCard : Claim7 := { stood := { row := fnExactDeckTextRow, standIns := [], harness := (true, "10fc3e1659438f4098ee70d43fa8fc2b667ee99fcc2dfcaae81a6c5aa189dd0e"), looks := true }, kinds := [], alts := [], laidByText := true, laidKinds := [.data, .data, .data, .data, .pinned], laidTests := true, laidLooks := .later }
def FnExactDeckTextCardSaid : Prop := Claim7.holds Tryd.pinned (.plain (OpenSpec.ofChange fnExactDeckTextSpec)) fnExactDeckTextCard

/-- THE TIED CARD OF 'laws.FnExactReadCard'. -/
def fnExactReadCardCard : Claim7 := { stood := { row := fnExactReadCardRow, standIns := [], harness := (true, "10fc3e1659438f4098ee70d43fa8fc2b667ee99fcc2dfcaae81a6c5aa189dd0e"), looks := true }, kinds := [], alts := [], laidByText := true, laidKinds := [.data, .data, .data, .data, .sentinel, .sentinel, .pinned], laidTests := true, laidLooks := .later }
def FnExactReadCardCardSaid : Prop := Claim7.holds Tryd.pinned (.plain (OpenSpec.ofChange fnExactReadCardSpec)) fnExactReadCardCard

/-- THE SECOND FORM's CARD OF 'laws.FnExactCardText'. -/
def fnExactCardTextUptoCard : Claim7 := { stood := { row := fnExactCardTextUptoRow, standIns := [], harness := (true, "10fc3e1659438f4098ee70d43fa8fc2b667ee99fcc2dfcaae81a6c5aa189dd0e"), looks := true }, kinds := [], alts := [], laidByText := true, laidKinds := [.data, .data, .data, .data, .pinned], laidTests := true, laidLooks := .later }
def FnExactCardTextUptoCardSaid : Prop := Claim7.holds Tryd.pinned (.plain (OpenSpec.upto fnExactCardTextSpec)) fnExactCardTextUptoCard

/-- THE SECOND FORM's CARD OF 'laws.FnExactDeckText'. -/
def fnExactDeckTextUptoCard : Claim7 := { stood := { row := fnExactDeckTextUptoRow, standIns := [], harness := (true, "10fc3e1659438f4098ee70d43fa8fc2b667ee99fcc2dfcaae81a6c5aa189dd0e"), looks := true }, kinds := [], alts := [], laidByText := true, laidKinds := [.data, .data, .data, .data, .pinned], laidTests := true, laidLooks := .later }
def FnExactDeckTextUptoCardSaid : Prop := Claim7.holds Tryd.pinned (.plain (OpenSpec.upto fnExactDeckTextSpec)) fnExactDeckTextUptoCard

/-- THE SECOND FORM's CARD OF 'laws.FnExactReadCard'. -/
def fnExactReadCardUptoCard : Claim7 := { stood := { row := fnExactReadCardUptoRow, standIns := [], harness := (true, "10fc3e1659438f4098ee70d43fa8fc2b667ee99fcc2dfcaae81a6c5aa189dd0e"), looks := true }, kinds := [], alts := [], laidByText := true, laidKinds := [.data, .data, .data, .data, .sentinel, .sentinel, .pinned], laidTests := true, laidLooks := .later }
def FnExactReadCardUptoCardSaid : Prop := Claim7.holds Tryd.pinned (.plain (OpenSpec.upto fnExactReadCardSpec)) fnExactReadCardUptoCard
end Rows
end Go.Proofs.YtagldpbmadfokaaDoor

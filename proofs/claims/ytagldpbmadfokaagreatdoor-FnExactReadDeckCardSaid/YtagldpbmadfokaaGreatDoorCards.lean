/-
  DERIVED. GIVEN WITH THE SEED: THE CARDS: each row of YtagldpbmadfokaaGreatDoorRows.lean that lists a variable, with what it lists TIED to the program's text (the seventh form; the later family's looks); each row that meets fmt, with fmt's text TOLD by the authors' own Lean function (tested against real Go, not proved from fmt's source: count such statements apart). THE CARD IS WHAT COUNTS. Prove the row's statement (the work); the ties are given (YtagldpbmadfokaaGreatDoorTie.lean); close each card by the builder's one call (the guide's Derived/Test/ToyasCard.lean, 'card_holds'). Laid BY PROGRAM, IN A SANDBOX (cutbox-door.mjs). By AI agents, Wed Nov 11 2026. No macro, syntax, notation, axiom, sorry.
-/
import Derived.Test.YtagldpbmadfokaaGreatDoorRows
import GoSem.ClaimSeven
namespace Go.Proofs.YtagldpbmadfokaaGreatDoor
namespace Rows

/-- THE TIED CARD OF 'laws.FnExactReadDeck'. -/
def fnExactReadDeckCard : Claim7 := { stood := { row := fnExactReadDeckRow, standIns := [], harness := (true, "7fd3a6e544a936f3fe7b7eb54f42c821e080e9c10ae185d4e8415ee02b9e2499"), looks := true }, kinds := [], alts := [], laidByText := true, laidKinds := [.data, .data, .data, .data, .sentinel, .sentinel, .pinned], laidTests := true, laidLooks := .later }
def FnExactReadDeckCardSaid : Prop := Claim7.holds Tryz.pinned (.plain (OpenSpec.ofChange fnExactReadDeckSpec)) fnExactReadDeckCard

/-- THE SECOND FORM's CARD OF 'laws.FnExactReadDeck'. -/
def fnExactReadDeckUptoCard : Claim7 := { stood := { row := fnExactReadDeckUptoRow, standIns := [], harness := (true, "7fd3a6e544a936f3fe7b7eb54f42c821e080e9c10ae185d4e8415ee02b9e2499"), looks := true }, kinds := [], alts := [], laidByText := true, laidKinds := [.data, .data, .data, .data, .sentinel, .sentinel, .pinned], laidTests := true, laidLooks := .later }
def FnExactReadDeckUptoCardSaid : Prop := Claim7.holds Tryz.pinned (.plain (OpenSpec.upto fnExactReadDeckSpec)) fnExactReadDeckUptoCard
end Rows
end Go.Proofs.YtagldpbmadfokaaGreatDoor

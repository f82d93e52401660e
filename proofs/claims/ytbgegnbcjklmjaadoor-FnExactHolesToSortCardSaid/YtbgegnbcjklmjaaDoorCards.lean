/-
  DERIVED. GIVEN WITH THE SEED: THE CARDS: each row of YtbgegnbcjklmjaaDoorRows.lean that lists a variable, with what it lists TIED to the program's text (the seventh form; the later family's looks); each row that meets fmt, with fmt's text TOLD by the authors' own Lean function (tested against real Go, not proved from fmt's source: count such statements apart). THE CARD IS WHAT COUNTS. Prove the row's statement (the work); the ties are given (YtbgegnbcjklmjaaDoorTie.lean); close each card by the builder's one call (the guide's Derived/Test/ToyasCard.lean, 'card_holds'). Laid BY PROGRAM, IN A SANDBOX (cutbox-door.mjs). By AI agents, Wed Nov 11 2026. No macro, syntax, notation, axiom, sorry.
-/
import Derived.Test.YtbgegnbcjklmjaaDoorRows
import GoSem.ClaimSeven
namespace Go.Proofs.YtbgegnbcjklmjaaDoor
namespace Rows

/-- THE TIED CARD OF 'laws.FnExactValidCard'. -/
def fnExactValidCardCard : Claim7 := { stood := { row := fnExactValidCardRow, standIns := [], harness := (true, "fcd2678acaf912e1ae43d30febd0eec9b433c680eeb638c6835b19b0b1647e81"), looks := false }, kinds := [], alts := [], laidByText := true, laidKinds := [.data, .pinned], laidTests := true, laidLooks := .later }
def FnExactValidCardCardSaid : Prop := Claim7.holds Tryd.pinned (.plain (OpenSpec.ofChange fnExactValidCardSpec)) fnExactValidCardCard

/-- THE TIED CARD OF 'laws.FnExactValidField'. -/
def fnExactValidFieldCard : Claim7 := { stood := { row := fnExactValidFieldRow, standIns := [], harness := (true, "fcd2678acaf912e1ae43d30febd0eec9b433c680eeb638c6835b19b0b1647e81"), looks := false }, kinds := [], alts := [], laidByText := true, laidKinds := [.data, .pinned], laidTests := true, laidLooks := .later }
def FnExactValidFieldCardSaid : Prop := Claim7.holds Tryd.pinned (.plain (OpenSpec.ofChange fnExactValidFieldSpec)) fnExactValidFieldCard

/-- THE TIED CARD OF 'laws.FnExactHolesOf'. -/
def fnExactHolesOfCard : Claim7 := { stood := { row := fnExactHolesOfRow, standIns := [], harness := (true, "fcd2678acaf912e1ae43d30febd0eec9b433c680eeb638c6835b19b0b1647e81"), looks := false }, kinds := [], alts := [], laidByText := true, laidKinds := [.data, .pinned], laidTests := true, laidLooks := .later }
def FnExactHolesOfCardSaid : Prop := Claim7.holds Tryd.pinned (.plain (OpenSpec.ofChange fnExactHolesOfSpec)) fnExactHolesOfCard

/-- THE TIED CARD OF 'laws.FnExactMostOf'. -/
def fnExactMostOfCard : Claim7 := { stood := { row := fnExactMostOfRow, standIns := [], harness := (true, "fcd2678acaf912e1ae43d30febd0eec9b433c680eeb638c6835b19b0b1647e81"), looks := false }, kinds := [], alts := [], laidByText := true, laidKinds := [.data, .pinned], laidTests := true, laidLooks := .later }
def FnExactMostOfCardSaid : Prop := Claim7.holds Tryd.pinned (.plain (OpenSpec.ofChange fnExactMostOfSpec)) fnExactMostOfCard

/-- THE TIED CARD OF 'laws.FnExactPartOf'. -/
def fnExactPartOfCard : Claim7 := { stood := { row := fnExactPartOfRow, standIns := [], harness := (true, "fcd2678acaf912e1ae43d30febd0eec9b433c680eeb638c6835b19b0b1647e81"), looks := false }, kinds := [], alts := [], laidByText := true, laidKinds := [.data, .pinned], laidTests := true, laidLooks := .later }
def FnExactPartOfCardSaid : Prop := Claim7.holds Tryd.pinned (.plain (OpenSpec.ofChange fnExactPartOfSpec)) fnExactPartOfCard

/-- THE TIED CARD OF 'laws.FnExactClearField'. -/
def fnExactClearFieldCard : Claim7 := { stood := { row := fnExactClearFieldRow, standIns := [], harness := (true, "fcd2678acaf912e1ae43d30febd0eec9b433c680eeb638c6835b19b0b1647e81"), looks := false }, kinds := [], alts := [], laidByText := true, laidKinds := [.data, .pinned], laidTests := true, laidLooks := .later }
def FnExactClearFieldCardSaid : Prop := Claim7.holds Tryd.pinned (.plain (OpenSpec.ofChange fnExactClearFieldSpec)) fnExactClearFieldCard

/-- THE TIED CARD OF 'laws.FnExactHolesToSort'. -/
def fnExactHolesToSortCard : Claim7 := { stood := { row := fnExactHolesToSortRow, standIns := [], harness := (true, "fcd2678acaf912e1ae43d30febd0eec9b433c680eeb638c6835b19b0b1647e81"), looks := false }, kinds := [], alts := [], laidByText := true, laidKinds := [.data, .pinned], laidTests := true, laidLooks := .later }
def FnExactHolesToSortCardSaid : Prop := Claim7.holds Tryd.pinned (.plain (OpenSpec.ofChange fnExactHolesToSortSpec)) fnExactHolesToSortCard

/-- THE TIED CARD OF 'laws.FnExactKeyOf'. -/
def fnExactKeyOfCard : Claim7 := { stood := { row := fnExactKeyOfRow, standIns := [], harness := (true, "fcd2678acaf912e1ae43d30febd0eec9b433c680eeb638c6835b19b0b1647e81"), looks := false }, kinds := [], alts := [], laidByText := true, laidKinds := [.data, .pinned], laidTests := true, laidLooks := .later }
def FnExactKeyOfCardSaid : Prop := Claim7.holds Tryd.pinned (.plain (OpenSpec.ofChange fnExactKeyOfSpec)) fnExactKeyOfCard

/-- THE TIED CARD OF 'laws.FnExactEncodeField'. -/
def fnExactEncodeFieldCard : Claim7 := { stood := { row := fnExactEncodeFieldRow, standIns := [], harness := (true, "fcd2678acaf912e1ae43d30febd0eec9b433c680eeb638c6835b19b0b1647e81"), looks := false }, kinds := [], alts := [], laidByText := true, laidKinds := [.data, .pinned], laidTests := true, laidLooks := .later }
def FnExactEncodeFieldCardSaid : Prop := Claim7.holds Tryd.pinned (.plain (OpenSpec.ofChange fnExactEncodeFieldSpec)) fnExactEncodeFieldCard

/-- THE TIED CARD OF 'laws.FnExactDecodeField'. -/
def fnExactDecodeFieldCard : Claim7 := { stood := { row := fnExactDecodeFieldRow, standIns := [], harness := (true, "fcd2678acaf912e1ae43d30febd0eec9b433c680eeb638c6835b19b0b1647e81"), looks := false }, kinds := [], alts := [], laidByText := true, laidKinds := [.data, .pinned], laidTests := true, laidLooks := .later }
def FnExactDecodeFieldCardSaid : Prop := Claim7.holds Tryd.pinned (.plain (OpenSpec.ofChange fnExactDecodeFieldSpec)) fnExactDecodeFieldCard

/-- THE TIED CARD OF 'laws.FnExactQueryFor'. -/
def fnExactQueryForCard : Claim7 := { stood := { row := fnExactQueryForRow, standIns := [], harness := (true, "fcd2678acaf912e1ae43d30febd0eec9b433c680eeb638c6835b19b0b1647e81"), looks := false }, kinds := [], alts := [], laidByText := true, laidKinds := [.data, .pinned], laidTests := true, laidLooks := .later }
def FnExactQueryForCardSaid : Prop := Claim7.holds Tryd.pinned (.plain (OpenSpec.ofChange fnExactQueryForSpec)) fnExactQueryForCard

/-- THE TIED CARD OF 'laws.FnExactPutField'. -/
def fnExactPutFieldCard : Claim7 := { stood := { row := fnExactPutFieldRow, standIns := [], harness := (true, "fcd2678acaf912e1ae43d30febd0eec9b433c680eeb638c6835b19b0b1647e81"), looks := false }, kinds := [], alts := [], laidByText := true, laidKinds := [.data, .pinned], laidTests := true, laidLooks := .later }
def FnExactPutFieldCardSaid : Prop := Claim7.holds Tryd.pinned (.plain (OpenSpec.ofChange fnExactPutFieldSpec)) fnExactPutFieldCard

/-- THE SECOND FORM's CARD OF 'laws.FnExactValidCard'. -/
def fnExactValidCardUptoCard : Claim7 := { stood := { row := fnExactValidCardUptoRow, standIns := [], harness := (true, "fcd2678acaf912e1ae43d30febd0eec9b433c680eeb638c6835b19b0b1647e81"), looks := false }, kinds := [], alts := [], laidByText := true, laidKinds := [.data, .pinned], laidTests := true, laidLooks := .later }
def FnExactValidCardUptoCardSaid : Prop := Claim7.holds Tryd.pinned (.plain (OpenSpec.upto fnExactValidCardSpec)) fnExactValidCardUptoCard

/-- THE SECOND FORM's CARD OF 'laws.FnExactValidField'. -/
def fnExactValidFieldUptoCard : Claim7 := { stood := { row := fnExactValidFieldUptoRow, standIns := [], harness := (true, "fcd2678acaf912e1ae43d30febd0eec9b433c680eeb638c6835b19b0b1647e81"), looks := false }, kinds := [], alts := [], laidByText := true, laidKinds := [.data, .pinned], laidTests := true, laidLooks := .later }
def FnExactValidFieldUptoCardSaid : Prop := Claim7.holds Tryd.pinned (.plain (OpenSpec.upto fnExactValidFieldSpec)) fnExactValidFieldUptoCard

/-- THE SECOND FORM's CARD OF 'laws.FnExactHolesOf'. -/
def fnExactHolesOfUptoCard : Claim7 := { stood := { row := fnExactHolesOfUptoRow, standIns := [], harness := (true, "fcd2678acaf912e1ae43d30febd0eec9b433c680eeb638c6835b19b0b1647e81"), looks := false }, kinds := [], alts := [], laidByText := true, laidKinds := [.data, .pinned], laidTests := true, laidLooks := .later }
def FnExactHolesOfUptoCardSaid : Prop := Claim7.holds Tryd.pinned (.plain (OpenSpec.upto fnExactHolesOfSpec)) fnExactHolesOfUptoCard

/-- THE SECOND FORM's CARD OF 'laws.FnExactMostOf'. -/
def fnExactMostOfUptoCard : Claim7 := { stood := { row := fnExactMostOfUptoRow, standIns := [], harness := (true, "fcd2678acaf912e1ae43d30febd0eec9b433c680eeb638c6835b19b0b1647e81"), looks := false }, kinds := [], alts := [], laidByText := true, laidKinds := [.data, .pinned], laidTests := true, laidLooks := .later }
def FnExactMostOfUptoCardSaid : Prop := Claim7.holds Tryd.pinned (.plain (OpenSpec.upto fnExactMostOfSpec)) fnExactMostOfUptoCard

/-- THE SECOND FORM's CARD OF 'laws.FnExactPartOf'. -/
def fnExactPartOfUptoCard : Claim7 := { stood := { row := fnExactPartOfUptoRow, standIns := [], harness := (true, "fcd2678acaf912e1ae43d30febd0eec9b433c680eeb638c6835b19b0b1647e81"), looks := false }, kinds := [], alts := [], laidByText := true, laidKinds := [.data, .pinned], laidTests := true, laidLooks := .later }
def FnExactPartOfUptoCardSaid : Prop := Claim7.holds Tryd.pinned (.plain (OpenSpec.upto fnExactPartOfSpec)) fnExactPartOfUptoCard

/-- THE SECOND FORM's CARD OF 'laws.FnExactClearField'. -/
def fnExactClearFieldUptoCard : Claim7 := { stood := { row := fnExactClearFieldUptoRow, standIns := [], harness := (true, "fcd2678acaf912e1ae43d30febd0eec9b433c680eeb638c6835b19b0b1647e81"), looks := false }, kinds := [], alts := [], laidByText := true, laidKinds := [.data, .pinned], laidTests := true, laidLooks := .later }
def FnExactClearFieldUptoCardSaid : Prop := Claim7.holds Tryd.pinned (.plain (OpenSpec.upto fnExactClearFieldSpec)) fnExactClearFieldUptoCard

/-- THE SECOND FORM's CARD OF 'laws.FnExactHolesToSort'. -/
def fnExactHolesToSortUptoCard : Claim7 := { stood := { row := fnExactHolesToSortUptoRow, standIns := [], harness := (true, "fcd2678acaf912e1ae43d30febd0eec9b433c680eeb638c6835b19b0b1647e81"), looks := false }, kinds := [], alts := [], laidByText := true, laidKinds := [.data, .pinned], laidTests := true, laidLooks := .later }
def FnExactHolesToSortUptoCardSaid : Prop := Claim7.holds Tryd.pinned (.plain (OpenSpec.upto fnExactHolesToSortSpec)) fnExactHolesToSortUptoCard

/-- THE SECOND FORM's CARD OF 'laws.FnExactKeyOf'. -/
def fnExactKeyOfUptoCard : Claim7 := { stood := { row := fnExactKeyOfUptoRow, standIns := [], harness := (true, "fcd2678acaf912e1ae43d30febd0eec9b433c680eeb638c6835b19b0b1647e81"), looks := false }, kinds := [], alts := [], laidByText := true, laidKinds := [.data, .pinned], laidTests := true, laidLooks := .later }
def FnExactKeyOfUptoCardSaid : Prop := Claim7.holds Tryd.pinned (.plain (OpenSpec.upto fnExactKeyOfSpec)) fnExactKeyOfUptoCard

/-- THE SECOND FORM's CARD OF 'laws.FnExactEncodeField'. -/
def fnExactEncodeFieldUptoCard : Claim7 := { stood := { row := fnExactEncodeFieldUptoRow, standIns := [], harness := (true, "fcd2678acaf912e1ae43d30febd0eec9b433c680eeb638c6835b19b0b1647e81"), looks := false }, kinds := [], alts := [], laidByText := true, laidKinds := [.data, .pinned], laidTests := true, laidLooks := .later }
def FnExactEncodeFieldUptoCardSaid : Prop := Claim7.holds Tryd.pinned (.plain (OpenSpec.upto fnExactEncodeFieldSpec)) fnExactEncodeFieldUptoCard

/-- THE SECOND FORM's CARD OF 'laws.FnExactDecodeField'. -/
def fnExactDecodeFieldUptoCard : Claim7 := { stood := { row := fnExactDecodeFieldUptoRow, standIns := [], harness := (true, "fcd2678acaf912e1ae43d30febd0eec9b433c680eeb638c6835b19b0b1647e81"), looks := false }, kinds := [], alts := [], laidByText := true, laidKinds := [.data, .pinned], laidTests := true, laidLooks := .later }
def FnExactDecodeFieldUptoCardSaid : Prop := Claim7.holds Tryd.pinned (.plain (OpenSpec.upto fnExactDecodeFieldSpec)) fnExactDecodeFieldUptoCard

/-- THE SECOND FORM's CARD OF 'laws.FnExactQueryFor'. -/
def fnExactQueryForUptoCard : Claim7 := { stood := { row := fnExactQueryForUptoRow, standIns := [], harness := (true, "fcd2678acaf912e1ae43d30febd0eec9b433c680eeb638c6835b19b0b1647e81"), looks := false }, kinds := [], alts := [], laidByText := true, laidKinds := [.data, .pinned], laidTests := true, laidLooks := .later }
def FnExactQueryForUptoCardSaid : Prop := Claim7.holds Tryd.pinned (.plain (OpenSpec.upto fnExactQueryForSpec)) fnExactQueryForUptoCard

/-- THE SECOND FORM's CARD OF 'laws.FnExactPutField'. -/
def fnExactPutFieldUptoCard : Claim7 := { stood := { row := fnExactPutFieldUptoRow, standIns := [], harness := (true, "fcd2678acaf912e1ae43d30febd0eec9b433c680eeb638c6835b19b0b1647e81"), looks := false }, kinds := [], alts := [], laidByText := true, laidKinds := [.data, .pinned], laidTests := true, laidLooks := .later }
def FnExactPutFieldUptoCardSaid : Prop := Claim7.holds Tryd.pinned (.plain (OpenSpec.upto fnExactPutFieldSpec)) fnExactPutFieldUptoCard
end Rows
end Go.Proofs.YtbgegnbcjklmjaaDoor

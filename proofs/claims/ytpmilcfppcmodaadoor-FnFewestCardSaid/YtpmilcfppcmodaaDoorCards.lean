/-
  DERIVED. GIVEN WITH THE SEED: THE CARDS: each row of YtpmilcfppcmodaaDoorRows.lean that lists a variable, with what it lists TIED to the program's text (the seventh form; the later family's looks); each row that meets fmt, with fmt's text TOLD by the authors' own Lean function (tested against real Go, not proved from fmt's source: count such statements apart). THE CARD IS WHAT COUNTS. Prove the row's statement (the work); the ties are given (YtpmilcfppcmodaaDoorTie.lean); close each card by the builder's one call (the guide's Derived/Test/ToyasCard.lean, 'card_holds'). Laid BY PROGRAM, IN A SANDBOX (cutbox-door.mjs). By AI agents, Wed Nov 11 2026. No macro, syntax, notation, axiom, sorry.
-/
import Derived.Test.YtpmilcfppcmodaaDoorRows
import GoSem.ClaimSeven
namespace Go.Proofs.YtpmilcfppcmodaaDoor
namespace Rows

/-- THE TIED CARD OF 'laws.FnFewest'. -/
def fnFewestCard : Claim7 := { stood := { row := fnFewestRow, standIns := [], harness := (true, "03cc4346f56751589aa199b2af45636fc4df261b144ae52073e3a65351306566"), looks := false }, kinds := [], alts := [], laidByText := true, laidKinds := [.data, .pinned], laidTests := true, laidLooks := .later }
def FnFewestCardSaid : Prop := Claim7.holds Tryd.pinned (.plain (OpenSpec.ofChange fnFewestSpec)) fnFewestCard

/-- THE TIED CARD OF 'laws.FnExactValidDeck'. -/
def fnExactValidDeckCard : Claim7 := { stood := { row := fnExactValidDeckRow, standIns := [], harness := (true, "03cc4346f56751589aa199b2af45636fc4df261b144ae52073e3a65351306566"), looks := false }, kinds := [], alts := [], laidByText := true, laidKinds := [.data, .pinned], laidTests := true, laidLooks := .later }
def FnExactValidDeckCardSaid : Prop := Claim7.holds Tryd.pinned (.plain (OpenSpec.ofChange fnExactValidDeckSpec)) fnExactValidDeckCard

/-- THE TIED CARD OF 'laws.FnExactFindCard'. -/
def fnExactFindCardCard : Claim7 := { stood := { row := fnExactFindCardRow, standIns := [], harness := (true, "03cc4346f56751589aa199b2af45636fc4df261b144ae52073e3a65351306566"), looks := false }, kinds := [], alts := [], laidByText := true, laidKinds := [.data, .pinned], laidTests := true, laidLooks := .later }
def FnExactFindCardCardSaid : Prop := Claim7.holds Tryd.pinned (.plain (OpenSpec.ofChange fnExactFindCardSpec)) fnExactFindCardCard

/-- THE TIED CARD OF 'laws.FnExactValidScheme'. -/
def fnExactValidSchemeCard : Claim7 := { stood := { row := fnExactValidSchemeRow, standIns := [], harness := (true, "03cc4346f56751589aa199b2af45636fc4df261b144ae52073e3a65351306566"), looks := false }, kinds := [], alts := [], laidByText := true, laidKinds := [.data, .pinned], laidTests := true, laidLooks := .later }
def FnExactValidSchemeCardSaid : Prop := Claim7.holds Tryd.pinned (.plain (OpenSpec.ofChange fnExactValidSchemeSpec)) fnExactValidSchemeCard

/-- THE TIED CARD OF 'laws.FnExactPassNeedle'. -/
def fnExactPassNeedleCard : Claim7 := { stood := { row := fnExactPassNeedleRow, standIns := [], harness := (true, "03cc4346f56751589aa199b2af45636fc4df261b144ae52073e3a65351306566"), looks := false }, kinds := [], alts := [], laidByText := true, laidKinds := [.data, .pinned], laidTests := true, laidLooks := .later }
def FnExactPassNeedleCardSaid : Prop := Claim7.holds Tryd.pinned (.plain (OpenSpec.ofChange fnExactPassNeedleSpec)) fnExactPassNeedleCard

/-- THE TIED CARD OF 'laws.FnExactSplitDeck'. -/
def fnExactSplitDeckCard : Claim7 := { stood := { row := fnExactSplitDeckRow, standIns := [], harness := (true, "03cc4346f56751589aa199b2af45636fc4df261b144ae52073e3a65351306566"), looks := false }, kinds := [], alts := [], laidByText := true, laidKinds := [.data, .pinned], laidTests := true, laidLooks := .later }
def FnExactSplitDeckCardSaid : Prop := Claim7.holds Tryd.pinned (.plain (OpenSpec.ofChange fnExactSplitDeckSpec)) fnExactSplitDeckCard

/-- THE TIED CARD OF 'laws.FnExactFieldOfHole'. -/
def fnExactFieldOfHoleCard : Claim7 := { stood := { row := fnExactFieldOfHoleRow, standIns := [], harness := (true, "03cc4346f56751589aa199b2af45636fc4df261b144ae52073e3a65351306566"), looks := false }, kinds := [], alts := [], laidByText := true, laidKinds := [.data, .pinned], laidTests := true, laidLooks := .later }
def FnExactFieldOfHoleCardSaid : Prop := Claim7.holds Tryd.pinned (.plain (OpenSpec.ofChange fnExactFieldOfHoleSpec)) fnExactFieldOfHoleCard

/-- THE TIED CARD OF 'laws.FnExactAnswerOf'. -/
def fnExactAnswerOfCard : Claim7 := { stood := { row := fnExactAnswerOfRow, standIns := [], harness := (true, "03cc4346f56751589aa199b2af45636fc4df261b144ae52073e3a65351306566"), looks := false }, kinds := [], alts := [], laidByText := true, laidKinds := [.data, .pinned], laidTests := true, laidLooks := .later }
def FnExactAnswerOfCardSaid : Prop := Claim7.holds Tryd.pinned (.plain (OpenSpec.ofChange fnExactAnswerOfSpec)) fnExactAnswerOfCard

/-- THE TIED CARD OF 'laws.FnExactPassMany'. -/
def fnExactPassManyCard : Claim7 := { stood := { row := fnExactPassManyRow, standIns := [], harness := (true, "03cc4346f56751589aa199b2af45636fc4df261b144ae52073e3a65351306566"), looks := false }, kinds := [], alts := [], laidByText := true, laidKinds := [.data, .pinned], laidTests := true, laidLooks := .later }
def FnExactPassManyCardSaid : Prop := Claim7.holds Tryd.pinned (.plain (OpenSpec.ofChange fnExactPassManySpec)) fnExactPassManyCard

/-- THE TIED CARD OF 'laws.FnExactAnyOf'. -/
def fnExactAnyOfCard : Claim7 := { stood := { row := fnExactAnyOfRow, standIns := [], harness := (true, "03cc4346f56751589aa199b2af45636fc4df261b144ae52073e3a65351306566"), looks := false }, kinds := [], alts := [], laidByText := true, laidKinds := [.data, .pinned], laidTests := true, laidLooks := .later }
def FnExactAnyOfCardSaid : Prop := Claim7.holds Tryd.pinned (.plain (OpenSpec.ofChange fnExactAnyOfSpec)) fnExactAnyOfCard

/-- THE TIED CARD OF 'laws.FnExactIsSorted'. -/
def fnExactIsSortedCard : Claim7 := { stood := { row := fnExactIsSortedRow, standIns := [], harness := (true, "03cc4346f56751589aa199b2af45636fc4df261b144ae52073e3a65351306566"), looks := false }, kinds := [], alts := [], laidByText := true, laidKinds := [.data, .pinned], laidTests := true, laidLooks := .later }
def FnExactIsSortedCardSaid : Prop := Claim7.holds Tryd.pinned (.plain (OpenSpec.ofChange fnExactIsSortedSpec)) fnExactIsSortedCard

/-- THE TIED CARD OF 'laws.FnExactFewestNeedles'. -/
def fnExactFewestNeedlesCard : Claim7 := { stood := { row := fnExactFewestNeedlesRow, standIns := [], harness := (true, "03cc4346f56751589aa199b2af45636fc4df261b144ae52073e3a65351306566"), looks := false }, kinds := [], alts := [], laidByText := true, laidKinds := [.data, .pinned], laidTests := true, laidLooks := .later }
def FnExactFewestNeedlesCardSaid : Prop := Claim7.holds Tryd.pinned (.plain (OpenSpec.ofChange fnExactFewestNeedlesSpec)) fnExactFewestNeedlesCard

/-- THE SECOND FORM's CARD OF 'laws.FnFewest'. -/
def fnFewestUptoCard : Claim7 := { stood := { row := fnFewestUptoRow, standIns := [], harness := (true, "03cc4346f56751589aa199b2af45636fc4df261b144ae52073e3a65351306566"), looks := false }, kinds := [], alts := [], laidByText := true, laidKinds := [.data, .pinned], laidTests := true, laidLooks := .later }
def FnFewestUptoCardSaid : Prop := Claim7.holds Tryd.pinned (.plain (OpenSpec.upto fnFewestSpec)) fnFewestUptoCard

/-- THE SECOND FORM's CARD OF 'laws.FnExactValidDeck'. -/
def fnExactValidDeckUptoCard : Claim7 := { stood := { row := fnExactValidDeckUptoRow, standIns := [], harness := (true, "03cc4346f56751589aa199b2af45636fc4df261b144ae52073e3a65351306566"), looks := false }, kinds := [], alts := [], laidByText := true, laidKinds := [.data, .pinned], laidTests := true, laidLooks := .later }
def FnExactValidDeckUptoCardSaid : Prop := Claim7.holds Tryd.pinned (.plain (OpenSpec.upto fnExactValidDeckSpec)) fnExactValidDeckUptoCard

/-- THE SECOND FORM's CARD OF 'laws.FnExactFindCard'. -/
def fnExactFindCardUptoCard : Claim7 := { stood := { row := fnExactFindCardUptoRow, standIns := [], harness := (true, "03cc4346f56751589aa199b2af45636fc4df261b144ae52073e3a65351306566"), looks := false }, kinds := [], alts := [], laidByText := true, laidKinds := [.data, .pinned], laidTests := true, laidLooks := .later }
def FnExactFindCardUptoCardSaid : Prop := Claim7.holds Tryd.pinned (.plain (OpenSpec.upto fnExactFindCardSpec)) fnExactFindCardUptoCard

/-- THE SECOND FORM's CARD OF 'laws.FnExactValidScheme'. -/
def fnExactValidSchemeUptoCard : Claim7 := { stood := { row := fnExactValidSchemeUptoRow, standIns := [], harness := (true, "03cc4346f56751589aa199b2af45636fc4df261b144ae52073e3a65351306566"), looks := false }, kinds := [], alts := [], laidByText := true, laidKinds := [.data, .pinned], laidTests := true, laidLooks := .later }
def FnExactValidSchemeUptoCardSaid : Prop := Claim7.holds Tryd.pinned (.plain (OpenSpec.upto fnExactValidSchemeSpec)) fnExactValidSchemeUptoCard

/-- THE SECOND FORM's CARD OF 'laws.FnExactPassNeedle'. -/
def fnExactPassNeedleUptoCard : Claim7 := { stood := { row := fnExactPassNeedleUptoRow, standIns := [], harness := (true, "03cc4346f56751589aa199b2af45636fc4df261b144ae52073e3a65351306566"), looks := false }, kinds := [], alts := [], laidByText := true, laidKinds := [.data, .pinned], laidTests := true, laidLooks := .later }
def FnExactPassNeedleUptoCardSaid : Prop := Claim7.holds Tryd.pinned (.plain (OpenSpec.upto fnExactPassNeedleSpec)) fnExactPassNeedleUptoCard

/-- THE SECOND FORM's CARD OF 'laws.FnExactSplitDeck'. -/
def fnExactSplitDeckUptoCard : Claim7 := { stood := { row := fnExactSplitDeckUptoRow, standIns := [], harness := (true, "03cc4346f56751589aa199b2af45636fc4df261b144ae52073e3a65351306566"), looks := false }, kinds := [], alts := [], laidByText := true, laidKinds := [.data, .pinned], laidTests := true, laidLooks := .later }
def FnExactSplitDeckUptoCardSaid : Prop := Claim7.holds Tryd.pinned (.plain (OpenSpec.upto fnExactSplitDeckSpec)) fnExactSplitDeckUptoCard

/-- THE SECOND FORM's CARD OF 'laws.FnExactFieldOfHole'. -/
def fnExactFieldOfHoleUptoCard : Claim7 := { stood := { row := fnExactFieldOfHoleUptoRow, standIns := [], harness := (true, "03cc4346f56751589aa199b2af45636fc4df261b144ae52073e3a65351306566"), looks := false }, kinds := [], alts := [], laidByText := true, laidKinds := [.data, .pinned], laidTests := true, laidLooks := .later }
def FnExactFieldOfHoleUptoCardSaid : Prop := Claim7.holds Tryd.pinned (.plain (OpenSpec.upto fnExactFieldOfHoleSpec)) fnExactFieldOfHoleUptoCard

/-- THE SECOND FORM's CARD OF 'laws.FnExactAnswerOf'. -/
def fnExactAnswerOfUptoCard : Claim7 := { stood := { row := fnExactAnswerOfUptoRow, standIns := [], harness := (true, "03cc4346f56751589aa199b2af45636fc4df261b144ae52073e3a65351306566"), looks := false }, kinds := [], alts := [], laidByText := true, laidKinds := [.data, .pinned], laidTests := true, laidLooks := .later }
def FnExactAnswerOfUptoCardSaid : Prop := Claim7.holds Tryd.pinned (.plain (OpenSpec.upto fnExactAnswerOfSpec)) fnExactAnswerOfUptoCard

/-- THE SECOND FORM's CARD OF 'laws.FnExactPassMany'. -/
def fnExactPassManyUptoCard : Claim7 := { stood := { row := fnExactPassManyUptoRow, standIns := [], harness := (true, "03cc4346f56751589aa199b2af45636fc4df261b144ae52073e3a65351306566"), looks := false }, kinds := [], alts := [], laidByText := true, laidKinds := [.data, .pinned], laidTests := true, laidLooks := .later }
def FnExactPassManyUptoCardSaid : Prop := Claim7.holds Tryd.pinned (.plain (OpenSpec.upto fnExactPassManySpec)) fnExactPassManyUptoCard

/-- THE SECOND FORM's CARD OF 'laws.FnExactAnyOf'. -/
def fnExactAnyOfUptoCard : Claim7 := { stood := { row := fnExactAnyOfUptoRow, standIns := [], harness := (true, "03cc4346f56751589aa199b2af45636fc4df261b144ae52073e3a65351306566"), looks := false }, kinds := [], alts := [], laidByText := true, laidKinds := [.data, .pinned], laidTests := true, laidLooks := .later }
def FnExactAnyOfUptoCardSaid : Prop := Claim7.holds Tryd.pinned (.plain (OpenSpec.upto fnExactAnyOfSpec)) fnExactAnyOfUptoCard

/-- THE SECOND FORM's CARD OF 'laws.FnExactIsSorted'. -/
def fnExactIsSortedUptoCard : Claim7 := { stood := { row := fnExactIsSortedUptoRow, standIns := [], harness := (true, "03cc4346f56751589aa199b2af45636fc4df261b144ae52073e3a65351306566"), looks := false }, kinds := [], alts := [], laidByText := true, laidKinds := [.data, .pinned], laidTests := true, laidLooks := .later }
def FnExactIsSortedUptoCardSaid : Prop := Claim7.holds Tryd.pinned (.plain (OpenSpec.upto fnExactIsSortedSpec)) fnExactIsSortedUptoCard

/-- THE SECOND FORM's CARD OF 'laws.FnExactFewestNeedles'. -/
def fnExactFewestNeedlesUptoCard : Claim7 := { stood := { row := fnExactFewestNeedlesUptoRow, standIns := [], harness := (true, "03cc4346f56751589aa199b2af45636fc4df261b144ae52073e3a65351306566"), looks := false }, kinds := [], alts := [], laidByText := true, laidKinds := [.data, .pinned], laidTests := true, laidLooks := .later }
def FnExactFewestNeedlesUptoCardSaid : Prop := Claim7.holds Tryd.pinned (.plain (OpenSpec.upto fnExactFewestNeedlesSpec)) fnExactFewestNeedlesUptoCard
end Rows
end Go.Proofs.YtpmilcfppcmodaaDoor

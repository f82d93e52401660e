/-
  DERIVED. GIVEN WITH THE SEED: THE CARDS: each row of YtihebflgceljfaaDoorRows.lean that lists a variable, with what it lists TIED to the program's text (the seventh form; the later family's looks); each row that meets fmt, with fmt's text TOLD by the authors' own Lean function (tested against real Go, not proved from fmt's source: count such statements apart). THE CARD IS WHAT COUNTS. Prove the row's statement (the work); the ties are given (YtihebflgceljfaaDoorTie.lean); close each card by the builder's one call (the guide's Derived/Test/ToyasCard.lean, 'card_holds'). Laid BY PROGRAM, IN A SANDBOX (cutbox-door.mjs). By AI agents, Wed Nov 11 2026. No macro, syntax, notation, axiom, sorry.
-/
import Derived.Test.YtihebflgceljfaaDoorRows
import GoSem.ClaimSeven
namespace Go.Proofs.YtihebflgceljfaaDoor
namespace Rows

/-- THE TIED CARD OF 'laws.FnExactWordCheck'. -/
def fnExactWordCheckCard : Claim7 := { stood := { row := fnExactWordCheckRow, standIns := [], harness := (true, "d6630b584d32ac19a16d758c1892231f515bbd99458ba8a34cc9dd89fd46006d"), looks := false }, kinds := [], alts := [], laidByText := true, laidKinds := [.data, .pinned], laidTests := true, laidLooks := .later }
def FnExactWordCheckCardSaid : Prop := Claim7.holds Tryd.pinned (.plain (OpenSpec.ofChange fnExactWordCheckSpec)) fnExactWordCheckCard

/-- THE TIED CARD OF 'laws.FnExactWordHoles'. -/
def fnExactWordHolesCard : Claim7 := { stood := { row := fnExactWordHolesRow, standIns := [], harness := (true, "d6630b584d32ac19a16d758c1892231f515bbd99458ba8a34cc9dd89fd46006d"), looks := false }, kinds := [], alts := [], laidByText := true, laidKinds := [.data, .pinned], laidTests := true, laidLooks := .later }
def FnExactWordHolesCardSaid : Prop := Claim7.holds Tryd.pinned (.plain (OpenSpec.ofChange fnExactWordHolesSpec)) fnExactWordHolesCard

/-- THE TIED CARD OF 'laws.FnExactNeedlesFor'. -/
def fnExactNeedlesForCard : Claim7 := { stood := { row := fnExactNeedlesForRow, standIns := [], harness := (true, "d6630b584d32ac19a16d758c1892231f515bbd99458ba8a34cc9dd89fd46006d"), looks := false }, kinds := [], alts := [], laidByText := true, laidKinds := [.data, .pinned], laidTests := true, laidLooks := .later }
def FnExactNeedlesForCardSaid : Prop := Claim7.holds Tryd.pinned (.plain (OpenSpec.ofChange fnExactNeedlesForSpec)) fnExactNeedlesForCard

/-- THE TIED CARD OF 'laws.FnExactTrueOf'. -/
def fnExactTrueOfCard : Claim7 := { stood := { row := fnExactTrueOfRow, standIns := [], harness := (true, "d6630b584d32ac19a16d758c1892231f515bbd99458ba8a34cc9dd89fd46006d"), looks := false }, kinds := [], alts := [], laidByText := true, laidKinds := [.data, .pinned], laidTests := true, laidLooks := .later }
def FnExactTrueOfCardSaid : Prop := Claim7.holds Tryd.pinned (.plain (OpenSpec.ofChange fnExactTrueOfSpec)) fnExactTrueOfCard

/-- THE TIED CARD OF 'laws.FnExactAddWords'. -/
def fnExactAddWordsCard : Claim7 := { stood := { row := fnExactAddWordsRow, standIns := [], harness := (true, "d6630b584d32ac19a16d758c1892231f515bbd99458ba8a34cc9dd89fd46006d"), looks := false }, kinds := [], alts := [], laidByText := true, laidKinds := [.data, .pinned], laidTests := true, laidLooks := .later }
def FnExactAddWordsCardSaid : Prop := Claim7.holds Tryd.pinned (.plain (OpenSpec.ofChange fnExactAddWordsSpec)) fnExactAddWordsCard

/-- THE TIED CARD OF 'laws.FnExactDrops'. -/
def fnExactDropsCard : Claim7 := { stood := { row := fnExactDropsRow, standIns := [], harness := (true, "d6630b584d32ac19a16d758c1892231f515bbd99458ba8a34cc9dd89fd46006d"), looks := false }, kinds := [], alts := [], laidByText := true, laidKinds := [.data, .pinned], laidTests := true, laidLooks := .later }
def FnExactDropsCardSaid : Prop := Claim7.holds Tryd.pinned (.plain (OpenSpec.ofChange fnExactDropsSpec)) fnExactDropsCard

/-- THE TIED CARD OF 'laws.FnExactAlikeWords'. -/
def fnExactAlikeWordsCard : Claim7 := { stood := { row := fnExactAlikeWordsRow, standIns := [], harness := (true, "d6630b584d32ac19a16d758c1892231f515bbd99458ba8a34cc9dd89fd46006d"), looks := false }, kinds := [], alts := [], laidByText := true, laidKinds := [.data, .pinned], laidTests := true, laidLooks := .later }
def FnExactAlikeWordsCardSaid : Prop := Claim7.holds Tryd.pinned (.plain (OpenSpec.ofChange fnExactAlikeWordsSpec)) fnExactAlikeWordsCard

/-- THE TIED CARD OF 'laws.FnExactMaybeWords'. -/
def fnExactMaybeWordsCard : Claim7 := { stood := { row := fnExactMaybeWordsRow, standIns := [], harness := (true, "d6630b584d32ac19a16d758c1892231f515bbd99458ba8a34cc9dd89fd46006d"), looks := false }, kinds := [], alts := [], laidByText := true, laidKinds := [.data, .pinned], laidTests := true, laidLooks := .later }
def FnExactMaybeWordsCardSaid : Prop := Claim7.holds Tryd.pinned (.plain (OpenSpec.ofChange fnExactMaybeWordsSpec)) fnExactMaybeWordsCard

/-- THE TIED CARD OF 'laws.FnWords'. -/
def fnWordsCard : Claim7 := { stood := { row := fnWordsRow, standIns := [], harness := (true, "d6630b584d32ac19a16d758c1892231f515bbd99458ba8a34cc9dd89fd46006d"), looks := false }, kinds := [], alts := [], laidByText := true, laidKinds := [.data, .pinned], laidTests := true, laidLooks := .later }
def FnWordsCardSaid : Prop := Claim7.holds Tryd.pinned (.plain (OpenSpec.ofChange fnWordsSpec)) fnWordsCard

/-- THE SECOND FORM's CARD OF 'laws.FnExactWordCheck'. -/
def fnExactWordCheckUptoCard : Claim7 := { stood := { row := fnExactWordCheckUptoRow, standIns := [], harness := (true, "d6630b584d32ac19a16d758c1892231f515bbd99458ba8a34cc9dd89fd46006d"), looks := false }, kinds := [], alts := [], laidByText := true, laidKinds := [.data, .pinned], laidTests := true, laidLooks := .later }
def FnExactWordCheckUptoCardSaid : Prop := Claim7.holds Tryd.pinned (.plain (OpenSpec.upto fnExactWordCheckSpec)) fnExactWordCheckUptoCard

/-- THE SECOND FORM's CARD OF 'laws.FnExactWordHoles'. -/
def fnExactWordHolesUptoCard : Claim7 := { stood := { row := fnExactWordHolesUptoRow, standIns := [], harness := (true, "d6630b584d32ac19a16d758c1892231f515bbd99458ba8a34cc9dd89fd46006d"), looks := false }, kinds := [], alts := [], laidByText := true, laidKinds := [.data, .pinned], laidTests := true, laidLooks := .later }
def FnExactWordHolesUptoCardSaid : Prop := Claim7.holds Tryd.pinned (.plain (OpenSpec.upto fnExactWordHolesSpec)) fnExactWordHolesUptoCard

/-- THE SECOND FORM's CARD OF 'laws.FnExactNeedlesFor'. -/
def fnExactNeedlesForUptoCard : Claim7 := { stood := { row := fnExactNeedlesForUptoRow, standIns := [], harness := (true, "d6630b584d32ac19a16d758c1892231f515bbd99458ba8a34cc9dd89fd46006d"), looks := false }, kinds := [], alts := [], laidByText := true, laidKinds := [.data, .pinned], laidTests := true, laidLooks := .later }
def FnExactNeedlesForUptoCardSaid : Prop := Claim7.holds Tryd.pinned (.plain (OpenSpec.upto fnExactNeedlesForSpec)) fnExactNeedlesForUptoCard

/-- THE SECOND FORM's CARD OF 'laws.FnExactTrueOf'. -/
def fnExactTrueOfUptoCard : Claim7 := { stood := { row := fnExactTrueOfUptoRow, standIns := [], harness := (true, "d6630b584d32ac19a16d758c1892231f515bbd99458ba8a34cc9dd89fd46006d"), looks := false }, kinds := [], alts := [], laidByText := true, laidKinds := [.data, .pinned], laidTests := true, laidLooks := .later }
def FnExactTrueOfUptoCardSaid : Prop := Claim7.holds Tryd.pinned (.plain (OpenSpec.upto fnExactTrueOfSpec)) fnExactTrueOfUptoCard

/-- THE SECOND FORM's CARD OF 'laws.FnExactAddWords'. -/
def fnExactAddWordsUptoCard : Claim7 := { stood := { row := fnExactAddWordsUptoRow, standIns := [], harness := (true, "d6630b584d32ac19a16d758c1892231f515bbd99458ba8a34cc9dd89fd46006d"), looks := false }, kinds := [], alts := [], laidByText := true, laidKinds := [.data, .pinned], laidTests := true, laidLooks := .later }
def FnExactAddWordsUptoCardSaid : Prop := Claim7.holds Tryd.pinned (.plain (OpenSpec.upto fnExactAddWordsSpec)) fnExactAddWordsUptoCard

/-- THE SECOND FORM's CARD OF 'laws.FnExactDrops'. -/
def fnExactDropsUptoCard : Claim7 := { stood := { row := fnExactDropsUptoRow, standIns := [], harness := (true, "d6630b584d32ac19a16d758c1892231f515bbd99458ba8a34cc9dd89fd46006d"), looks := false }, kinds := [], alts := [], laidByText := true, laidKinds := [.data, .pinned], laidTests := true, laidLooks := .later }
def FnExactDropsUptoCardSaid : Prop := Claim7.holds Tryd.pinned (.plain (OpenSpec.upto fnExactDropsSpec)) fnExactDropsUptoCard

/-- THE SECOND FORM's CARD OF 'laws.FnExactAlikeWords'. -/
def fnExactAlikeWordsUptoCard : Claim7 := { stood := { row := fnExactAlikeWordsUptoRow, standIns := [], harness := (true, "d6630b584d32ac19a16d758c1892231f515bbd99458ba8a34cc9dd89fd46006d"), looks := false }, kinds := [], alts := [], laidByText := true, laidKinds := [.data, .pinned], laidTests := true, laidLooks := .later }
def FnExactAlikeWordsUptoCardSaid : Prop := Claim7.holds Tryd.pinned (.plain (OpenSpec.upto fnExactAlikeWordsSpec)) fnExactAlikeWordsUptoCard

/-- THE SECOND FORM's CARD OF 'laws.FnExactMaybeWords'. -/
def fnExactMaybeWordsUptoCard : Claim7 := { stood := { row := fnExactMaybeWordsUptoRow, standIns := [], harness := (true, "d6630b584d32ac19a16d758c1892231f515bbd99458ba8a34cc9dd89fd46006d"), looks := false }, kinds := [], alts := [], laidByText := true, laidKinds := [.data, .pinned], laidTests := true, laidLooks := .later }
def FnExactMaybeWordsUptoCardSaid : Prop := Claim7.holds Tryd.pinned (.plain (OpenSpec.upto fnExactMaybeWordsSpec)) fnExactMaybeWordsUptoCard

/-- THE SECOND FORM's CARD OF 'laws.FnWords'. -/
def fnWordsUptoCard : Claim7 := { stood := { row := fnWordsUptoRow, standIns := [], harness := (true, "d6630b584d32ac19a16d758c1892231f515bbd99458ba8a34cc9dd89fd46006d"), looks := false }, kinds := [], alts := [], laidByText := true, laidKinds := [.data, .pinned], laidTests := true, laidLooks := .later }
def FnWordsUptoCardSaid : Prop := Claim7.holds Tryd.pinned (.plain (OpenSpec.upto fnWordsSpec)) fnWordsUptoCard
end Rows
end Go.Proofs.YtihebflgceljfaaDoor

/-
  DERIVED. GIVEN WITH THE SEED: THE CARDS: each row of YtbbnhbfofdhnbaaDoorRows.lean that lists a variable, with what it lists TIED to the program's text (the seventh form; the later family's looks); each row that meets fmt, with fmt's text TOLD by the authors' own Lean function (tested against real Go, not proved from fmt's source: count such statements apart). THE CARD IS WHAT COUNTS. Prove the row's statement (the work); the ties are given (YtbbnhbfofdhnbaaDoorTie.lean); close each card by the builder's one call (the guide's Derived/Test/ToyasCard.lean, 'card_holds'). Laid BY PROGRAM, IN A SANDBOX (cutbox-door.mjs). By AI agents, Wed Nov 11 2026. No macro, syntax, notation, axiom, sorry.
-/
import Derived.Test.YtbbnhbfofdhnbaaDoorRows
import GoSem.ClaimSeven
namespace Go.Proofs.YtbbnhbfofdhnbaaDoor
namespace Rows

/-- THE TIED CARD OF 'laws.FnExactTrueOf'. -/
def fnExactTrueOfCard : Claim7 := { stood := { row := fnExactTrueOfRow, standIns := [], harness := (true, "c3e0e93f062542f856589855eaa6138149d0e8ce9733d84a27247611a5b8828f"), looks := false }, kinds := [], alts := [], laidByText := true, laidKinds := [.data, .pinned], laidTests := true, laidLooks := .later }
def FnExactTrueOfCardSaid : Prop := Claim7.holds Tryd.pinned (.plain (OpenSpec.ofChange fnExactTrueOfSpec)) fnExactTrueOfCard

/-- THE TIED CARD OF 'laws.FnExactAlikeWords'. -/
def fnExactAlikeWordsCard : Claim7 := { stood := { row := fnExactAlikeWordsRow, standIns := [], harness := (true, "c3e0e93f062542f856589855eaa6138149d0e8ce9733d84a27247611a5b8828f"), looks := false }, kinds := [], alts := [], laidByText := true, laidKinds := [.data, .pinned], laidTests := true, laidLooks := .later }
def FnExactAlikeWordsCardSaid : Prop := Claim7.holds Tryd.pinned (.plain (OpenSpec.ofChange fnExactAlikeWordsSpec)) fnExactAlikeWordsCard

/-- THE TIED CARD OF 'laws.FnExactMaybeWords'. -/
def fnExactMaybeWordsCard : Claim7 := { stood := { row := fnExactMaybeWordsRow, standIns := [], harness := (true, "c3e0e93f062542f856589855eaa6138149d0e8ce9733d84a27247611a5b8828f"), looks := false }, kinds := [], alts := [], laidByText := true, laidKinds := [.data, .pinned], laidTests := true, laidLooks := .later }
def FnExactMaybeWordsCardSaid : Prop := Claim7.holds Tryd.pinned (.plain (OpenSpec.ofChange fnExactMaybeWordsSpec)) fnExactMaybeWordsCard

/-- THE TIED CARD OF 'laws.FnWords'. -/
def fnWordsCard : Claim7 := { stood := { row := fnWordsRow, standIns := [], harness := (true, "c3e0e93f062542f856589855eaa6138149d0e8ce9733d84a27247611a5b8828f"), looks := false }, kinds := [], alts := [], laidByText := true, laidKinds := [.data, .pinned], laidTests := true, laidLooks := .later }
def FnWordsCardSaid : Prop := Claim7.holds Tryd.pinned (.plain (OpenSpec.ofChange fnWordsSpec)) fnWordsCard

/-- THE SECOND FORM's CARD OF 'laws.FnExactTrueOf'. -/
def fnExactTrueOfUptoCard : Claim7 := { stood := { row := fnExactTrueOfUptoRow, standIns := [], harness := (true, "c3e0e93f062542f856589855eaa6138149d0e8ce9733d84a27247611a5b8828f"), looks := false }, kinds := [], alts := [], laidByText := true, laidKinds := [.data, .pinned], laidTests := true, laidLooks := .later }
def FnExactTrueOfUptoCardSaid : Prop := Claim7.holds Tryd.pinned (.plain (OpenSpec.upto fnExactTrueOfSpec)) fnExactTrueOfUptoCard

/-- THE SECOND FORM's CARD OF 'laws.FnExactAlikeWords'. -/
def fnExactAlikeWordsUptoCard : Claim7 := { stood := { row := fnExactAlikeWordsUptoRow, standIns := [], harness := (true, "c3e0e93f062542f856589855eaa6138149d0e8ce9733d84a27247611a5b8828f"), looks := false }, kinds := [], alts := [], laidByText := true, laidKinds := [.data, .pinned], laidTests := true, laidLooks := .later }
def FnExactAlikeWordsUptoCardSaid : Prop := Claim7.holds Tryd.pinned (.plain (OpenSpec.upto fnExactAlikeWordsSpec)) fnExactAlikeWordsUptoCard

/-- THE SECOND FORM's CARD OF 'laws.FnExactMaybeWords'. -/
def fnExactMaybeWordsUptoCard : Claim7 := { stood := { row := fnExactMaybeWordsUptoRow, standIns := [], harness := (true, "c3e0e93f062542f856589855eaa6138149d0e8ce9733d84a27247611a5b8828f"), looks := false }, kinds := [], alts := [], laidByText := true, laidKinds := [.data, .pinned], laidTests := true, laidLooks := .later }
def FnExactMaybeWordsUptoCardSaid : Prop := Claim7.holds Tryd.pinned (.plain (OpenSpec.upto fnExactMaybeWordsSpec)) fnExactMaybeWordsUptoCard

/-- THE SECOND FORM's CARD OF 'laws.FnWords'. -/
def fnWordsUptoCard : Claim7 := { stood := { row := fnWordsUptoRow, standIns := [], harness := (true, "c3e0e93f062542f856589855eaa6138149d0e8ce9733d84a27247611a5b8828f"), looks := false }, kinds := [], alts := [], laidByText := true, laidKinds := [.data, .pinned], laidTests := true, laidLooks := .later }
def FnWordsUptoCardSaid : Prop := Claim7.holds Tryd.pinned (.plain (OpenSpec.upto fnWordsSpec)) fnWordsUptoCard
end Rows
end Go.Proofs.YtbbnhbfofdhnbaaDoor

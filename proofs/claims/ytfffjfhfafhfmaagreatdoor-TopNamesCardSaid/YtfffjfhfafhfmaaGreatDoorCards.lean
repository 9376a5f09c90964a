/-
  DERIVED. GIVEN WITH THE SEED: THE CARDS: each row of YtfffjfhfafhfmaaGreatDoorRows.lean that lists a variable, with what it lists TIED to the program's text (the seventh form; the later family's looks); each row that meets fmt, with fmt's text TOLD by the authors' own Lean function (tested against real Go, not proved from fmt's source: count such statements apart). THE CARD IS WHAT COUNTS. Prove the row's statement (the work); the ties are given (YtfffjfhfafhfmaaGreatDoorTie.lean); close each card by the builder's one call (the guide's Derived/Test/ToyasCard.lean, 'card_holds'). Laid BY PROGRAM, IN A SANDBOX (cutbox-door.mjs). By AI agents, Wed Nov 11 2026. No macro, syntax, notation, axiom, sorry.
-/
import Derived.Test.YtfffjfhfafhfmaaGreatDoorRows
import GoSem.ClaimSeven
namespace Go.Proofs.YtfffjfhfafhfmaaGreatDoor
namespace Rows

/-- THE TIED CARD OF 'webfingertop.TopNames'. -/
def topNamesCard : Claim7 := { stood := { row := topNamesRow, standIns := [], harness := (true, "2f4b8c4936edb5c994ac5089dd0444d1c29fc5aab2c7bb4735053a8375c657d9"), looks := false }, kinds := [], alts := [], laidByText := true, laidKinds := [.data, .data, .pinned], laidTests := true, laidLooks := .later }
def TopNamesCardSaid : Prop := Claim7.holds Tryz.pinned (.plain (OpenSpec.ofChange topNamesSpec)) topNamesCard

/-- THE TIED CARD OF 'webfingertop.TopTooMany'. -/
def topTooManyCard : Claim7 := { stood := { row := topTooManyRow, standIns := [], harness := (true, "2f4b8c4936edb5c994ac5089dd0444d1c29fc5aab2c7bb4735053a8375c657d9"), looks := false }, kinds := [], alts := [], laidByText := true, laidKinds := [.data, .data, .pinned], laidTests := true, laidLooks := .later }
def TopTooManyCardSaid : Prop := Claim7.holds Tryz.pinned (.plain (OpenSpec.ofChange topTooManySpec)) topTooManyCard

/-- THE TIED CARD OF 'webfingertop.TopLater'. -/
def topLaterCard : Claim7 := { stood := { row := topLaterRow, standIns := [], harness := (true, "2f4b8c4936edb5c994ac5089dd0444d1c29fc5aab2c7bb4735053a8375c657d9"), looks := false }, kinds := [], alts := [], laidByText := true, laidKinds := [.data, .data, .pinned], laidTests := true, laidLooks := .later }
def TopLaterCardSaid : Prop := Claim7.holds Tryz.pinned (.plain (OpenSpec.ofChange topLaterSpec)) topLaterCard

/-- THE TIED CARD OF 'webfingertop.TopShadowed'. -/
def topShadowedCard : Claim7 := { stood := { row := topShadowedRow, standIns := [], harness := (true, "2f4b8c4936edb5c994ac5089dd0444d1c29fc5aab2c7bb4735053a8375c657d9"), looks := false }, kinds := [], alts := [], laidByText := true, laidKinds := [.data, .data, .pinned], laidTests := true, laidLooks := .later }
def TopShadowedCardSaid : Prop := Claim7.holds Tryz.pinned (.plain (OpenSpec.ofChange topShadowedSpec)) topShadowedCard

/-- THE TIED CARD OF 'webfingertop.TopErrors'. -/
def topErrorsCard : Claim7 := { stood := { row := topErrorsRow, standIns := [], harness := (true, "2f4b8c4936edb5c994ac5089dd0444d1c29fc5aab2c7bb4735053a8375c657d9"), looks := false }, kinds := [], alts := [], laidByText := true, laidKinds := [.data, .data, .pinned], laidTests := true, laidLooks := .later }
def TopErrorsCardSaid : Prop := Claim7.holds Tryz.pinned (.plain (OpenSpec.ofChange topErrorsSpec)) topErrorsCard

/-- THE SECOND FORM's CARD OF 'webfingertop.TopNames'. -/
def topNamesUptoCard : Claim7 := { stood := { row := topNamesUptoRow, standIns := [], harness := (true, "2f4b8c4936edb5c994ac5089dd0444d1c29fc5aab2c7bb4735053a8375c657d9"), looks := false }, kinds := [], alts := [], laidByText := true, laidKinds := [.data, .data, .pinned], laidTests := true, laidLooks := .later }
def TopNamesUptoCardSaid : Prop := Claim7.holds Tryz.pinned (.plain (OpenSpec.upto topNamesSpec)) topNamesUptoCard

/-- THE SECOND FORM's CARD OF 'webfingertop.TopTooMany'. -/
def topTooManyUptoCard : Claim7 := { stood := { row := topTooManyUptoRow, standIns := [], harness := (true, "2f4b8c4936edb5c994ac5089dd0444d1c29fc5aab2c7bb4735053a8375c657d9"), looks := false }, kinds := [], alts := [], laidByText := true, laidKinds := [.data, .data, .pinned], laidTests := true, laidLooks := .later }
def TopTooManyUptoCardSaid : Prop := Claim7.holds Tryz.pinned (.plain (OpenSpec.upto topTooManySpec)) topTooManyUptoCard

/-- THE SECOND FORM's CARD OF 'webfingertop.TopLater'. -/
def topLaterUptoCard : Claim7 := { stood := { row := topLaterUptoRow, standIns := [], harness := (true, "2f4b8c4936edb5c994ac5089dd0444d1c29fc5aab2c7bb4735053a8375c657d9"), looks := false }, kinds := [], alts := [], laidByText := true, laidKinds := [.data, .data, .pinned], laidTests := true, laidLooks := .later }
def TopLaterUptoCardSaid : Prop := Claim7.holds Tryz.pinned (.plain (OpenSpec.upto topLaterSpec)) topLaterUptoCard

/-- THE SECOND FORM's CARD OF 'webfingertop.TopShadowed'. -/
def topShadowedUptoCard : Claim7 := { stood := { row := topShadowedUptoRow, standIns := [], harness := (true, "2f4b8c4936edb5c994ac5089dd0444d1c29fc5aab2c7bb4735053a8375c657d9"), looks := false }, kinds := [], alts := [], laidByText := true, laidKinds := [.data, .data, .pinned], laidTests := true, laidLooks := .later }
def TopShadowedUptoCardSaid : Prop := Claim7.holds Tryz.pinned (.plain (OpenSpec.upto topShadowedSpec)) topShadowedUptoCard

/-- THE SECOND FORM's CARD OF 'webfingertop.TopErrors'. -/
def topErrorsUptoCard : Claim7 := { stood := { row := topErrorsUptoRow, standIns := [], harness := (true, "2f4b8c4936edb5c994ac5089dd0444d1c29fc5aab2c7bb4735053a8375c657d9"), looks := false }, kinds := [], alts := [], laidByText := true, laidKinds := [.data, .data, .pinned], laidTests := true, laidLooks := .later }
def TopErrorsUptoCardSaid : Prop := Claim7.holds Tryz.pinned (.plain (OpenSpec.upto topErrorsSpec)) topErrorsUptoCard
end Rows
end Go.Proofs.YtfffjfhfafhfmaaGreatDoor

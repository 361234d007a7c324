/-
  DERIVED. GIVEN WITH THE SEED: THE CARDS: each row of YtabgnbbljjohdaaRDoorRows.lean that lists a variable, with what it lists TIED to the program's text (the seventh form; the later family's looks); each row that meets fmt, with fmt's text TOLD by the authors' own Lean function (tested against real Go, not proved from fmt's source: count such statements apart). THE CARD IS WHAT COUNTS. Prove the row's statement (the work); the ties are given (YtabgnbbljjohdaaRDoorTie.lean); close each card by the builder's one call (the guide's Derived/Test/ToyasCard.lean, 'card_holds'). Laid BY PROGRAM, IN A SANDBOX (cutbox-door.mjs). By AI agents, Wed Nov 11 2026. No macro, syntax, notation, axiom, sorry.
-/
import Derived.Test.YtabgnbbljjohdaaRDoorRows
import GoSem.ClaimSeven
namespace Go.Proofs.YtabgnbbljjohdaaRDoor
namespace Rows

/-- THE TIED CARD OF 'sigillaw12.JsonQuotes'. -/
def jsonQuotesCard : Claim7 := { stood := { row := jsonQuotesRow, standIns := [], harness := (true, "d53fc9000416b4c84c67d0ca76b2cdfe559aa7bf364d6835fb9b87ceac270829"), looks := true }, kinds := [], alts := [], laidByText := true, laidKinds := [.data], laidTests := true, laidLooks := .later }
def JsonQuotesCardSaid : Prop := Claim7.holds Tryd.pinned (.plain (OpenSpec.ofChange jsonQuotesSpec)) jsonQuotesCard

/-- THE TIED CARD OF 'sigillaw4.ScanQuotes'. -/
def scanQuotesCard : Claim7 := { stood := { row := scanQuotesRow, standIns := [], harness := (true, "d53fc9000416b4c84c67d0ca76b2cdfe559aa7bf364d6835fb9b87ceac270829"), looks := true }, kinds := [], alts := [], laidByText := true, laidKinds := [.data], laidTests := true, laidLooks := .later }
def ScanQuotesCardSaid : Prop := Claim7.holds Tryd.pinned (.plain (OpenSpec.ofChange scanQuotesSpec)) scanQuotesCard

/-- THE TIED CARD OF 'sigillaw4.ScanUnquotes'. -/
def scanUnquotesCard : Claim7 := { stood := { row := scanUnquotesRow, standIns := [], harness := (true, "d53fc9000416b4c84c67d0ca76b2cdfe559aa7bf364d6835fb9b87ceac270829"), looks := true }, kinds := [], alts := [], laidByText := true, laidKinds := [.data], laidTests := true, laidLooks := .later }
def ScanUnquotesCardSaid : Prop := Claim7.holds Tryd.pinned (.plain (OpenSpec.ofChange scanUnquotesSpec)) scanUnquotesCard

/-- THE TIED CARD OF 'sigillaw4.ScanTokens'. -/
def scanTokensCard : Claim7 := { stood := { row := scanTokensRow, standIns := [], harness := (true, "d53fc9000416b4c84c67d0ca76b2cdfe559aa7bf364d6835fb9b87ceac270829"), looks := true }, kinds := [], alts := [], laidByText := true, laidKinds := [.data], laidTests := true, laidLooks := .later }
def ScanTokensCardSaid : Prop := Claim7.holds Tryd.pinned (.plain (OpenSpec.ofChange scanTokensSpec)) scanTokensCard

/-- THE TIED CARD OF 'sigillaw4.ScanMany'. -/
def scanManyCard : Claim7 := { stood := { row := scanManyRow, standIns := [], harness := (true, "d53fc9000416b4c84c67d0ca76b2cdfe559aa7bf364d6835fb9b87ceac270829"), looks := true }, kinds := [], alts := [], laidByText := true, laidKinds := [.data], laidTests := true, laidLooks := .later }
def ScanManyCardSaid : Prop := Claim7.holds Tryd.pinned (.plain (OpenSpec.ofChange scanManySpec)) scanManyCard

/-- THE TIED CARD OF 'sigillaw4.ScanPlaces'. -/
def scanPlacesCard : Claim7 := { stood := { row := scanPlacesRow, standIns := [], harness := (true, "d53fc9000416b4c84c67d0ca76b2cdfe559aa7bf364d6835fb9b87ceac270829"), looks := true }, kinds := [], alts := [], laidByText := true, laidKinds := [.data], laidTests := true, laidLooks := .later }
def ScanPlacesCardSaid : Prop := Claim7.holds Tryd.pinned (.plain (OpenSpec.ofChange scanPlacesSpec)) scanPlacesCard

/-- THE TIED CARD OF 'sigillaw4.ScanBook'. -/
def scanBookCard : Claim7 := { stood := { row := scanBookRow, standIns := [], harness := (true, "d53fc9000416b4c84c67d0ca76b2cdfe559aa7bf364d6835fb9b87ceac270829"), looks := true }, kinds := [], alts := [], laidByText := true, laidKinds := [.data], laidTests := true, laidLooks := .later }
def ScanBookCardSaid : Prop := Claim7.holds Tryd.pinned (.plain (OpenSpec.ofChange scanBookSpec)) scanBookCard

/-- THE TIED CARD OF 'sigillaw12.JsonCompacts'. -/
def jsonCompactsCard : Claim7 := { stood := { row := jsonCompactsRow, standIns := [], harness := (true, "d53fc9000416b4c84c67d0ca76b2cdfe559aa7bf364d6835fb9b87ceac270829"), looks := true }, kinds := [], alts := [], laidByText := true, laidKinds := [.data], laidTests := true, laidLooks := .later }
def JsonCompactsCardSaid : Prop := Claim7.holds Tryd.pinned (.plain (OpenSpec.ofChange jsonCompactsSpec)) jsonCompactsCard

/-- THE TIED CARD OF 'sigillaw4.ScanBack'. -/
def scanBackCard : Claim7 := { stood := { row := scanBackRow, standIns := [], harness := (true, "d53fc9000416b4c84c67d0ca76b2cdfe559aa7bf364d6835fb9b87ceac270829"), looks := true }, kinds := [], alts := [], laidByText := true, laidKinds := [.data], laidTests := true, laidLooks := .later }
def ScanBackCardSaid : Prop := Claim7.holds Tryd.pinned (.plain (OpenSpec.ofChange scanBackSpec)) scanBackCard

/-- THE SECOND FORM's CARD OF 'sigillaw12.JsonQuotes'. -/
def jsonQuotesUptoCard : Claim7 := { stood := { row := jsonQuotesUptoRow, standIns := [], harness := (true, "d53fc9000416b4c84c67d0ca76b2cdfe559aa7bf364d6835fb9b87ceac270829"), looks := true }, kinds := [], alts := [], laidByText := true, laidKinds := [.data], laidTests := true, laidLooks := .later }
def JsonQuotesUptoCardSaid : Prop := Claim7.holds Tryd.pinned (.plain (OpenSpec.upto jsonQuotesSpec)) jsonQuotesUptoCard

/-- THE SECOND FORM's CARD OF 'sigillaw4.ScanQuotes'. -/
def scanQuotesUptoCard : Claim7 := { stood := { row := scanQuotesUptoRow, standIns := [], harness := (true, "d53fc9000416b4c84c67d0ca76b2cdfe559aa7bf364d6835fb9b87ceac270829"), looks := true }, kinds := [], alts := [], laidByText := true, laidKinds := [.data], laidTests := true, laidLooks := .later }
def ScanQuotesUptoCardSaid : Prop := Claim7.holds Tryd.pinned (.plain (OpenSpec.upto scanQuotesSpec)) scanQuotesUptoCard

/-- THE SECOND FORM's CARD OF 'sigillaw4.ScanUnquotes'. -/
def scanUnquotesUptoCard : Claim7 := { stood := { row := scanUnquotesUptoRow, standIns := [], harness := (true, "d53fc9000416b4c84c67d0ca76b2cdfe559aa7bf364d6835fb9b87ceac270829"), looks := true }, kinds := [], alts := [], laidByText := true, laidKinds := [.data], laidTests := true, laidLooks := .later }
def ScanUnquotesUptoCardSaid : Prop := Claim7.holds Tryd.pinned (.plain (OpenSpec.upto scanUnquotesSpec)) scanUnquotesUptoCard

/-- THE SECOND FORM's CARD OF 'sigillaw4.ScanTokens'. -/
def scanTokensUptoCard : Claim7 := { stood := { row := scanTokensUptoRow, standIns := [], harness := (true, "d53fc9000416b4c84c67d0ca76b2cdfe559aa7bf364d6835fb9b87ceac270829"), looks := true }, kinds := [], alts := [], laidByText := true, laidKinds := [.data], laidTests := true, laidLooks := .later }
def ScanTokensUptoCardSaid : Prop := Claim7.holds Tryd.pinned (.plain (OpenSpec.upto scanTokensSpec)) scanTokensUptoCard

/-- THE SECOND FORM's CARD OF 'sigillaw4.ScanMany'. -/
def scanManyUptoCard : Claim7 := { stood := { row := scanManyUptoRow, standIns := [], harness := (true, "d53fc9000416b4c84c67d0ca76b2cdfe559aa7bf364d6835fb9b87ceac270829"), looks := true }, kinds := [], alts := [], laidByText := true, laidKinds := [.data], laidTests := true, laidLooks := .later }
def ScanManyUptoCardSaid : Prop := Claim7.holds Tryd.pinned (.plain (OpenSpec.upto scanManySpec)) scanManyUptoCard

/-- THE SECOND FORM's CARD OF 'sigillaw4.ScanPlaces'. -/
def scanPlacesUptoCard : Claim7 := { stood := { row := scanPlacesUptoRow, standIns := [], harness := (true, "d53fc9000416b4c84c67d0ca76b2cdfe559aa7bf364d6835fb9b87ceac270829"), looks := true }, kinds := [], alts := [], laidByText := true, laidKinds := [.data], laidTests := true, laidLooks := .later }
def ScanPlacesUptoCardSaid : Prop := Claim7.holds Tryd.pinned (.plain (OpenSpec.upto scanPlacesSpec)) scanPlacesUptoCard

/-- THE SECOND FORM's CARD OF 'sigillaw4.ScanBook'. -/
def scanBookUptoCard : Claim7 := { stood := { row := scanBookUptoRow, standIns := [], harness := (true, "d53fc9000416b4c84c67d0ca76b2cdfe559aa7bf364d6835fb9b87ceac270829"), looks := true }, kinds := [], alts := [], laidByText := true, laidKinds := [.data], laidTests := true, laidLooks := .later }
def ScanBookUptoCardSaid : Prop := Claim7.holds Tryd.pinned (.plain (OpenSpec.upto scanBookSpec)) scanBookUptoCard

/-- THE SECOND FORM's CARD OF 'sigillaw12.JsonCompacts'. -/
def jsonCompactsUptoCard : Claim7 := { stood := { row := jsonCompactsUptoRow, standIns := [], harness := (true, "d53fc9000416b4c84c67d0ca76b2cdfe559aa7bf364d6835fb9b87ceac270829"), looks := true }, kinds := [], alts := [], laidByText := true, laidKinds := [.data], laidTests := true, laidLooks := .later }
def JsonCompactsUptoCardSaid : Prop := Claim7.holds Tryd.pinned (.plain (OpenSpec.upto jsonCompactsSpec)) jsonCompactsUptoCard

/-- THE SECOND FORM's CARD OF 'sigillaw4.ScanBack'. -/
def scanBackUptoCard : Claim7 := { stood := { row := scanBackUptoRow, standIns := [], harness := (true, "d53fc9000416b4c84c67d0ca76b2cdfe559aa7bf364d6835fb9b87ceac270829"), looks := true }, kinds := [], alts := [], laidByText := true, laidKinds := [.data], laidTests := true, laidLooks := .later }
def ScanBackUptoCardSaid : Prop := Claim7.holds Tryd.pinned (.plain (OpenSpec.upto scanBackSpec)) scanBackUptoCard
end Rows
end Go.Proofs.YtabgnbbljjohdaaRDoor

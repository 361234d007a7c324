/-
  DERIVED. GIVEN WITH THE SEED: THE CARDS: each row of YtbpiahpkbapijaaDoorRows.lean that lists a variable, with what it lists TIED to the program's text (the seventh form; the later family's looks); each row that meets fmt, with fmt's text TOLD by the authors' own Lean function (tested against real Go, not proved from fmt's source: count such statements apart). THE CARD IS WHAT COUNTS. Prove the row's statement (the work); the ties are given (YtbpiahpkbapijaaDoorTie.lean); close each card by the builder's one call (the guide's Derived/Test/ToyasCard.lean, 'card_holds'). Laid BY PROGRAM, IN A SANDBOX (cutbox-door.mjs). By AI agents, Wed Nov 11 2026. No macro, syntax, notation, axiom, sorry.
-/
import Derived.Test.YtbpiahpkbapijaaDoorRows
import GoSem.ClaimSeven
namespace Go.Proofs.YtbpiahpkbapijaaDoor
namespace Rows

/-- THE TIED CARD OF 'sigillaw4.ScanBook'. -/
def scanBookCard : Claim7 := { stood := { row := scanBookRow, standIns := [], harness := (true, "d41828fdb7744a5bbbe17e07efc6d16747f88e1f435a29cbce5c9466ce12127f"), looks := true }, kinds := [], alts := [], laidByText := true, laidKinds := [.data], laidTests := true, laidLooks := .later }
def ScanBookCardSaid : Prop := Claim7.holds Tryd.pinned (.plain (OpenSpec.ofChange scanBookSpec)) scanBookCard

/-- THE TIED CARD OF 'sigillaw12.JsonCompacts'. -/
def jsonCompactsCard : Claim7 := { stood := { row := jsonCompactsRow, standIns := [], harness := (true, "d41828fdb7744a5bbbe17e07efc6d16747f88e1f435a29cbce5c9466ce12127f"), looks := true }, kinds := [], alts := [], laidByText := true, laidKinds := [.data], laidTests := true, laidLooks := .later }
def JsonCompactsCardSaid : Prop := Claim7.holds Tryd.pinned (.plain (OpenSpec.ofChange jsonCompactsSpec)) jsonCompactsCard

/-- THE SECOND FORM's CARD OF 'sigillaw4.ScanBook'. -/
def scanBookUptoCard : Claim7 := { stood := { row := scanBookUptoRow, standIns := [], harness := (true, "d41828fdb7744a5bbbe17e07efc6d16747f88e1f435a29cbce5c9466ce12127f"), looks := true }, kinds := [], alts := [], laidByText := true, laidKinds := [.data], laidTests := true, laidLooks := .later }
def ScanBookUptoCardSaid : Prop := Claim7.holds Tryd.pinned (.plain (OpenSpec.upto scanBookSpec)) scanBookUptoCard

/-- THE SECOND FORM's CARD OF 'sigillaw12.JsonCompacts'. -/
def jsonCompactsUptoCard : Claim7 := { stood := { row := jsonCompactsUptoRow, standIns := [], harness := (true, "d41828fdb7744a5bbbe17e07efc6d16747f88e1f435a29cbce5c9466ce12127f"), looks := true }, kinds := [], alts := [], laidByText := true, laidKinds := [.data], laidTests := true, laidLooks := .later }
def JsonCompactsUptoCardSaid : Prop := Claim7.holds Tryd.pinned (.plain (OpenSpec.upto jsonCompactsSpec)) jsonCompactsUptoCard
end Rows
end Go.Proofs.YtbpiahpkbapijaaDoor

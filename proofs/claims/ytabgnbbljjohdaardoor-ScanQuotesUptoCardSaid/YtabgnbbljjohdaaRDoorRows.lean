/-
  NARROWER THAN 'FOR EVERY INPUT', by the rows' own cells (each row's printed sentence says how): JsonQuotes: laid · ScanQuotes: laid · ScanUnquotes: laid · ScanTokens: laid · ScanMany: laid · ScanPlaces: laid · ScanBook: laid · JsonCompacts: laid · ScanBack: laid.
  DERIVED. THE GIVEN ROWS OF THIS SEAT. 9 by the template 'for every input the law returns true; each argument reads behind the call as it read before'; 0 by the template 'total and deterministic' (their statements: YtabgnbbljjohdaaRDoorTotals.lean).
  GIVEN WITH THE SEED: the statements are not yours to turn. If you find one false, say at which input.
  Laid BY PROGRAM, IN A SANDBOX (cutbox-rows.mjs): the forced cells as the released guide's own fill.sh prints them over the translation f1d03a03762e1518… (all of the seat's roots in one cut). By AI agents, Wed Nov 11 2026. No macro, syntax, notation, axiom, sorry.
-/
import Derived.Test.YtabgnbbljjohdaaRDoorChecked
import GoSem.Claim
import GoSem.ClaimJoined
import GoSem.ClaimMapViews
import Derived.JoinedTies
import Derived.KernelRfl
namespace Go.Proofs.YtabgnbbljjohdaaRDoor
/- THE CELL 'sum', in the pinned program and in every row, IS THE sha256 OF THE DUMP (.gsa) THAT YtabgnbbljjohdaaRDoorProg.lean LOADS. Nothing in Lean hashes anything: it is a label: what it is worth is what the hold of that sum in a sandbox is worth. -/
noncomputable def Tryd.pinned : Pinned := { name := "ytabgnbbljjohdaardoor", sum := "f1d03a03762e1518986d4c102b475ac7bb6124b7782e5a4a5668dcb32e9de509", checked := Tryd.checked }
namespace Rows
def none {H : Type} : Left H := { results := [], args := [] }

/- WHAT THE LISTED PACKAGE-LEVEL VARIABLES READ AS WHEN THE CALL BEGINS. Each datum BY PROGRAM (the guide's laid-datum.mjs) off the statement by which the dump's own 'gosem.cut.vars' lays the variable. In a bare row this is a premise. The card (YtabgnbbljjohdaaRDoorCards.lean) ties it to the program's text. -/
def laid_sigil_wire_rows {H : Type} : DataW H := .agg [.agg [.lit (.int .u8 0), .lit (.int .u8 127), .lit (.int .u8 0), .lit (.int .u8 0), .lit (.int .i64 0)], .agg [.lit (.int .u8 194), .lit (.int .u8 223), .lit (.int .u8 128), .lit (.int .u8 191), .lit (.int .i64 1)], .agg [.lit (.int .u8 224), .lit (.int .u8 224), .lit (.int .u8 160), .lit (.int .u8 191), .lit (.int .i64 2)], .agg [.lit (.int .u8 225), .lit (.int .u8 236), .lit (.int .u8 128), .lit (.int .u8 191), .lit (.int .i64 2)], .agg [.lit (.int .u8 237), .lit (.int .u8 237), .lit (.int .u8 128), .lit (.int .u8 159), .lit (.int .i64 2)], .agg [.lit (.int .u8 238), .lit (.int .u8 239), .lit (.int .u8 128), .lit (.int .u8 191), .lit (.int .i64 2)], .agg [.lit (.int .u8 240), .lit (.int .u8 240), .lit (.int .u8 144), .lit (.int .u8 191), .lit (.int .i64 3)], .agg [.lit (.int .u8 241), .lit (.int .u8 243), .lit (.int .u8 128), .lit (.int .u8 191), .lit (.int .i64 3)], .agg [.lit (.int .u8 244), .lit (.int .u8 244), .lit (.int .u8 128), .lit (.int .u8 143), .lit (.int .i64 3)]]

/-- 'sigillaw12.JsonQuotes': WHATEVER THE INPUT: true; the input reads as it did. -/
def jsonQuotesSpec : ChangeSpec := { name := "jsonQuotes", fn := fun _ => fun
  | [d] => { results := [.lit (.bool true)], args := [d] }
  | _ => none }
def jsonQuotesRow : OpenClaim := { program := "ytabgnbbljjohdaardoor", sum := "f1d03a03762e1518986d4c102b475ac7bb6124b7782e5a4a5668dcb32e9de509", func := "sigil/sigillaw12.JsonQuotes", spec := "jsonQuotes", named := ["sigil/wire.rows"], apart := false, laid := [("sigil/wire.rows", laid_sigil_wire_rows)] }
def JsonQuotesSaid : Prop := jsonQuotesRow.holds Tryd.pinned (OpenSpec.ofChange jsonQuotesSpec)

/-- ITS FALSE NEIGHBOUR: 'it returns false'. Refute it at one input. -/
def jsonQuotesWrong : ChangeSpec := { name := "jsonQuotes", fn := fun _ => fun
  | [d] => { results := [.lit (.bool false)], args := [d] }
  | _ => none }
def JsonQuotesWrongFalsely : Prop := jsonQuotesRow.holds Tryd.pinned (OpenSpec.ofChange jsonQuotesWrong)

/-- 'sigillaw4.ScanQuotes': WHATEVER THE INPUT: true; the input reads as it did. -/
def scanQuotesSpec : ChangeSpec := { name := "scanQuotes", fn := fun _ => fun
  | [d] => { results := [.lit (.bool true)], args := [d] }
  | _ => none }
def scanQuotesRow : OpenClaim := { program := "ytabgnbbljjohdaardoor", sum := "f1d03a03762e1518986d4c102b475ac7bb6124b7782e5a4a5668dcb32e9de509", func := "sigil/sigillaw4.ScanQuotes", spec := "scanQuotes", inPlace := ["internal/abi.NoEscape"], named := ["sigil/wire.rows"], apart := false, laid := [("sigil/wire.rows", laid_sigil_wire_rows)] }
def ScanQuotesSaid : Prop := scanQuotesRow.holds Tryd.pinned (OpenSpec.ofChange scanQuotesSpec)

/-- ITS FALSE NEIGHBOUR: 'it returns false'. Refute it at one input. -/
def scanQuotesWrong : ChangeSpec := { name := "scanQuotes", fn := fun _ => fun
  | [d] => { results := [.lit (.bool false)], args := [d] }
  | _ => none }
def ScanQuotesWrongFalsely : Prop := scanQuotesRow.holds Tryd.pinned (OpenSpec.ofChange scanQuotesWrong)

/-- 'sigillaw4.ScanUnquotes': WHATEVER THE INPUT: true; the input reads as it did. -/
def scanUnquotesSpec : ChangeSpec := { name := "scanUnquotes", fn := fun _ => fun
  | [d] => { results := [.lit (.bool true)], args := [d] }
  | _ => none }
def scanUnquotesRow : OpenClaim := { program := "ytabgnbbljjohdaardoor", sum := "f1d03a03762e1518986d4c102b475ac7bb6124b7782e5a4a5668dcb32e9de509", func := "sigil/sigillaw4.ScanUnquotes", spec := "scanUnquotes", inPlace := ["internal/bytealg.IndexByteString"], named := ["sigil/wire.rows"], apart := false, laid := [("sigil/wire.rows", laid_sigil_wire_rows)] }
def ScanUnquotesSaid : Prop := scanUnquotesRow.holds Tryd.pinned (OpenSpec.ofChange scanUnquotesSpec)

/-- ITS FALSE NEIGHBOUR: 'it returns false'. Refute it at one input. -/
def scanUnquotesWrong : ChangeSpec := { name := "scanUnquotes", fn := fun _ => fun
  | [d] => { results := [.lit (.bool false)], args := [d] }
  | _ => none }
def ScanUnquotesWrongFalsely : Prop := scanUnquotesRow.holds Tryd.pinned (OpenSpec.ofChange scanUnquotesWrong)

/-- 'sigillaw4.ScanTokens': WHATEVER THE INPUT: true; the input reads as it did. -/
def scanTokensSpec : ChangeSpec := { name := "scanTokens", fn := fun _ => fun
  | [d] => { results := [.lit (.bool true)], args := [d] }
  | _ => none }
def scanTokensRow : OpenClaim := { program := "ytabgnbbljjohdaardoor", sum := "f1d03a03762e1518986d4c102b475ac7bb6124b7782e5a4a5668dcb32e9de509", func := "sigil/sigillaw4.ScanTokens", spec := "scanTokens", inPlace := ["internal/bytealg.IndexByteString", "internal/bytealg.IndexString"], unfollowed := true, recurses := true, named := ["sigil/wire.rows", "internal/bytealg.MaxLen"], apart := false, laid := [("sigil/wire.rows", laid_sigil_wire_rows)] }
def ScanTokensSaid : Prop := scanTokensRow.holds Tryd.pinned (OpenSpec.ofChange scanTokensSpec)

/-- ITS FALSE NEIGHBOUR: 'it returns false'. Refute it at one input. -/
def scanTokensWrong : ChangeSpec := { name := "scanTokens", fn := fun _ => fun
  | [d] => { results := [.lit (.bool false)], args := [d] }
  | _ => none }
def ScanTokensWrongFalsely : Prop := scanTokensRow.holds Tryd.pinned (OpenSpec.ofChange scanTokensWrong)

/-- 'sigillaw4.ScanMany': WHATEVER THE INPUT: true; the input reads as it did. -/
def scanManySpec : ChangeSpec := { name := "scanMany", fn := fun _ => fun
  | [d1, d2, d3] => { results := [.lit (.bool true)], args := [d1, d2, d3] }
  | _ => none }
def scanManyRow : OpenClaim := { program := "ytabgnbbljjohdaardoor", sum := "f1d03a03762e1518986d4c102b475ac7bb6124b7782e5a4a5668dcb32e9de509", func := "sigil/sigillaw4.ScanMany", spec := "scanMany", inPlace := ["internal/bytealg.IndexByteString", "internal/bytealg.IndexString"], unfollowed := true, recurses := true, named := ["sigil/wire.rows", "internal/bytealg.MaxLen"], apart := false, laid := [("sigil/wire.rows", laid_sigil_wire_rows)] }
def ScanManySaid : Prop := scanManyRow.holds Tryd.pinned (OpenSpec.ofChange scanManySpec)

/-- ITS FALSE NEIGHBOUR: 'it returns false'. Refute it at one input. -/
def scanManyWrong : ChangeSpec := { name := "scanMany", fn := fun _ => fun
  | [d1, d2, d3] => { results := [.lit (.bool false)], args := [d1, d2, d3] }
  | _ => none }
def ScanManyWrongFalsely : Prop := scanManyRow.holds Tryd.pinned (OpenSpec.ofChange scanManyWrong)

/-- 'sigillaw4.ScanPlaces': WHATEVER THE INPUT: true; the input reads as it did. -/
def scanPlacesSpec : ChangeSpec := { name := "scanPlaces", fn := fun _ => fun
  | [d1, d2] => { results := [.lit (.bool true)], args := [d1, d2] }
  | _ => none }
def scanPlacesRow : OpenClaim := { program := "ytabgnbbljjohdaardoor", sum := "f1d03a03762e1518986d4c102b475ac7bb6124b7782e5a4a5668dcb32e9de509", func := "sigil/sigillaw4.ScanPlaces", spec := "scanPlaces", inPlace := ["internal/bytealg.IndexByteString", "internal/bytealg.IndexString"], unfollowed := true, recurses := true, named := ["sigil/wire.rows", "internal/bytealg.MaxLen"], apart := false, laid := [("sigil/wire.rows", laid_sigil_wire_rows)] }
def ScanPlacesSaid : Prop := scanPlacesRow.holds Tryd.pinned (OpenSpec.ofChange scanPlacesSpec)

/-- ITS FALSE NEIGHBOUR: 'it returns false'. Refute it at one input. -/
def scanPlacesWrong : ChangeSpec := { name := "scanPlaces", fn := fun _ => fun
  | [d1, d2] => { results := [.lit (.bool false)], args := [d1, d2] }
  | _ => none }
def ScanPlacesWrongFalsely : Prop := scanPlacesRow.holds Tryd.pinned (OpenSpec.ofChange scanPlacesWrong)

/-- 'sigillaw4.ScanBook': WHATEVER THE INPUT: true; the input reads as it did. -/
def scanBookSpec : ChangeSpec := { name := "scanBook", fn := fun _ => fun
  | [d] => { results := [.lit (.bool true)], args := [d] }
  | _ => none }
def scanBookRow : OpenClaim := { program := "ytabgnbbljjohdaardoor", sum := "f1d03a03762e1518986d4c102b475ac7bb6124b7782e5a4a5668dcb32e9de509", func := "sigil/sigillaw4.ScanBook", spec := "scanBook", inPlace := ["internal/bytealg.IndexByteString", "internal/bytealg.IndexString"], unfollowed := true, recurses := true, named := ["sigil/wire.rows", "internal/bytealg.MaxLen"], apart := false, laid := [("sigil/wire.rows", laid_sigil_wire_rows)] }
def ScanBookSaid : Prop := scanBookRow.holds Tryd.pinned (OpenSpec.ofChange scanBookSpec)

/-- ITS FALSE NEIGHBOUR: 'it returns false'. Refute it at one input. -/
def scanBookWrong : ChangeSpec := { name := "scanBook", fn := fun _ => fun
  | [d] => { results := [.lit (.bool false)], args := [d] }
  | _ => none }
def ScanBookWrongFalsely : Prop := scanBookRow.holds Tryd.pinned (OpenSpec.ofChange scanBookWrong)

/-- 'sigillaw12.JsonCompacts': WHATEVER THE INPUT: true; the input reads as it did. -/
def jsonCompactsSpec : ChangeSpec := { name := "jsonCompacts", fn := fun _ => fun
  | [d] => { results := [.lit (.bool true)], args := [d] }
  | _ => none }
def jsonCompactsRow : OpenClaim := { program := "ytabgnbbljjohdaardoor", sum := "f1d03a03762e1518986d4c102b475ac7bb6124b7782e5a4a5668dcb32e9de509", func := "sigil/sigillaw12.JsonCompacts", spec := "jsonCompacts", inPlace := ["internal/bytealg.IndexByteString", "internal/abi.NoEscape"], unfollowed := true, recurses := true, named := ["sigil/wire.rows"], apart := false, laid := [("sigil/wire.rows", laid_sigil_wire_rows)] }
def JsonCompactsSaid : Prop := jsonCompactsRow.holds Tryd.pinned (OpenSpec.ofChange jsonCompactsSpec)

/-- ITS FALSE NEIGHBOUR: 'it returns false'. Refute it at one input. -/
def jsonCompactsWrong : ChangeSpec := { name := "jsonCompacts", fn := fun _ => fun
  | [d] => { results := [.lit (.bool false)], args := [d] }
  | _ => none }
def JsonCompactsWrongFalsely : Prop := jsonCompactsRow.holds Tryd.pinned (OpenSpec.ofChange jsonCompactsWrong)

/-- 'sigillaw4.ScanBack': WHATEVER THE INPUT: true; the input reads as it did. -/
def scanBackSpec : ChangeSpec := { name := "scanBack", fn := fun _ => fun
  | [d] => { results := [.lit (.bool true)], args := [d] }
  | _ => none }
def scanBackRow : OpenClaim := { program := "ytabgnbbljjohdaardoor", sum := "f1d03a03762e1518986d4c102b475ac7bb6124b7782e5a4a5668dcb32e9de509", func := "sigil/sigillaw4.ScanBack", spec := "scanBack", inPlace := ["internal/abi.NoEscape", "internal/bytealg.IndexByteString", "internal/bytealg.IndexString"], unfollowed := true, recurses := true, named := ["sigil/wire.rows", "internal/bytealg.MaxLen"], apart := false, laid := [("sigil/wire.rows", laid_sigil_wire_rows)] }
def ScanBackSaid : Prop := scanBackRow.holds Tryd.pinned (OpenSpec.ofChange scanBackSpec)

/-- ITS FALSE NEIGHBOUR: 'it returns false'. Refute it at one input. -/
def scanBackWrong : ChangeSpec := { name := "scanBack", fn := fun _ => fun
  | [d] => { results := [.lit (.bool false)], args := [d] }
  | _ => none }
def ScanBackWrongFalsely : Prop := scanBackRow.holds Tryd.pinned (OpenSpec.ofChange scanBackWrong)

/- THE SECOND FORM. 'bulk': how many values and letters a reading holds, each counted each time it is reached (what is shared counts as often as it is met; a slice's spare places count too). A statement '..UptoSaid' is the law's where the arguments, and the package variables that the reading takes, are together of bulk at most 1048576: NARROWER than '..Said'. Prove '..Said' where nothing that the law and all that it calls make is longer than what came in: it says more and counts as full. Else prove '..UptoSaid'. A law counts once. -/
mutual
def uptoBulk {H : Type} : DataW H → Nat
  | .lit (.string bytes) => bytes.length + 1
  | .lit _ => 1
  | .nil => 1
  | .ptr d => uptoBulk d + 1
  | .slice elems spare => uptoBulkAll elems + uptoBulkAll spare + 1
  | .agg parts => uptoBulkAll parts + 1
  | .iface _ d => uptoBulk d + 1
  | .map entries => uptoBulkEntries entries + 1
  | .held _ => 1
def uptoBulkAll {H : Type} : List (DataW H) → Nat
  | [] => 0
  | d :: r => uptoBulk d + uptoBulkAll r
def uptoBulkEntries {H : Type} : List (Lit × DataW H) → Nat
  | [] => 0
  | x :: r => uptoBulkEntry x + uptoBulkEntries r
def uptoBulkEntry {H : Type} : Lit × DataW H → Nat
  | (.string bytes, d) => bytes.length + uptoBulk d + 1
  | (_, d) => uptoBulk d + 1
 end
def uptoSmall : (H : Type) → List (DataW H) → Bool := fun _ ds => decide (uptoBulkAll ds ≤ 1048576)
def OpenSpec.upto (s : _root_.Go.ChangeSpec) : _root_.Go.OpenSpec := { _root_.Go.OpenSpec.ofChange s with cond := some uptoSmall }

/-- 'sigillaw12.JsonQuotes', WHERE WHAT IT READS IS OF BULK AT MOST 1048576: true; the input reads as it did. -/
def jsonQuotesUptoRow : OpenClaim := { program := "ytabgnbbljjohdaardoor", sum := "f1d03a03762e1518986d4c102b475ac7bb6124b7782e5a4a5668dcb32e9de509", func := "sigil/sigillaw12.JsonQuotes", spec := "jsonQuotes", named := ["sigil/wire.rows"], apart := false, laid := [("sigil/wire.rows", laid_sigil_wire_rows)], narrowed := true }
def JsonQuotesUptoSaid : Prop := jsonQuotesUptoRow.holds Tryd.pinned (OpenSpec.upto jsonQuotesSpec)

/-- 'sigillaw4.ScanQuotes', WHERE WHAT IT READS IS OF BULK AT MOST 1048576: true; the input reads as it did. -/
def scanQuotesUptoRow : OpenClaim := { program := "ytabgnbbljjohdaardoor", sum := "f1d03a03762e1518986d4c102b475ac7bb6124b7782e5a4a5668dcb32e9de509", func := "sigil/sigillaw4.ScanQuotes", spec := "scanQuotes", inPlace := ["internal/abi.NoEscape"], named := ["sigil/wire.rows"], apart := false, laid := [("sigil/wire.rows", laid_sigil_wire_rows)], narrowed := true }
def ScanQuotesUptoSaid : Prop := scanQuotesUptoRow.holds Tryd.pinned (OpenSpec.upto scanQuotesSpec)

/-- 'sigillaw4.ScanUnquotes', WHERE WHAT IT READS IS OF BULK AT MOST 1048576: true; the input reads as it did. -/
def scanUnquotesUptoRow : OpenClaim := { program := "ytabgnbbljjohdaardoor", sum := "f1d03a03762e1518986d4c102b475ac7bb6124b7782e5a4a5668dcb32e9de509", func := "sigil/sigillaw4.ScanUnquotes", spec := "scanUnquotes", inPlace := ["internal/bytealg.IndexByteString"], named := ["sigil/wire.rows"], apart := false, laid := [("sigil/wire.rows", laid_sigil_wire_rows)], narrowed := true }
def ScanUnquotesUptoSaid : Prop := scanUnquotesUptoRow.holds Tryd.pinned (OpenSpec.upto scanUnquotesSpec)

/-- 'sigillaw4.ScanTokens', WHERE WHAT IT READS IS OF BULK AT MOST 1048576: true; the input reads as it did. -/
def scanTokensUptoRow : OpenClaim := { program := "ytabgnbbljjohdaardoor", sum := "f1d03a03762e1518986d4c102b475ac7bb6124b7782e5a4a5668dcb32e9de509", func := "sigil/sigillaw4.ScanTokens", spec := "scanTokens", inPlace := ["internal/bytealg.IndexByteString", "internal/bytealg.IndexString"], unfollowed := true, recurses := true, named := ["sigil/wire.rows", "internal/bytealg.MaxLen"], apart := false, laid := [("sigil/wire.rows", laid_sigil_wire_rows)], narrowed := true }
def ScanTokensUptoSaid : Prop := scanTokensUptoRow.holds Tryd.pinned (OpenSpec.upto scanTokensSpec)

/-- 'sigillaw4.ScanMany', WHERE WHAT IT READS IS OF BULK AT MOST 1048576: true; the input reads as it did. -/
def scanManyUptoRow : OpenClaim := { program := "ytabgnbbljjohdaardoor", sum := "f1d03a03762e1518986d4c102b475ac7bb6124b7782e5a4a5668dcb32e9de509", func := "sigil/sigillaw4.ScanMany", spec := "scanMany", inPlace := ["internal/bytealg.IndexByteString", "internal/bytealg.IndexString"], unfollowed := true, recurses := true, named := ["sigil/wire.rows", "internal/bytealg.MaxLen"], apart := false, laid := [("sigil/wire.rows", laid_sigil_wire_rows)], narrowed := true }
def ScanManyUptoSaid : Prop := scanManyUptoRow.holds Tryd.pinned (OpenSpec.upto scanManySpec)

/-- 'sigillaw4.ScanPlaces', WHERE WHAT IT READS IS OF BULK AT MOST 1048576: true; the input reads as it did. -/
def scanPlacesUptoRow : OpenClaim := { program := "ytabgnbbljjohdaardoor", sum := "f1d03a03762e1518986d4c102b475ac7bb6124b7782e5a4a5668dcb32e9de509", func := "sigil/sigillaw4.ScanPlaces", spec := "scanPlaces", inPlace := ["internal/bytealg.IndexByteString", "internal/bytealg.IndexString"], unfollowed := true, recurses := true, named := ["sigil/wire.rows", "internal/bytealg.MaxLen"], apart := false, laid := [("sigil/wire.rows", laid_sigil_wire_rows)], narrowed := true }
def ScanPlacesUptoSaid : Prop := scanPlacesUptoRow.holds Tryd.pinned (OpenSpec.upto scanPlacesSpec)

/-- 'sigillaw4.ScanBook', WHERE WHAT IT READS IS OF BULK AT MOST 1048576: true; the input reads as it did. -/
def scanBookUptoRow : OpenClaim := { program := "ytabgnbbljjohdaardoor", sum := "f1d03a03762e1518986d4c102b475ac7bb6124b7782e5a4a5668dcb32e9de509", func := "sigil/sigillaw4.ScanBook", spec := "scanBook", inPlace := ["internal/bytealg.IndexByteString", "internal/bytealg.IndexString"], unfollowed := true, recurses := true, named := ["sigil/wire.rows", "internal/bytealg.MaxLen"], apart := false, laid := [("sigil/wire.rows", laid_sigil_wire_rows)], narrowed := true }
def ScanBookUptoSaid : Prop := scanBookUptoRow.holds Tryd.pinned (OpenSpec.upto scanBookSpec)

/-- 'sigillaw12.JsonCompacts', WHERE WHAT IT READS IS OF BULK AT MOST 1048576: true; the input reads as it did. -/
def jsonCompactsUptoRow : OpenClaim := { program := "ytabgnbbljjohdaardoor", sum := "f1d03a03762e1518986d4c102b475ac7bb6124b7782e5a4a5668dcb32e9de509", func := "sigil/sigillaw12.JsonCompacts", spec := "jsonCompacts", inPlace := ["internal/bytealg.IndexByteString", "internal/abi.NoEscape"], unfollowed := true, recurses := true, named := ["sigil/wire.rows"], apart := false, laid := [("sigil/wire.rows", laid_sigil_wire_rows)], narrowed := true }
def JsonCompactsUptoSaid : Prop := jsonCompactsUptoRow.holds Tryd.pinned (OpenSpec.upto jsonCompactsSpec)

/-- 'sigillaw4.ScanBack', WHERE WHAT IT READS IS OF BULK AT MOST 1048576: true; the input reads as it did. -/
def scanBackUptoRow : OpenClaim := { program := "ytabgnbbljjohdaardoor", sum := "f1d03a03762e1518986d4c102b475ac7bb6124b7782e5a4a5668dcb32e9de509", func := "sigil/sigillaw4.ScanBack", spec := "scanBack", inPlace := ["internal/abi.NoEscape", "internal/bytealg.IndexByteString", "internal/bytealg.IndexString"], unfollowed := true, recurses := true, named := ["sigil/wire.rows", "internal/bytealg.MaxLen"], apart := false, laid := [("sigil/wire.rows", laid_sigil_wire_rows)], narrowed := true }
def ScanBackUptoSaid : Prop := scanBackUptoRow.holds Tryd.pinned (OpenSpec.upto scanBackSpec)

end Rows
end Go.Proofs.YtabgnbbljjohdaaRDoor

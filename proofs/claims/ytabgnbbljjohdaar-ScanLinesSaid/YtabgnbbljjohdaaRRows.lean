/-
  No cell of these rows narrows 'for every input' (looked for: loops, veiled, ifaces, maps, wideKeys, modest, calm, conditions, laid).
  DERIVED. THE GIVEN ROWS OF THIS SEAT. 6 by the template 'for every input the law returns true; each argument reads behind the call as it read before'; 0 by the template 'total and deterministic' (their statements: YtabgnbbljjohdaaRTotals.lean).
  GIVEN WITH THE SEED: the statements are not yours to turn. If you find one false, say at which input.
  Laid BY PROGRAM, IN A SANDBOX (cutbox-rows.mjs): the forced cells as the released guide's own fill.sh prints them over the translation 7d901315b5cab6dc… (all of the seat's roots in one cut). By AI agents, Wed Nov 11 2026. No macro, syntax, notation, axiom, sorry.
-/
import Derived.Test.YtabgnbbljjohdaaRChecked
import GoSem.Claim
import GoSem.ClaimJoined
import GoSem.ClaimMapViews
import Derived.JoinedTies
import Derived.KernelRfl
namespace Go.Proofs.YtabgnbbljjohdaaR
/- THE CELL 'sum', in the pinned program and in every row, IS THE sha256 OF THE DUMP (.gsa) THAT YtabgnbbljjohdaaRProg.lean LOADS. Nothing in Lean hashes anything: it is a label: what it is worth is what the hold of that sum in a sandbox is worth. -/
noncomputable def Try.pinned : Pinned := { name := "ytabgnbbljjohdaar", sum := "7d901315b5cab6dc1bcf503080190e87acda7ed29f71a459c97d046d3afdb9c0", checked := Try.checked }
namespace Rows
def none {H : Type} : Left H := { results := [], args := [] }

/-- 'sigillaw4.ScanNames': WHATEVER THE INPUT: true; the input reads as it did. -/
def scanNamesSpec : ChangeSpec := { name := "scanNames", fn := fun _ => fun
  | [] => { results := [.lit (.bool true)], args := [] }
  | _ => none }
def scanNamesRow : OpenClaim := { program := "ytabgnbbljjohdaar", sum := "7d901315b5cab6dc1bcf503080190e87acda7ed29f71a459c97d046d3afdb9c0", func := "sigil/sigillaw4.ScanNames", spec := "scanNames", apart := false }
def ScanNamesSaid : Prop := scanNamesRow.holds Try.pinned (OpenSpec.ofChange scanNamesSpec)

/-- ITS FALSE NEIGHBOUR: 'it returns false'. Refute it at one input. -/
def scanNamesWrong : ChangeSpec := { name := "scanNames", fn := fun _ => fun
  | [] => { results := [.lit (.bool false)], args := [] }
  | _ => none }
def ScanNamesWrongFalsely : Prop := scanNamesRow.holds Try.pinned (OpenSpec.ofChange scanNamesWrong)

/-- 'sigillaw5.ParseNames': WHATEVER THE INPUT: true; the input reads as it did. -/
def parseNamesSpec : ChangeSpec := { name := "parseNames", fn := fun _ => fun
  | [] => { results := [.lit (.bool true)], args := [] }
  | _ => none }
def parseNamesRow : OpenClaim := { program := "ytabgnbbljjohdaar", sum := "7d901315b5cab6dc1bcf503080190e87acda7ed29f71a459c97d046d3afdb9c0", func := "sigil/sigillaw5.ParseNames", spec := "parseNames", apart := false }
def ParseNamesSaid : Prop := parseNamesRow.holds Try.pinned (OpenSpec.ofChange parseNamesSpec)

/-- ITS FALSE NEIGHBOUR: 'it returns false'. Refute it at one input. -/
def parseNamesWrong : ChangeSpec := { name := "parseNames", fn := fun _ => fun
  | [] => { results := [.lit (.bool false)], args := [] }
  | _ => none }
def ParseNamesWrongFalsely : Prop := parseNamesRow.holds Try.pinned (OpenSpec.ofChange parseNamesWrong)

/-- 'sigillaw21.ViewNames': WHATEVER THE INPUT: true; the input reads as it did. -/
def viewNamesSpec : ChangeSpec := { name := "viewNames", fn := fun _ => fun
  | [] => { results := [.lit (.bool true)], args := [] }
  | _ => none }
def viewNamesRow : OpenClaim := { program := "ytabgnbbljjohdaar", sum := "7d901315b5cab6dc1bcf503080190e87acda7ed29f71a459c97d046d3afdb9c0", func := "sigil/sigillaw21.ViewNames", spec := "viewNames", apart := false }
def ViewNamesSaid : Prop := viewNamesRow.holds Try.pinned (OpenSpec.ofChange viewNamesSpec)

/-- ITS FALSE NEIGHBOUR: 'it returns false'. Refute it at one input. -/
def viewNamesWrong : ChangeSpec := { name := "viewNames", fn := fun _ => fun
  | [] => { results := [.lit (.bool false)], args := [] }
  | _ => none }
def ViewNamesWrongFalsely : Prop := viewNamesRow.holds Try.pinned (OpenSpec.ofChange viewNamesWrong)

/-- 'sigillaw4.ScanIdents': WHATEVER THE INPUT: true; the input reads as it did. -/
def scanIdentsSpec : ChangeSpec := { name := "scanIdents", fn := fun _ => fun
  | [d] => { results := [.lit (.bool true)], args := [d] }
  | _ => none }
def scanIdentsRow : OpenClaim := { program := "ytabgnbbljjohdaar", sum := "7d901315b5cab6dc1bcf503080190e87acda7ed29f71a459c97d046d3afdb9c0", func := "sigil/sigillaw4.ScanIdents", spec := "scanIdents", inPlace := ["internal/bytealg.IndexByteString"], apart := false }
def ScanIdentsSaid : Prop := scanIdentsRow.holds Try.pinned (OpenSpec.ofChange scanIdentsSpec)

/-- ITS FALSE NEIGHBOUR: 'it returns false'. Refute it at one input. -/
def scanIdentsWrong : ChangeSpec := { name := "scanIdents", fn := fun _ => fun
  | [d] => { results := [.lit (.bool false)], args := [d] }
  | _ => none }
def ScanIdentsWrongFalsely : Prop := scanIdentsRow.holds Try.pinned (OpenSpec.ofChange scanIdentsWrong)

/-- 'sigillaw4.ScanNumbers': WHATEVER THE INPUT: true; the input reads as it did. -/
def scanNumbersSpec : ChangeSpec := { name := "scanNumbers", fn := fun _ => fun
  | [d] => { results := [.lit (.bool true)], args := [d] }
  | _ => none }
def scanNumbersRow : OpenClaim := { program := "ytabgnbbljjohdaar", sum := "7d901315b5cab6dc1bcf503080190e87acda7ed29f71a459c97d046d3afdb9c0", func := "sigil/sigillaw4.ScanNumbers", spec := "scanNumbers", apart := false }
def ScanNumbersSaid : Prop := scanNumbersRow.holds Try.pinned (OpenSpec.ofChange scanNumbersSpec)

/-- ITS FALSE NEIGHBOUR: 'it returns false'. Refute it at one input. -/
def scanNumbersWrong : ChangeSpec := { name := "scanNumbers", fn := fun _ => fun
  | [d] => { results := [.lit (.bool false)], args := [d] }
  | _ => none }
def ScanNumbersWrongFalsely : Prop := scanNumbersRow.holds Try.pinned (OpenSpec.ofChange scanNumbersWrong)

/-- 'sigillaw4.ScanLines': WHATEVER THE INPUT: true; the input reads as it did. -/
def scanLinesSpec : ChangeSpec := { name := "scanLines", fn := fun _ => fun
  | [d1, d2] => { results := [.lit (.bool true)], args := [d1, d2] }
  | _ => none }
def scanLinesRow : OpenClaim := { program := "ytabgnbbljjohdaar", sum := "7d901315b5cab6dc1bcf503080190e87acda7ed29f71a459c97d046d3afdb9c0", func := "sigil/sigillaw4.ScanLines", spec := "scanLines", inPlace := ["internal/bytealg.CountString", "internal/bytealg.IndexByteString", "internal/bytealg.IndexString"], named := ["internal/bytealg.MaxLen"], apart := false }
def ScanLinesSaid : Prop := scanLinesRow.holds Try.pinned (OpenSpec.ofChange scanLinesSpec)

/-- ITS FALSE NEIGHBOUR: 'it returns false'. Refute it at one input. -/
def scanLinesWrong : ChangeSpec := { name := "scanLines", fn := fun _ => fun
  | [d1, d2] => { results := [.lit (.bool false)], args := [d1, d2] }
  | _ => none }
def ScanLinesWrongFalsely : Prop := scanLinesRow.holds Try.pinned (OpenSpec.ofChange scanLinesWrong)

/- THE SECOND FORM. 'bulk': how many values and letters a reading holds, each counted each time it is reached (what is shared counts as often as it is met; a slice's spare places count too). A statement '..UptoSaid' is the law's where the arguments, and the package variables that the reading takes, are together of bulk at most 1048576: NARROWER than '..Said'. Prove '..Said' where nothing that the law and all that it calls make is longer than what came in: it says more and counts as full. Else prove '..UptoSaid'. A law counts once. -/
mutual
def uptoBulk {H : Type} : DataW H → Nat
  | .lit (.string bytes) => bytes.length + 1
  | .lit _ => 1
  | .nil => 1
  | .ptr d => uptoBulk d + 1
  | .slice elems spare => uptoBulkAll elems + uptoBulkAll spare + 1
  | .agg parts => uptoBulkAll parts + 1
  | .iface _ d => uptoBulk d + 1
  | .map entries => uptoBulkEntries entries + 1
  | .held _ => 1
def uptoBulkAll {H : Type} : List (DataW H) → Nat
  | [] => 0
  | d :: r => uptoBulk d + uptoBulkAll r
def uptoBulkEntries {H : Type} : List (Lit × DataW H) → Nat
  | [] => 0
  | x :: r => uptoBulkEntry x + uptoBulkEntries r
def uptoBulkEntry {H : Type} : Lit × DataW H → Nat
  | (.string bytes, d) => bytes.length + uptoBulk d + 1
  | (_, d) => uptoBulk d + 1
 end
def uptoSmall : (H : Type) → List (DataW H) → Bool := fun _ ds => decide (uptoBulkAll ds ≤ 1048576)
def OpenSpec.upto (s : _root_.Go.ChangeSpec) : _root_.Go.OpenSpec := { _root_.Go.OpenSpec.ofChange s with cond := some uptoSmall }

/-- 'sigillaw4.ScanNames', WHERE WHAT IT READS IS OF BULK AT MOST 1048576: true; the input reads as it did. -/
def scanNamesUptoRow : OpenClaim := { program := "ytabgnbbljjohdaar", sum := "7d901315b5cab6dc1bcf503080190e87acda7ed29f71a459c97d046d3afdb9c0", func := "sigil/sigillaw4.ScanNames", spec := "scanNames", apart := false, narrowed := true }
def ScanNamesUptoSaid : Prop := scanNamesUptoRow.holds Try.pinned (OpenSpec.upto scanNamesSpec)

/-- 'sigillaw5.ParseNames', WHERE WHAT IT READS IS OF BULK AT MOST 1048576: true; the input reads as it did. -/
def parseNamesUptoRow : OpenClaim := { program := "ytabgnbbljjohdaar", sum := "7d901315b5cab6dc1bcf503080190e87acda7ed29f71a459c97d046d3afdb9c0", func := "sigil/sigillaw5.ParseNames", spec := "parseNames", apart := false, narrowed := true }
def ParseNamesUptoSaid : Prop := parseNamesUptoRow.holds Try.pinned (OpenSpec.upto parseNamesSpec)

/-- 'sigillaw21.ViewNames', WHERE WHAT IT READS IS OF BULK AT MOST 1048576: true; the input reads as it did. -/
def viewNamesUptoRow : OpenClaim := { program := "ytabgnbbljjohdaar", sum := "7d901315b5cab6dc1bcf503080190e87acda7ed29f71a459c97d046d3afdb9c0", func := "sigil/sigillaw21.ViewNames", spec := "viewNames", apart := false, narrowed := true }
def ViewNamesUptoSaid : Prop := viewNamesUptoRow.holds Try.pinned (OpenSpec.upto viewNamesSpec)

/-- 'sigillaw4.ScanIdents', WHERE WHAT IT READS IS OF BULK AT MOST 1048576: true; the input reads as it did. -/
def scanIdentsUptoRow : OpenClaim := { program := "ytabgnbbljjohdaar", sum := "7d901315b5cab6dc1bcf503080190e87acda7ed29f71a459c97d046d3afdb9c0", func := "sigil/sigillaw4.ScanIdents", spec := "scanIdents", inPlace := ["internal/bytealg.IndexByteString"], apart := false, narrowed := true }
def ScanIdentsUptoSaid : Prop := scanIdentsUptoRow.holds Try.pinned (OpenSpec.upto scanIdentsSpec)

/-- 'sigillaw4.ScanNumbers', WHERE WHAT IT READS IS OF BULK AT MOST 1048576: true; the input reads as it did. -/
def scanNumbersUptoRow : OpenClaim := { program := "ytabgnbbljjohdaar", sum := "7d901315b5cab6dc1bcf503080190e87acda7ed29f71a459c97d046d3afdb9c0", func := "sigil/sigillaw4.ScanNumbers", spec := "scanNumbers", apart := false, narrowed := true }
def ScanNumbersUptoSaid : Prop := scanNumbersUptoRow.holds Try.pinned (OpenSpec.upto scanNumbersSpec)

/-- 'sigillaw4.ScanLines', WHERE WHAT IT READS IS OF BULK AT MOST 1048576: true; the input reads as it did. -/
def scanLinesUptoRow : OpenClaim := { program := "ytabgnbbljjohdaar", sum := "7d901315b5cab6dc1bcf503080190e87acda7ed29f71a459c97d046d3afdb9c0", func := "sigil/sigillaw4.ScanLines", spec := "scanLines", inPlace := ["internal/bytealg.CountString", "internal/bytealg.IndexByteString", "internal/bytealg.IndexString"], named := ["internal/bytealg.MaxLen"], apart := false, narrowed := true }
def ScanLinesUptoSaid : Prop := scanLinesUptoRow.holds Try.pinned (OpenSpec.upto scanLinesSpec)

end Rows
end Go.Proofs.YtabgnbbljjohdaaR

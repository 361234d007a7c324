/-
  NARROWER THAN 'FOR EVERY INPUT', by the rows' own cells (each row's printed sentence says how): ParseWords: laid · ParseJoins: laid · ParseBlanks: laid.
  DERIVED. THE GIVEN ROWS OF THIS SEAT. 3 by the template 'for every input the law returns true; each argument reads behind the call as it read before'; 0 by the template 'total and deterministic' (their statements: YtgkodenllfpajaaDoorTotals.lean).
  GIVEN WITH THE SEED: the statements are not yours to turn. If you find one false, say at which input.
  Laid BY PROGRAM, IN A SANDBOX (cutbox-rows.mjs): the forced cells as the released guide's own fill.sh prints them over the translation 2f3ff5e886a1e90e… (all of the seat's roots in one cut). By AI agents, Wed Nov 11 2026. No macro, syntax, notation, axiom, sorry.
-/
import Derived.Test.YtgkodenllfpajaaDoorChecked
import GoSem.Claim
import GoSem.ClaimJoined
import GoSem.ClaimMapViews
import Derived.JoinedTies
import Derived.KernelRfl
namespace Go.Proofs.YtgkodenllfpajaaDoor
/- THE CELL 'sum', in the pinned program and in every row, IS THE sha256 OF THE DUMP (.gsa) THAT YtgkodenllfpajaaDoorProg.lean LOADS. Nothing in Lean hashes anything: it is a label: what it is worth is what the hold of that sum in a sandbox is worth. -/
noncomputable def Tryd.pinned : Pinned := { name := "ytgkodenllfpajaadoor", sum := "2f3ff5e886a1e90ef344fcae7f8b27767042bc8652056f74c8de5f9305f71093", checked := Tryd.checked }
namespace Rows
def none {H : Type} : Left H := { results := [], args := [] }

/- WHAT THE LISTED PACKAGE-LEVEL VARIABLES READ AS WHEN THE CALL BEGINS. Each datum BY PROGRAM (the guide's laid-datum.mjs) off the statement by which the dump's own 'gosem.cut.vars' lays the variable. In a bare row this is a premise. The card (YtgkodenllfpajaaDoorCards.lean) ties it to the program's text. -/
def laid_sigil_wire_rows {H : Type} : DataW H := .agg [.agg [.lit (.int .u8 0), .lit (.int .u8 127), .lit (.int .u8 0), .lit (.int .u8 0), .lit (.int .i64 0)], .agg [.lit (.int .u8 194), .lit (.int .u8 223), .lit (.int .u8 128), .lit (.int .u8 191), .lit (.int .i64 1)], .agg [.lit (.int .u8 224), .lit (.int .u8 224), .lit (.int .u8 160), .lit (.int .u8 191), .lit (.int .i64 2)], .agg [.lit (.int .u8 225), .lit (.int .u8 236), .lit (.int .u8 128), .lit (.int .u8 191), .lit (.int .i64 2)], .agg [.lit (.int .u8 237), .lit (.int .u8 237), .lit (.int .u8 128), .lit (.int .u8 159), .lit (.int .i64 2)], .agg [.lit (.int .u8 238), .lit (.int .u8 239), .lit (.int .u8 128), .lit (.int .u8 191), .lit (.int .i64 2)], .agg [.lit (.int .u8 240), .lit (.int .u8 240), .lit (.int .u8 144), .lit (.int .u8 191), .lit (.int .i64 3)], .agg [.lit (.int .u8 241), .lit (.int .u8 243), .lit (.int .u8 128), .lit (.int .u8 191), .lit (.int .i64 3)], .agg [.lit (.int .u8 244), .lit (.int .u8 244), .lit (.int .u8 128), .lit (.int .u8 143), .lit (.int .i64 3)]]

/-- 'sigillaw5.ParseWords': WHATEVER THE INPUT: true; the input reads as it did. -/
def parseWordsSpec : ChangeSpec := { name := "parseWords", fn := fun _ => fun
  | [d] => { results := [.lit (.bool true)], args := [d] }
  | _ => none }
def parseWordsRow : OpenClaim := { program := "ytgkodenllfpajaadoor", sum := "2f3ff5e886a1e90ef344fcae7f8b27767042bc8652056f74c8de5f9305f71093", func := "sigil/sigillaw5.ParseWords", spec := "parseWords", inPlace := ["internal/bytealg.IndexByteString", "internal/bytealg.IndexString"], unfollowed := true, recurses := true, named := ["sigil/wire.rows", "internal/bytealg.MaxLen"], apart := false, laid := [("sigil/wire.rows", laid_sigil_wire_rows)] }
def ParseWordsSaid : Prop := parseWordsRow.holds Tryd.pinned (OpenSpec.ofChange parseWordsSpec)

/-- ITS FALSE NEIGHBOUR: 'it returns false'. Refute it at one input. -/
def parseWordsWrong : ChangeSpec := { name := "parseWords", fn := fun _ => fun
  | [d] => { results := [.lit (.bool false)], args := [d] }
  | _ => none }
def ParseWordsWrongFalsely : Prop := parseWordsRow.holds Tryd.pinned (OpenSpec.ofChange parseWordsWrong)

/-- 'sigillaw5.ParseJoins': WHATEVER THE INPUT: true; the input reads as it did. -/
def parseJoinsSpec : ChangeSpec := { name := "parseJoins", fn := fun _ => fun
  | [d] => { results := [.lit (.bool true)], args := [d] }
  | _ => none }
def parseJoinsRow : OpenClaim := { program := "ytgkodenllfpajaadoor", sum := "2f3ff5e886a1e90ef344fcae7f8b27767042bc8652056f74c8de5f9305f71093", func := "sigil/sigillaw5.ParseJoins", spec := "parseJoins", inPlace := ["internal/bytealg.IndexByteString", "internal/bytealg.IndexString"], unfollowed := true, recurses := true, named := ["sigil/wire.rows", "internal/bytealg.MaxLen"], apart := false, laid := [("sigil/wire.rows", laid_sigil_wire_rows)] }
def ParseJoinsSaid : Prop := parseJoinsRow.holds Tryd.pinned (OpenSpec.ofChange parseJoinsSpec)

/-- ITS FALSE NEIGHBOUR: 'it returns false'. Refute it at one input. -/
def parseJoinsWrong : ChangeSpec := { name := "parseJoins", fn := fun _ => fun
  | [d] => { results := [.lit (.bool false)], args := [d] }
  | _ => none }
def ParseJoinsWrongFalsely : Prop := parseJoinsRow.holds Tryd.pinned (OpenSpec.ofChange parseJoinsWrong)

/-- 'sigillaw5.ParseBlanks': WHATEVER THE INPUT: true; the input reads as it did. -/
def parseBlanksSpec : ChangeSpec := { name := "parseBlanks", fn := fun _ => fun
  | [d] => { results := [.lit (.bool true)], args := [d] }
  | _ => none }
def parseBlanksRow : OpenClaim := { program := "ytgkodenllfpajaadoor", sum := "2f3ff5e886a1e90ef344fcae7f8b27767042bc8652056f74c8de5f9305f71093", func := "sigil/sigillaw5.ParseBlanks", spec := "parseBlanks", inPlace := ["internal/bytealg.IndexByteString", "internal/bytealg.IndexString"], unfollowed := true, recurses := true, named := ["sigil/wire.rows", "internal/bytealg.MaxLen"], apart := false, laid := [("sigil/wire.rows", laid_sigil_wire_rows)] }
def ParseBlanksSaid : Prop := parseBlanksRow.holds Tryd.pinned (OpenSpec.ofChange parseBlanksSpec)

/-- ITS FALSE NEIGHBOUR: 'it returns false'. Refute it at one input. -/
def parseBlanksWrong : ChangeSpec := { name := "parseBlanks", fn := fun _ => fun
  | [d] => { results := [.lit (.bool false)], args := [d] }
  | _ => none }
def ParseBlanksWrongFalsely : Prop := parseBlanksRow.holds Tryd.pinned (OpenSpec.ofChange parseBlanksWrong)

/- THE SECOND FORM. 'bulk': how many values and letters a reading holds, each counted each time it is reached (what is shared counts as often as it is met; a slice's spare places count too). A statement '..UptoSaid' is the law's where the arguments, and the package variables that the reading takes, are together of bulk at most 1048576: NARROWER than '..Said'. Prove '..Said' where nothing that the law and all that it calls make is longer than what came in: it says more and counts as full. Else prove '..UptoSaid'. A law counts once. -/
mutual
def uptoBulk {H : Type} : DataW H → Nat
  | .lit (.string bytes) => bytes.length + 1
  | .lit _ => 1
  | .nil => 1
  | .ptr d => uptoBulk d + 1
  | .slice elems spare => uptoBulkAll elems + uptoBulkAll spare + 1
  | .agg parts => uptoBulkAll parts + 1
  | .iface _ d => uptoBulk d + 1
  | .map entries => uptoBulkEntries entries + 1
  | .held _ => 1
def uptoBulkAll {H : Type} : List (DataW H) → Nat
  | [] => 0
  | d :: r => uptoBulk d + uptoBulkAll r
def uptoBulkEntries {H : Type} : List (Lit × DataW H) → Nat
  | [] => 0
  | x :: r => uptoBulkEntry x + uptoBulkEntries r
def uptoBulkEntry {H : Type} : Lit × DataW H → Nat
  | (.string bytes, d) => bytes.length + uptoBulk d + 1
  | (_, d) => uptoBulk d + 1
 end
def uptoSmall : (H : Type) → List (DataW H) → Bool := fun _ ds => decide (uptoBulkAll ds ≤ 1048576)
def OpenSpec.upto (s : _root_.Go.ChangeSpec) : _root_.Go.OpenSpec := { _root_.Go.OpenSpec.ofChange s with cond := some uptoSmall }

/-- 'sigillaw5.ParseWords', WHERE WHAT IT READS IS OF BULK AT MOST 1048576: true; the input reads as it did. -/
def parseWordsUptoRow : OpenClaim := { program := "ytgkodenllfpajaadoor", sum := "2f3ff5e886a1e90ef344fcae7f8b27767042bc8652056f74c8de5f9305f71093", func := "sigil/sigillaw5.ParseWords", spec := "parseWords", inPlace := ["internal/bytealg.IndexByteString", "internal/bytealg.IndexString"], unfollowed := true, recurses := true, named := ["sigil/wire.rows", "internal/bytealg.MaxLen"], apart := false, laid := [("sigil/wire.rows", laid_sigil_wire_rows)], narrowed := true }
def ParseWordsUptoSaid : Prop := parseWordsUptoRow.holds Tryd.pinned (OpenSpec.upto parseWordsSpec)

/-- 'sigillaw5.ParseJoins', WHERE WHAT IT READS IS OF BULK AT MOST 1048576: true; the input reads as it did. -/
def parseJoinsUptoRow : OpenClaim := { program := "ytgkodenllfpajaadoor", sum := "2f3ff5e886a1e90ef344fcae7f8b27767042bc8652056f74c8de5f9305f71093", func := "sigil/sigillaw5.ParseJoins", spec := "parseJoins", inPlace := ["internal/bytealg.IndexByteString", "internal/bytealg.IndexString"], unfollowed := true, recurses := true, named := ["sigil/wire.rows", "internal/bytealg.MaxLen"], apart := false, laid := [("sigil/wire.rows", laid_sigil_wire_rows)], narrowed := true }
def ParseJoinsUptoSaid : Prop := parseJoinsUptoRow.holds Tryd.pinned (OpenSpec.upto parseJoinsSpec)

/-- 'sigillaw5.ParseBlanks', WHERE WHAT IT READS IS OF BULK AT MOST 1048576: true; the input reads as it did. -/
def parseBlanksUptoRow : OpenClaim := { program := "ytgkodenllfpajaadoor", sum := "2f3ff5e886a1e90ef344fcae7f8b27767042bc8652056f74c8de5f9305f71093", func := "sigil/sigillaw5.ParseBlanks", spec := "parseBlanks", inPlace := ["internal/bytealg.IndexByteString", "internal/bytealg.IndexString"], unfollowed := true, recurses := true, named := ["sigil/wire.rows", "internal/bytealg.MaxLen"], apart := false, laid := [("sigil/wire.rows", laid_sigil_wire_rows)], narrowed := true }
def ParseBlanksUptoSaid : Prop := parseBlanksUptoRow.holds Tryd.pinned (OpenSpec.upto parseBlanksSpec)

end Rows
end Go.Proofs.YtgkodenllfpajaaDoor

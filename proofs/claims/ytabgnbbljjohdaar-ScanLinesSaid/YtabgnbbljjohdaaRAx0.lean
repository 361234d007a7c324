-- THIS SESSION'S TEXT: written by plugprint.py out of the translation, with contracts proved by hand.
import Derived.Test.YtabgnbbljjohdaaRProg
import Derived.Below
import Derived.Deep.Draws
import Derived.Deep.AppendLies
import Derived.Maps.AppendAt
import Derived.OwnWalk
import Derived.Laws.BytesArg
import Derived.Laws.MakeOwn
import Derived.Laws.OwnMore
import Derived.Deep.OwnRows
import Derived.Tactics
import Derived.Lib.ConvBytes
import Derived.Laws.Slices
import Derived.WalkKit
import Derived.KernelRfl
import Derived.RowKit3
import Derived.Deep.LoopGhost
import Derived.Deep.QuietTactic
import Derived.BigQuiet
import Derived.WideLaws
import Derived.Deep.DeepCutAuto
import Derived.Deep.CutBlock
import Derived.Deep.RegionHeld3
import Derived.Laws.Rows
import Derived.Lib.AppendStr
import Derived.ArgAppend
import Derived.Laws.IdiomCopy
import Derived.OrdersHeld
import Derived.Laws.BitsLemmas
import Derived.RowKit
import Derived.Test.YtabgnbbljjohdaaRShelf
import Derived.Test.YtabgnbbljjohdaaRWWords
import Derived.Test.YtabgnbbljjohdaaRWLast
import Derived.Test.YtabgnbbljjohdaaRWTab
import Derived.Test.YtabgnbbljjohdaaRWFour
import Derived.Test.YtabgnbbljjohdaaRWQPut
import Derived.Test.YtabgnbbljjohdaaRWApart
import Derived.Test.YtabgnbbljjohdaaRWArr
import Derived.Test.YtabgnbbljjohdaaRWZeros
import Derived.Test.YtabgnbbljjohdaaRWFoot
import Derived.Test.YtabgnbbljjohdaaRWKept
import Derived.Test.YtabgnbbljjohdaaRWShare
import Derived.Test.YtabgnbbljjohdaaRWN
import Derived.Test.YtabgnbbljjohdaaRWFootNe
import Derived.Test.YtabgnbbljjohdaaRWAt
import Derived.Test.YtabgnbbljjohdaaRWEqStruct
import Derived.Test.YtabgnbbljjohdaaRWRepsOne
import Derived.Test.YtabgnbbljjohdaaRWInv
import Derived.Test.YtabgnbbljjohdaaRWInvWords
import Derived.Test.YtabgnbbljjohdaaRWGuard
import Derived.Test.YtabgnbbljjohdaaRWNEv
import Derived.Test.YtabgnbbljjohdaaRWMore
namespace Go.Proofs.YtabgnbbljjohdaaR.A
open Go.RowKit Go.Proofs.YtabgnbbljjohdaaRW.PrintWords Go.Proofs.YtabgnbbljjohdaaRW.PrintLast Go.Proofs.YtabgnbbljjohdaaRW.PrintMore
attribute [local go_sem] max2_int min2_int max_two min_two max_three min_three max_four min_four   -- for this text's walks alone
set_option linter.unusedVariables false
set_option linter.unusedSimpArgs false



def errW : Option Int → Value
  | none => .nilIface
  | some c => .iface 0 (.int .i64 c)
theorem errW_none : errW none = .nilIface := rfl
theorem errW_some (c : Int) : errW (some c) = .iface 0 (.int .i64 c) := rfl

-- the values' own types


end Go.Proofs.YtabgnbbljjohdaaR.A

/- Of every input (it has none): the closed statement ScanNames answers true. No condition. -/
import Derived.Test.YtabgnbbljjohdaaRPScanNamesx1
namespace Go.Proofs.YtabgnbbljjohdaaR.Pure
open Go.RowKit Go.Proofs.YtabgnbbljjohdaaR.PScanNames Go.Proofs.YtabgnbbljjohdaaRW.PrintWords Go.Proofs.YtabgnbbljjohdaaRW.PrintLast

/-- YOURS: sigillaw4_ScanNames.f  = some true
What it reaches (each with k first where it has rounds; `.mono`: more rounds tell the same; `.l0`, ..: its loops, with `.mono_l`): sigillaw4_ScanNames.f -/
theorem ScanNames : sigillaw4_ScanNames.Pure := by
  rfl

end Go.Proofs.YtabgnbbljjohdaaR.Pure

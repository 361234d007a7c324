/- Of every input (it has none): the closed statement ViewNames answers true. No condition. -/
import Derived.Test.YtabgnbbljjohdaaRPViewNamesx1
namespace Go.Proofs.YtabgnbbljjohdaaR.Pure
open Go.RowKit Go.Proofs.YtabgnbbljjohdaaR.PViewNames Go.Proofs.YtabgnbbljjohdaaRW.PrintWords Go.Proofs.YtabgnbbljjohdaaRW.PrintLast

/-- YOURS: sigillaw21_ViewNames.f  = some true
What it reaches (each with k first where it has rounds; `.mono`: more rounds tell the same; `.l0`, ..: its loops, with `.mono_l`): sigillaw21_ViewNames.f -/
theorem ViewNames : sigillaw21_ViewNames.Pure := by
  rfl

end Go.Proofs.YtabgnbbljjohdaaR.Pure

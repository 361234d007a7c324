/- Of every input (it has none): the closed statement ParseNames answers true. No condition. -/
import Derived.Test.YtabgnbbljjohdaaRPParseNamesx1
namespace Go.Proofs.YtabgnbbljjohdaaR.Pure
open Go.RowKit Go.Proofs.YtabgnbbljjohdaaR.PParseNames Go.Proofs.YtabgnbbljjohdaaRW.PrintWords Go.Proofs.YtabgnbbljjohdaaRW.PrintLast

/-- YOURS: sigillaw5_ParseNames.f  = some true
What it reaches (each with k first where it has rounds; `.mono`: more rounds tell the same; `.l0`, ..: its loops, with `.mono_l`): sigillaw5_ParseNames.f -/
theorem ParseNames : sigillaw5_ParseNames.Pure := by
  rfl

end Go.Proofs.YtabgnbbljjohdaaR.Pure

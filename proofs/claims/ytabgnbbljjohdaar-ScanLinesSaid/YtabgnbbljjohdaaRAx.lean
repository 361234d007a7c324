-- THIS SESSION'S TEXT: written by plugprint.py out of the translation, with contracts proved by hand.
import Derived.Test.YtabgnbbljjohdaaRAx0
import Derived.Test.YtabgnbbljjohdaaRAx1
import Derived.Test.YtabgnbbljjohdaaRAx2
import Derived.Test.YtabgnbbljjohdaaRAx3
import Derived.Test.YtabgnbbljjohdaaRAx4
import Derived.Test.YtabgnbbljjohdaaRAx5
namespace Go.Proofs.YtabgnbbljjohdaaR.A
open Go.RowKit Go.Proofs.YtabgnbbljjohdaaRW.PrintWords Go.Proofs.YtabgnbbljjohdaaRW.PrintLast Go.Proofs.YtabgnbbljjohdaaRW.PrintMore
attribute [local go_sem] max2_int min2_int max_two min_two max_three min_three max_four min_four   -- for this text's walks alone
set_option linter.unusedVariables false
set_option linter.unusedSimpArgs false

end Go.Proofs.YtabgnbbljjohdaaR.A

-- THIS SESSION'S TEXT: written by plugprint.py out of the translation, with contracts proved by hand.
import Derived.Test.YtabgnbbljjohdaaRDoorAx0
import Derived.Test.YtabgnbbljjohdaaRDoorAx1
import Derived.Test.YtabgnbbljjohdaaRDoorAx2
import Derived.Test.YtabgnbbljjohdaaRDoorAx3
import Derived.Test.YtabgnbbljjohdaaRDoorAx4
import Derived.Test.YtabgnbbljjohdaaRDoorAx5
import Derived.Test.YtabgnbbljjohdaaRDoorAx6
import Derived.Test.YtabgnbbljjohdaaRDoorAx7
import Derived.Test.YtabgnbbljjohdaaRDoorAx8
import Derived.Test.YtabgnbbljjohdaaRDoorAx9
import Derived.Test.YtabgnbbljjohdaaRDoorAx10
import Derived.Test.YtabgnbbljjohdaaRDoorAx11
import Derived.Test.YtabgnbbljjohdaaRDoorAx12
import Derived.Test.YtabgnbbljjohdaaRDoorAx13
import Derived.Test.YtabgnbbljjohdaaRDoorAx14
import Derived.Test.YtabgnbbljjohdaaRDoorAx15
import Derived.Test.YtabgnbbljjohdaaRDoorAx16
import Derived.Test.YtabgnbbljjohdaaRDoorAx17
import Derived.Test.YtabgnbbljjohdaaRDoorAx18
import Derived.Test.YtabgnbbljjohdaaRDoorAx19
namespace Go.Proofs.YtabgnbbljjohdaaRDoor.A
open Go.RowKit Go.Proofs.YtabgnbbljjohdaaRDoorW.PrintWords Go.Proofs.YtabgnbbljjohdaaRDoorW.PrintLast Go.Proofs.YtabgnbbljjohdaaRDoorW.PrintMore
attribute [local go_sem] max2_int min2_int max_two min_two max_three min_three max_four min_four   -- for this text's walks alone
set_option linter.unusedVariables false
set_option linter.unusedSimpArgs false

end Go.Proofs.YtabgnbbljjohdaaRDoor.A

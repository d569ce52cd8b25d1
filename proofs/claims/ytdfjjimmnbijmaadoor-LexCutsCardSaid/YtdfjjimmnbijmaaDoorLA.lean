-- Written for this claim by myprint.py over the kit's print (functions of this session supplied)
import Derived.Test.YtdfjjimmnbijmaaDoorLA0
import Derived.Test.YtdfjjimmnbijmaaDoorLA1
import Derived.Test.YtdfjjimmnbijmaaDoorLA2
import Derived.Test.YtdfjjimmnbijmaaDoorLA3
import Derived.Test.YtdfjjimmnbijmaaDoorLA4
import Derived.Test.YtdfjjimmnbijmaaDoorLA5
import Derived.Test.YtdfjjimmnbijmaaDoorLA6
import Derived.Test.YtdfjjimmnbijmaaDoorLA7
namespace Go.Proofs.YtdfjjimmnbijmaaDoor.LA
open Go.RowKit Go.Proofs.YtdfjjimmnbijmaaDoorW.PrintWords Go.Proofs.YtdfjjimmnbijmaaDoorW.PrintLast Go.Proofs.YtdfjjimmnbijmaaDoorW.PrintMore Go.Proofs.YtdfjjimmnbijmaaDoor.Base
attribute [local go_sem] max2_int min2_int max_two min_two max_three min_three max_four min_four   -- for this text's walks alone
set_option linter.unusedVariables false
set_option linter.unusedSimpArgs false

end Go.Proofs.YtdfjjimmnbijmaaDoor.LA

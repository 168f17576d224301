-- printed by a program for this claim (see wip/tools)
import Derived.Test.YthlmgamdnclmhaaRx0
import Derived.Test.YthlmgamdnclmhaaRx1
import Derived.Test.YthlmgamdnclmhaaRx2
import Derived.Test.YthlmgamdnclmhaaRx3
import Derived.Test.YthlmgamdnclmhaaRx4
import Derived.Test.YthlmgamdnclmhaaRx5
import Derived.Test.YthlmgamdnclmhaaRx6
import Derived.Test.YthlmgamdnclmhaaRx7
import Derived.Test.YthlmgamdnclmhaaRx9
namespace Go.Proofs.Ythlmgamdnclmhaa.R
open Go.RowKit Go.Proofs.YthlmgamdnclmhaaW.PrintWords Go.Proofs.YthlmgamdnclmhaaW.PrintLast Go.Proofs.YthlmgamdnclmhaaW.PrintMore
attribute [local go_sem] max2_int min2_int max_two min_two max_three min_three max_four min_four   -- for this text's walks alone
set_option linter.unusedVariables false
set_option linter.unusedSimpArgs false

end Go.Proofs.Ythlmgamdnclmhaa.R

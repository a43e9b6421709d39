-- Written by a program of this session's; its pattern is the kit's print.
import Derived.Test.YtehhpcijhclkfaaYRangesJoins0
import Derived.Test.YtehhpcijhclkfaaYRangesJoins1
import Derived.Test.YtehhpcijhclkfaaYRangesJoins2
import Derived.Test.YtehhpcijhclkfaaYRangesJoins3
import Derived.Test.YtehhpcijhclkfaaYRangesJoins4
import Derived.Test.YtehhpcijhclkfaaYRangesJoins5
import Derived.Test.YtehhpcijhclkfaaYRangesJoins6
import Derived.Test.YtehhpcijhclkfaaYRangesJoins7
import Derived.Test.YtehhpcijhclkfaaYRangesJoins8
namespace Go.Proofs.Ytehhpcijhclkfaa.PRangesJoins
open Go.RowKit Go.Proofs.YtehhpcijhclkfaaW.PrintWords Go.Proofs.YtehhpcijhclkfaaW.PrintLast Go.Proofs.YtehhpcijhclkfaaW.PrintMore
attribute [local go_sem] max2_int min2_int max_two min_two max_three min_three max_four min_four   -- for this text's walks alone
set_option linter.unusedVariables false
set_option linter.unusedSimpArgs false

end Go.Proofs.Ytehhpcijhclkfaa.PRangesJoins

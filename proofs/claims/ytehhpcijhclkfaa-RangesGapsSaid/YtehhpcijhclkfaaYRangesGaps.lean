-- Written by a program of this session's; its pattern is the kit's print.
import Derived.Test.YtehhpcijhclkfaaYRangesGaps0
import Derived.Test.YtehhpcijhclkfaaYRangesGaps1
import Derived.Test.YtehhpcijhclkfaaYRangesGaps2
import Derived.Test.YtehhpcijhclkfaaYRangesGaps3
import Derived.Test.YtehhpcijhclkfaaYRangesGaps4
import Derived.Test.YtehhpcijhclkfaaYRangesGaps5
import Derived.Test.YtehhpcijhclkfaaYRangesGaps6
import Derived.Test.YtehhpcijhclkfaaYRangesGaps7
import Derived.Test.YtehhpcijhclkfaaYRangesGaps8
namespace Go.Proofs.Ytehhpcijhclkfaa.PRangesGaps
open Go.RowKit Go.Proofs.YtehhpcijhclkfaaW.PrintWords Go.Proofs.YtehhpcijhclkfaaW.PrintLast Go.Proofs.YtehhpcijhclkfaaW.PrintMore
attribute [local go_sem] max2_int min2_int max_two min_two max_three min_three max_four min_four   -- for this text's walks alone
set_option linter.unusedVariables false
set_option linter.unusedSimpArgs false

end Go.Proofs.Ytehhpcijhclkfaa.PRangesGaps

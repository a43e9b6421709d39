-- Written by a program of this session's; its pattern is the kit's print.
import Derived.Test.YtehhpcijhclkfaaYRangesBack0
import Derived.Test.YtehhpcijhclkfaaYRangesBack1
import Derived.Test.YtehhpcijhclkfaaYRangesBack2
import Derived.Test.YtehhpcijhclkfaaYRangesBack3
import Derived.Test.YtehhpcijhclkfaaYRangesBack4
import Derived.Test.YtehhpcijhclkfaaYRangesBack5
import Derived.Test.YtehhpcijhclkfaaYRangesBack6
import Derived.Test.YtehhpcijhclkfaaYRangesBack7
import Derived.Test.YtehhpcijhclkfaaYRangesBack8
import Derived.Test.YtehhpcijhclkfaaYRangesBack9
namespace Go.Proofs.Ytehhpcijhclkfaa.PRangesBack
open Go.RowKit Go.Proofs.YtehhpcijhclkfaaW.PrintWords Go.Proofs.YtehhpcijhclkfaaW.PrintLast Go.Proofs.YtehhpcijhclkfaaW.PrintMore
attribute [local go_sem] max2_int min2_int max_two min_two max_three min_three max_four min_four   -- for this text's walks alone
set_option linter.unusedVariables false
set_option linter.unusedSimpArgs false

end Go.Proofs.Ytehhpcijhclkfaa.PRangesBack

-- Written by a program of this session's; its pattern is the kit's print.
import Derived.Test.YtehhpcijhclkfaaYRangesChecks0
import Derived.Test.YtehhpcijhclkfaaYRangesChecks1
import Derived.Test.YtehhpcijhclkfaaYRangesChecks2
import Derived.Test.YtehhpcijhclkfaaYRangesChecks3
import Derived.Test.YtehhpcijhclkfaaYRangesChecks4
import Derived.Test.YtehhpcijhclkfaaYRangesChecks5
import Derived.Test.YtehhpcijhclkfaaYRangesChecks6
import Derived.Test.YtehhpcijhclkfaaYRangesChecks7
import Derived.Test.YtehhpcijhclkfaaYRangesChecks8
import Derived.Test.YtehhpcijhclkfaaYRangesChecks9
namespace Go.Proofs.Ytehhpcijhclkfaa.PRangesChecks
open Go.RowKit Go.Proofs.YtehhpcijhclkfaaW.PrintWords Go.Proofs.YtehhpcijhclkfaaW.PrintLast Go.Proofs.YtehhpcijhclkfaaW.PrintMore
attribute [local go_sem] max2_int min2_int max_two min_two max_three min_three max_four min_four   -- for this text's walks alone
set_option linter.unusedVariables false
set_option linter.unusedSimpArgs false

end Go.Proofs.Ytehhpcijhclkfaa.PRangesChecks

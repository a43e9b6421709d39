-- Written by a program of this session's; its pattern is the kit's print.
import Derived.Test.YtmbealldhndeoaaYLedgersChecks0
import Derived.Test.YtmbealldhndeoaaYLedgersChecks1
import Derived.Test.YtmbealldhndeoaaYLedgersChecks2
import Derived.Test.YtmbealldhndeoaaYLedgersChecks3
import Derived.Test.YtmbealldhndeoaaYLedgersChecks4
import Derived.Test.YtmbealldhndeoaaYLedgersChecks5
import Derived.Test.YtmbealldhndeoaaYLedgersChecks6
import Derived.Test.YtmbealldhndeoaaYLedgersChecks7
import Derived.Test.YtmbealldhndeoaaYLedgersChecks8
namespace Go.Proofs.Ytmbealldhndeoaa.PLedgersChecks
open Go.RowKit Go.Proofs.YtmbealldhndeoaaW.PrintWords Go.Proofs.YtmbealldhndeoaaW.PrintLast Go.Proofs.YtmbealldhndeoaaW.PrintMore
attribute [local go_sem] max2_int min2_int max_two min_two max_three min_three max_four min_four   -- for this text's walks alone
set_option linter.unusedVariables false
set_option linter.unusedSimpArgs false

end Go.Proofs.Ytmbealldhndeoaa.PLedgersChecks

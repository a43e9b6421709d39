-- Written by a program of this session's; its pattern is the kit's print.
import Derived.Test.YtmbealldhndeoaaYLedgersGrow0
import Derived.Test.YtmbealldhndeoaaYLedgersGrow1
import Derived.Test.YtmbealldhndeoaaYLedgersGrow2
import Derived.Test.YtmbealldhndeoaaYLedgersGrow3
import Derived.Test.YtmbealldhndeoaaYLedgersGrow4
import Derived.Test.YtmbealldhndeoaaYLedgersGrow5
import Derived.Test.YtmbealldhndeoaaYLedgersGrow6
import Derived.Test.YtmbealldhndeoaaYLedgersGrow7
namespace Go.Proofs.Ytmbealldhndeoaa.PLedgersGrow
open Go.RowKit Go.Proofs.YtmbealldhndeoaaW.PrintWords Go.Proofs.YtmbealldhndeoaaW.PrintLast Go.Proofs.YtmbealldhndeoaaW.PrintMore
attribute [local go_sem] max2_int min2_int max_two min_two max_three min_three max_four min_four   -- for this text's walks alone
set_option linter.unusedVariables false
set_option linter.unusedSimpArgs false

end Go.Proofs.Ytmbealldhndeoaa.PLedgersGrow

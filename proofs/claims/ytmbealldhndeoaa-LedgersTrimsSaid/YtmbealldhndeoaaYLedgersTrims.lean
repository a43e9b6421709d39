-- Written by a program of this session's; its pattern is the kit's print.
import Derived.Test.YtmbealldhndeoaaYLedgersTrims0
import Derived.Test.YtmbealldhndeoaaYLedgersTrims1
import Derived.Test.YtmbealldhndeoaaYLedgersTrims2
import Derived.Test.YtmbealldhndeoaaYLedgersTrims3
import Derived.Test.YtmbealldhndeoaaYLedgersTrims4
import Derived.Test.YtmbealldhndeoaaYLedgersTrims5
import Derived.Test.YtmbealldhndeoaaYLedgersTrims6
import Derived.Test.YtmbealldhndeoaaYLedgersTrims7
import Derived.Test.YtmbealldhndeoaaYLedgersTrims8
namespace Go.Proofs.Ytmbealldhndeoaa.PLedgersTrims
open Go.RowKit Go.Proofs.YtmbealldhndeoaaW.PrintWords Go.Proofs.YtmbealldhndeoaaW.PrintLast Go.Proofs.YtmbealldhndeoaaW.PrintMore
attribute [local go_sem] max2_int min2_int max_two min_two max_three min_three max_four min_four   -- for this text's walks alone
set_option linter.unusedVariables false
set_option linter.unusedSimpArgs false

end Go.Proofs.Ytmbealldhndeoaa.PLedgersTrims

-- Written by a program of this session's; its pattern is the kit's print.
import Derived.Test.YtmbealldhndeoaaYLedgersPlaces0
import Derived.Test.YtmbealldhndeoaaYLedgersPlaces1
import Derived.Test.YtmbealldhndeoaaYLedgersPlaces2
import Derived.Test.YtmbealldhndeoaaYLedgersPlaces3
import Derived.Test.YtmbealldhndeoaaYLedgersPlaces4
import Derived.Test.YtmbealldhndeoaaYLedgersPlaces5
import Derived.Test.YtmbealldhndeoaaYLedgersPlaces6
import Derived.Test.YtmbealldhndeoaaYLedgersPlaces7
import Derived.Test.YtmbealldhndeoaaYLedgersPlaces8
import Derived.Test.YtmbealldhndeoaaYLedgersPlaces9
import Derived.Test.YtmbealldhndeoaaYLedgersPlaces10
import Derived.Test.YtmbealldhndeoaaYLedgersPlaces11
import Derived.Test.YtmbealldhndeoaaYLedgersPlaces12
namespace Go.Proofs.Ytmbealldhndeoaa.PLedgersPlaces
open Go.RowKit Go.Proofs.YtmbealldhndeoaaW.PrintWords Go.Proofs.YtmbealldhndeoaaW.PrintLast Go.Proofs.YtmbealldhndeoaaW.PrintMore
attribute [local go_sem] max2_int min2_int max_two min_two max_three min_three max_four min_four   -- for this text's walks alone
set_option linter.unusedVariables false
set_option linter.unusedSimpArgs false

end Go.Proofs.Ytmbealldhndeoaa.PLedgersPlaces

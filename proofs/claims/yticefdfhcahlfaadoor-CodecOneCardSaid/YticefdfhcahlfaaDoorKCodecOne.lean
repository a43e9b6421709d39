/- Whatever bytes are a topic: the one way to say it. -/
import Derived.Test.YticefdfhcahlfaaDoorCtx121
import Derived.Test.YticefdfhcahlfaaDoorCt121
import Derived.Test.YticefdfhcahlfaaDoorOkCodecOne
namespace Go.Proofs.YticefdfhcahlfaaDoor.AM
open Go.RowKit
set_option maxRecDepth 100000
set_option linter.unusedVariables false
set_option linter.unusedSimpArgs false

open OkCodecOne in
theorem lawCodecOne (a0 : AVal) (o0 : ok28 [a0]) : ACall Tryd.prog 8 [a0] σ0 fun v _ => v = .bool true := by
  obtain ⟨l, hb, _⟩ := bytes_arg (fun _ h => h) o0
  exact one_c hb
end Go.Proofs.YticefdfhcahlfaaDoor.AM

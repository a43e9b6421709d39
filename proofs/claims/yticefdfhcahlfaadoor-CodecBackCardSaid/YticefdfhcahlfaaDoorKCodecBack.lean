/- A right topic's bytes are read as the topic. -/
import Derived.Test.YticefdfhcahlfaaDoorCtxx121
import Derived.Test.YticefdfhcahlfaaDoorOkCodecBack
namespace Go.Proofs.YticefdfhcahlfaaDoor.AM
open Go.RowKit
set_option maxRecDepth 100000
set_option linter.unusedVariables false
set_option linter.unusedSimpArgs false

open OkCodecBack in
theorem lawCodecBack (us0 : List AVal) (o0 : ok27 us0) (a1 : AVal) (o1 : ok28 [a1]) (a2 : AVal) (o2 : ok4 [a2]) : ACall Tryd.prog 7 [.agg us0, a1, a2] σ0 fun v _ => v = .bool true := by
  obtain ⟨ep, last, lv, sv, nv, t, s, cs, T, rfl, h1, h2, h3, h4, h5, h6, h7, h8⟩ := topicArg o0
  obtain ⟨bl, hb, hl⟩ := bytes_arg (fun _ h => h) o1
  obtain ⟨op, e⟩ := o2
  obtain rfl := (List.cons.inj e).1
  exact back_c h1 h2 h3 h4 h5 h6 h7 h8 hb (by omega) op
end Go.Proofs.YticefdfhcahlfaaDoor.AM

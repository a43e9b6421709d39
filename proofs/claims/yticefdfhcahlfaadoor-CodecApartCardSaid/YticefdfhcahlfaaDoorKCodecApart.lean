/- Unlike notes have unlike bytes. -/
import Derived.Test.YticefdfhcahlfaaDoorCtxx121
import Derived.Test.YticefdfhcahlfaaDoorOkCodecApart
namespace Go.Proofs.YticefdfhcahlfaaDoor.AM
open Go.RowKit
set_option maxRecDepth 100000
set_option linter.unusedVariables false
set_option linter.unusedSimpArgs false

open OkCodecApart in
theorem lawCodecApart (us0 : List AVal) (o0 : ok48 us0) (us1 : List AVal) (o1 : ok48 us1) (a2 : AVal) (o2 : ok4 [a2]) : ACall Tryd.prog 5 [.agg us0, .agg us1, a2] σ0 fun v _ => v = .bool true := by
  obtain ⟨x, dv, iv, rfl, ok, he, hd, hi⟩ := noteArg o0
  obtain ⟨y, ev, jv, rfl, oky, hey, hdy, hiy⟩ := noteArg o1
  obtain ⟨q, e⟩ := o2
  obtain rfl := (List.cons.inj e).1
  exact apart_c ok he hd hi oky hey hdy hiy
end Go.Proofs.YticefdfhcahlfaaDoor.AM

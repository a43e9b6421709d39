/- Cut anywhere, or with a byte more: refused. -/
import Derived.Test.YticefdfhcahlfaaDoorCtxxxx121
import Derived.Test.YticefdfhcahlfaaDoorOkCodecCut
namespace Go.Proofs.YticefdfhcahlfaaDoor.AM
open Go.RowKit
set_option maxRecDepth 100000
set_option linter.unusedVariables false
set_option linter.unusedSimpArgs false

open OkCodecCut in
theorem lawCodecCut (us0 : List AVal) (o0 : ok27 us0) (a1 : AVal) (o1 : ok28 [a1]) (a2 : AVal) (o2 : ok4 [a2]) (us3 : List AVal) (o3 : ok48 us3) (a4 : AVal) (o4 : ok3 [a4]) : ACall Tryd.prog 9 [.agg us0, a1, a2, .agg us3, a4] σ0 fun v _ => v = .bool true := by
  obtain ⟨ep, last, lv, sv, nv, t, s, cs, T, rfl, h1, h2, h3, h4, h5, h6, h7, h8⟩ := topicArg o0
  obtain ⟨bl, hb, hl⟩ := bytes_arg (fun _ h => h) o1
  obtain ⟨op, e⟩ := o2
  obtain rfl := (List.cons.inj e).1
  obtain ⟨x, dv, iv, rfl, ok, he, hd, hi⟩ := noteArg o3
  obtain ⟨n, e, w⟩ := o4
  obtain rfl := (List.cons.inj e).1
  have hw := wf_i64 w
  exact cut_c h1 h2 h3 h4 h5 h6 h7 h8 hb (by omega) op ok he hd hi n (by omega)
end Go.Proofs.YticefdfhcahlfaaDoor.AM

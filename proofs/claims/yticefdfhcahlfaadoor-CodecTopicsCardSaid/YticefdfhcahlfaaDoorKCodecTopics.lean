/- Any topic; a right one, with something turned. -/
import Derived.Test.YticefdfhcahlfaaDoorCtxx121
import Derived.Test.YticefdfhcahlfaaDoorOkCodecTopics
namespace Go.Proofs.YticefdfhcahlfaaDoor.AM
open Go.RowKit
set_option maxRecDepth 100000
set_option linter.unusedVariables false
set_option linter.unusedSimpArgs false

open OkCodecTopics in
theorem lawCodecTopics (us0 : List AVal) (o0 : ok27 us0) (a1 : AVal) (o1 : ok28 [a1]) (a2 : AVal) (o2 : ok4 [a2]) (a3 : AVal) (o3 : ok5 [a3]) (a4 : AVal) (o4 : ok22 [a4]) : ACall Tryd.prog 3 [.agg us0, a1, a2, a3, a4] σ0 fun v _ => v = .bool true := by
  obtain ⟨ep, last, lv, sv, nv, t, s, cs, T, rfl, h1, h2, h3, h4, h5, h6, h7, h8⟩ := topicArg o0
  obtain ⟨bl, hb, hl⟩ := bytes_arg (fun _ h => h) o1
  obtain ⟨op, e⟩ := o2
  obtain rfl := (List.cons.inj e).1
  obtain ⟨w, e, ww⟩ := o3
  obtain rfl := (List.cons.inj e).1
  obtain ⟨w, rfl, hw⟩ := wf_u8 ww
  obtain ⟨n, e, wn⟩ := o4
  obtain rfl := (List.cons.inj e).1
  obtain ⟨n, rfl, hn⟩ := wf_u64 wn
  exact topics_c h1 h2 h3 h4 h5 h6 h7 h8 hb (by omega) op w n hw hn
end Go.Proofs.YticefdfhcahlfaaDoor.AM

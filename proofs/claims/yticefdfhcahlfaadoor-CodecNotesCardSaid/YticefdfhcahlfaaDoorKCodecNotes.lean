/- Any note; any bytes, or a note's with bytes turned. -/
import Derived.Test.YticefdfhcahlfaaDoorCtxx121
import Derived.Test.YticefdfhcahlfaaDoorOkCodecNotes
namespace Go.Proofs.YticefdfhcahlfaaDoor.AM
open Go.RowKit
set_option maxRecDepth 100000
set_option linter.unusedVariables false
set_option linter.unusedSimpArgs false

open OkCodecNotes in
theorem lawCodecNotes (us0 : List AVal) (o0 : ok48 us0) (a1 : AVal) (o1 : ok28 [a1]) (a2 : AVal) (o2 : ok49 [a2]) (a3 : AVal) (o3 : ok28 [a3]) (a4 : AVal) (o4 : ok5 [a4]) : ACall Tryd.prog 4 [.agg us0, a1, a2, a3, a4] σ0 fun v _ => v = .bool true := by
  obtain ⟨x, dv, iv, rfl, ok, he, hd, hi⟩ := noteArg o0
  obtain ⟨bl, hb, _⟩ := bytes_arg (fun _ h => h) o1
  obtain ⟨xs, hx⟩ := intsArg o2
  obtain ⟨tl, ht, _⟩ := bytes_arg (fun _ h => h) o3
  obtain ⟨n, e, w⟩ := o4
  obtain rfl := (List.cons.inj e).1
  obtain ⟨n, rfl, hn⟩ := wf_u8 w
  exact notes_c ok he hd hi hb hx ht hn
end Go.Proofs.YticefdfhcahlfaaDoor.AM

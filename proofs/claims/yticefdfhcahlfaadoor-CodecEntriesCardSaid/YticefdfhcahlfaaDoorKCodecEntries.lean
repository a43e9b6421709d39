/- Any entry; any bytes. -/
import Derived.Test.YticefdfhcahlfaaDoorCtx121
import Derived.Test.YticefdfhcahlfaaDoorAm3
import Derived.Test.YticefdfhcahlfaaDoorOkCodecEntries
namespace Go.Proofs.YticefdfhcahlfaaDoor.AM
open Go.RowKit
set_option maxRecDepth 100000
set_option linter.unusedVariables false
set_option linter.unusedSimpArgs false

open OkCodecEntries in
theorem lawCodecEntries (us0 : List AVal) (o0 : ok71 us0) (a1 : AVal) (o1 : ok28 [a1]) : ACall Tryd.prog 6 [.agg us0, a1] σ0 fun v _ => v = .bool true := by
  obtain ⟨bl, hb, hbl⟩ := bytes_arg (fun _ h => h) o1
  obtain ⟨_, _, rfl, ⟨n, rfl, hn⟩, _, _, rfl, ⟨s, rfl, ws⟩, _, b, rfl, ⟨k, rfl, hk⟩, od⟩ := o0
  obtain ⟨s, rfl, hs⟩ := wf_u64 ws
  have hd : ∃ d, b = [d] := by
    rcases od with h | ⟨xs, h, _⟩ <;> exact ⟨_, h⟩
  obtain ⟨d, rfl⟩ := hd
  obtain ⟨dl, hd, hdl⟩ := bytes_arg (fun _ h => h) od
  exact entries_c hs hd hb (by omega) (by omega) (by omega) (by omega)
end Go.Proofs.YticefdfhcahlfaaDoor.AM

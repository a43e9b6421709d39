/- Both play alike. -/
import Derived.Test.YtiikaajopgjliaaCtx18
import Derived.Test.YtiikaajopgjliaaCt18
import Derived.Test.YtiikaajopgjliaaOkDispatchPlays
namespace Go.Proofs.Ytiikaajopgjliaa.AM
open Go.RowKit
set_option maxRecDepth 100000
set_option linter.unusedVariables false
set_option linter.unusedSimpArgs false

open OkDispatchPlays in
theorem lawDispatchPlays (a0 : AVal) (o0 : ok28 [a0]) (a1 : AVal) (o1 : ok38 [a1]) : ACall Try.prog 4 [a0, a1] σ0 fun v _ => v = .bool true := by
  obtain ⟨n, h0, w0⟩ := o0
  cases h0
  obtain ⟨k, rfl, hk⟩ := wf_u8 w0
  rcases o1 with h | ⟨xs, h, hx, hl, _⟩
  · cases h
    exact plays_c k hk (l := []) (.inl ⟨rfl, rfl⟩) (fun a h => by cases h) (by simp)
  · cases h
    obtain ⟨l, h1, h2, h3⟩ := acts_arg (fun x h => act_of (fun _ h => h) (fun _ h => h) (fun _ h => h) (fun _ h => h) (fun _ h => h) (fun _ h => h) x h) xs hx
    rw [h1, ← h2]
    exact plays_c k hk (.inr ⟨_, rfl⟩) h3 (by omega)
end Go.Proofs.Ytiikaajopgjliaa.AM

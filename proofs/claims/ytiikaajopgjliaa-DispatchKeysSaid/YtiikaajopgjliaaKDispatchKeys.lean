/- A key is with one consumer. -/
import Derived.Test.YtiikaajopgjliaaCtx18
import Derived.Test.YtiikaajopgjliaaCt18
import Derived.Test.YtiikaajopgjliaaOkDispatchKeys
namespace Go.Proofs.Ytiikaajopgjliaa.AM
open Go.RowKit
set_option maxRecDepth 100000
set_option linter.unusedVariables false
set_option linter.unusedSimpArgs false

open OkDispatchKeys in
theorem lawDispatchKeys (a0 : AVal) (o0 : ok38 [a0]) : ACall Try.prog 6 [a0] σ0 fun v _ => v = .bool true := by
  rcases o0 with h | ⟨xs, h, hx, hl, _⟩
  · cases h
    exact keys_c (l := []) (.inl ⟨rfl, rfl⟩) (fun a h => by cases h) (by simp)
  · cases h
    obtain ⟨l, h1, h2, h3⟩ := acts_arg (fun x h => act_of (fun _ h => h) (fun _ h => h) (fun _ h => h) (fun _ h => h) (fun _ h => h) (fun _ h => h) x h) xs hx
    rw [h1, ← h2]
    exact keys_c (.inr ⟨_, rfl⟩) h3 (by omega)
end Go.Proofs.Ytiikaajopgjliaa.AM

/- A table written and taken. -/
import Derived.Test.YtieieknhhfallaaDoorCtx115
import Derived.Test.YtieieknhhfallaaDoorAm3
import Derived.Test.YtieieknhhfallaaDoorOkDedupBack
namespace Go.Proofs.YtieieknhhfallaaDoor.AM
open Go.RowKit
set_option maxRecDepth 100000
set_option linter.unusedVariables false
set_option linter.unusedSimpArgs false

open OkDedupBack in
theorem lawDedupBack (a0 : AVal) (o0 : ok23 [a0]) : ACall Tryd.prog 5 [a0] σ0 fun v _ => v = .bool true := by
  rcases o0 with h | ⟨xs, h, hx, _, hl⟩
  · cases h
    exact back_c (L := []) (.inl ⟨rfl, rfl⟩) (fun a h => by cases h) (fun a h => by cases h) (by simp)
  · cases h
    obtain ⟨l, h1, h2, h3⟩ := dacts_arg (fun x h => dact_of (fun _ h => h) (fun _ h => h) (fun _ h => h) (fun _ h => h) (fun _ h => h) x h) xs hx
    rw [h1, ← h2]
    exact back_c (.inr ⟨_, rfl⟩) (fun a ha => (h3 a ha).1) (fun a ha => by have := (h3 a ha).2; omega) (by omega)
end Go.Proofs.YtieieknhhfallaaDoor.AM

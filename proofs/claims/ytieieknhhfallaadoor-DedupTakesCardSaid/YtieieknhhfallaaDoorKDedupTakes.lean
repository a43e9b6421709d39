/- Any bytes taken, and a table's with a bit turned. -/
import Derived.Test.YtieieknhhfallaaDoorCtx115
import Derived.Test.YtieieknhhfallaaDoorAm3
import Derived.Test.YtieieknhhfallaaDoorOkDedupTakes
namespace Go.Proofs.YtieieknhhfallaaDoor.AM
open Go.RowKit
set_option maxRecDepth 100000
set_option linter.unusedVariables false
set_option linter.unusedSimpArgs false

open OkDedupTakes in
theorem lawDedupTakes (a0 : AVal) (o0 : ok22 [a0]) (a1 : AVal) (o1 : ok23 [a1]) (a2 : AVal) (o2 : ok3 [a2]) (a3 : AVal) (o3 : ok5 [a3]) : ACall Tryd.prog 3 [a0, a1, a2, a3] σ0 fun v _ => v = .bool true := by
  obtain ⟨bl, hb, hbl⟩ := bytes_arg (fun _ h => h) o0
  obtain ⟨z, hz, _⟩ := o2
  cases hz
  obtain ⟨y, hy, wy⟩ := o3
  cases hy
  obtain ⟨y, rfl, hy⟩ := wf_u8 wy
  rcases o1 with h | ⟨xs, h, hx, _, hl⟩
  · cases h
    exact takes_c (L := []) hb (.inl ⟨rfl, rfl⟩) (fun a h => by cases h) (fun a h => by cases h) (by simp) (by omega) hy
  · cases h
    obtain ⟨l, h1, h2, h3⟩ := dacts_arg (fun x h => dact_of (fun _ h => h) (fun _ h => h) (fun _ h => h) (fun _ h => h) (fun _ h => h) x h) xs hx
    rw [h1, ← h2]
    exact takes_c hb (.inr ⟨_, rfl⟩) (fun a ha => (h3 a ha).1) (fun a ha => by have := (h3 a ha).2; omega) (by omega) (by omega) hy
end Go.Proofs.YtieieknhhfallaaDoor.AM

/- A sender's numbers begin rising. -/
import Derived.Test.YtieieknhhfallaaDoorCtx115
import Derived.Test.YtieieknhhfallaaDoorAm3
import Derived.Test.YtieieknhhfallaaDoorOkDedupOnce
namespace Go.Proofs.YtieieknhhfallaaDoor.AM
open Go.RowKit
set_option maxRecDepth 100000
set_option linter.unusedVariables false
set_option linter.unusedSimpArgs false

theorem rws16 (l : List Nat) : rws rw16 l = l.map fun (o : Nat) => AVal.int .u16 (o : Int) := by
  induction l with
  | nil => rfl
  | cons x l ih => rw [rws_cons, ih]; rfl
open OkDedupOnce in
theorem lawDedupOnce (a0 : AVal) (o0 : ok49 [a0]) (a1 : AVal) (o1 : ok22 [a1]) : ACall Tryd.prog 4 [a0, a1] σ0 fun v _ => v = .bool true := by
  obtain ⟨d, hd, _⟩ := bytes_arg (fun _ h => h) o1
  rcases o0 with h | ⟨xs, h, hx, _, hl⟩
  · cases h
    exact once_c (L := []) (.inl ⟨rfl, rfl⟩) hd (fun a h => by cases h) (by simp)
  · cases h
    obtain ⟨os, h1, h2, h3⟩ := nats_arg (fun _ h => h) xs hx
    rw [h1, ← h2, ← rws16]
    exact once_c (.inr ⟨_, rfl⟩) hd h3 (by omega)
end Go.Proofs.YtieieknhhfallaaDoor.AM

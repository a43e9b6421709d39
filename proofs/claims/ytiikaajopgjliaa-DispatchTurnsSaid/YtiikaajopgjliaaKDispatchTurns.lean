/- Handed out by turns. -/
import Derived.Test.YtiikaajopgjliaaCt18
import Derived.Test.YtiikaajopgjliaaOkDispatchTurns
namespace Go.Proofs.Ytiikaajopgjliaa.AM
open Go.RowKit
set_option maxRecDepth 100000
set_option linter.unusedVariables false
set_option linter.unusedSimpArgs false

theorem u64s_arg {ok : List AVal → Prop} (hok : ∀ x, ok x → ∃ n, x = [.int .u64 n] ∧ (Lit.int .u64 n).wf = true) : ∀ xs : List (List AVal), (∀ x ∈ xs, x.length = 1 ∧ ok x) → ∃ os : List Nat, xs.flatten = uc os ∧ os.length = xs.length
  | [], _ => ⟨[], rfl, rfl⟩
  | x :: xs, h => by
    obtain ⟨os, h1, h2⟩ := u64s_arg hok xs (fun y hy => h y (by simp [hy]))
    obtain ⟨n, rfl, hw⟩ := hok x (h x (by simp)).2
    obtain ⟨k, rfl, hk⟩ := wf_u64 hw
    exact ⟨k :: os, by simp [h1, uc], by simp [h2]⟩

open OkDispatchTurns in
theorem lawDispatchTurns (a0 : AVal) (o0 : ok22 [a0]) (a1 : AVal) (o1 : ok5 [a1]) : ACall Try.prog 3 [a0, a1] σ0 fun v _ => v = .bool true := by
  obtain ⟨n, h1, w1⟩ := o1
  cases h1
  obtain ⟨n, rfl, hn⟩ := wf_u8 w1
  rcases o0 with h | ⟨xs, h, hx, hl, _⟩
  · cases h
    exact turns_c (l := []) (.inl ⟨rfl, rfl⟩) (by simp) n hn
  · cases h
    obtain ⟨os, h1, h2⟩ := u64s_arg (fun x hx => hx) xs hx
    rw [h1, ← h2]
    exact turns_c (.inr ⟨_, rfl⟩) (by omega) n hn
end Go.Proofs.Ytiikaajopgjliaa.AM

/- What a quorum confirmed is there, when enough places are heard. -/
import Derived.Test.YtopagbaokokjdaaCtx12
import Derived.Test.YtopagbaokokjdaaAm3
import Derived.Test.YtopagbaokokjdaaOkMenderKeeps
namespace Go.Proofs.Ytopagbaokokjdaa.AM
open Go.RowKit
set_option maxRecDepth 100000
set_option linter.unusedVariables false
set_option linter.unusedSimpArgs false

open OkMenderKeeps in
theorem actArg {x : List AVal} (h : ok68 x) : ∃ a : ActV, x = actC a ∧ a.kind < 256 ∧ a.place < 256 ∧ a.which < 256 := by
  obtain ⟨_, _, rfl, ⟨n1, rfl, w1⟩, _, _, rfl, ⟨n2, rfl, w2⟩, _, _, rfl, ⟨n3, rfl, w3⟩, b, rfl⟩ := h
  obtain ⟨k1, rfl, h1⟩ := wf_u8 w1
  obtain ⟨k2, rfl, h2⟩ := wf_u8 w2
  obtain ⟨k3, rfl, h3⟩ := wf_u8 w3
  exact ⟨⟨k1, k2, k3, b⟩, rfl, h1, h2, h3⟩
open OkMenderKeeps in
theorem actsFlat : ∀ {xs : List (List AVal)}, (∀ x ∈ xs, x.length = 4 ∧ ok68 x) → ∃ l : List ActV, xs.flatten = actsC l ∧ l.length = xs.length ∧ ∀ a ∈ l, a.kind < 256 ∧ a.place < 256 ∧ a.which < 256
  | [], _ => ⟨[], rfl, rfl, fun a ha => by cases ha⟩
  | x :: xs, h => by
    obtain ⟨a, e, h1⟩ := actArg (h x (by simp)).2
    obtain ⟨l, e1, e2, h2⟩ := actsFlat (xs := xs) fun y hy => h y (by simp [hy])
    exact ⟨a :: l, by rw [List.flatten_cons, e1, e]; rfl, by simp [e2], fun z hz => by
      rcases List.mem_cons.1 hz with rfl | hz
      · exact h1
      · exact h2 z hz⟩
open OkMenderKeeps in
theorem actsArg {v : AVal} (h : ok59 [v]) : ∃ l : List ActV, ActsOf v l ∧ l.length ≤ 9223372036854775806 ∧ ∀ a ∈ l, a.kind < 256 ∧ a.place < 256 ∧ a.which < 256 := by
  rcases h with h | ⟨xs, h, hx, _, hb⟩
  · cases h
    exact ⟨[], .inl ⟨rfl, rfl⟩, by simp, fun a ha => by cases ha⟩
  · cases h
    obtain ⟨l, e1, e2, h2⟩ := actsFlat hx
    exact ⟨l, .inr ⟨false, by rw [e1, e2]⟩, by omega, h2⟩
open OkMenderKeeps in
theorem lawMenderKeeps (a0 : AVal) (o0 : ok24 [a0]) (a1 : AVal) (o1 : ok59 [a1]) : ACall Try.prog 7 [a0, a1] σ0 fun v _ => v = .bool true := by
  obtain ⟨n, h0, w0⟩ := o0
  cases h0
  obtain ⟨n, rfl, hn⟩ := wf_u16 w0
  obtain ⟨l, h1, h2, h3⟩ := actsArg o1
  exact keeps_c n hn h1 h2 h3
end Go.Proofs.Ytopagbaokokjdaa.AM

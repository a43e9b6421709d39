/- Both play alike. -/
import Derived.Test.YtieieknhhfallaaCt15
import Derived.Test.YtieieknhhfallaaAm3
import Derived.Test.YtieieknhhfallaaOkDedupPlays
namespace Go.Proofs.Ytieieknhhfallaa.AM
open Go.RowKit
set_option maxRecDepth 100000
set_option linter.unusedVariables false
set_option linter.unusedSimpArgs false

theorem dacts_arg {ok : List AVal → Prop} (hok : ∀ x, ok x → ∃ a : DAct, a.ok ∧ x = drow a) : ∀ xs : List (List AVal), (∀ x ∈ xs, x.length = 6 ∧ ok x) → ∃ l : List DAct, xs.flatten = rws rwA l ∧ l.length = xs.length ∧ ∀ a ∈ l, a.ok
  | [], _ => ⟨[], rfl, rfl, fun a h => by cases h⟩
  | x :: xs, h => by
    obtain ⟨l, h1, h2, h3⟩ := dacts_arg hok xs (fun y hy => h y (by simp [hy]))
    obtain ⟨a, ha, rfl⟩ := hok x (h x (by simp)).2
    refine ⟨a :: l, by simp [h1, rws, rwA], by simp [h2], fun b hb => ?_⟩
    rcases List.mem_cons.1 hb with rfl | hb
    · exact ha
    · exact h3 b hb
theorem dact_of {ok5 ok9 ok29 ok32 ok4 : List AVal → Prop} (h5 : ∀ x, ok5 x → ∃ n, x = [.int .u8 n] ∧ (Lit.int .u8 n).wf = true) (h9 : ∀ x, ok9 x → ∃ s : ByteArray, x = [.str s] ∧ s.size ≤ 140737488351232) (h29 : ∀ x, ok29 x → ∃ n, x = [.int .u64 n] ∧ (Lit.int .u64 n).wf = true)
    (h32 : ∀ x, ok32 x → ∃ a b, x = a ++ b ∧ ok29 a ∧ ok29 b) (h4 : ∀ x, ok4 x → ∃ b, x = [.bool b]) (x : List AVal)
    (h : ∃ a b, x = a ++ b ∧ ok5 a ∧ ∃ c d, b = c ++ d ∧ ok9 c ∧ ∃ e f, d = e ++ f ∧ ok29 e ∧ ∃ g i, f = g ++ i ∧ ok32 g ∧ ok4 i) : ∃ a : DAct, a.ok ∧ x = drow a := by
  obtain ⟨a, b, rfl, ha, c, d, rfl, hc, e, f, rfl, he, g, i, rfl, hg, hi⟩ := h
  obtain ⟨n, rfl, wn⟩ := h5 _ ha
  obtain ⟨n, rfl, hn⟩ := wf_u8 wn
  obtain ⟨s, rfl, _⟩ := h9 _ hc
  obtain ⟨m, rfl, wm⟩ := h29 _ he
  obtain ⟨m, rfl, hm⟩ := wf_u64 wm
  obtain ⟨p, q, rfl, hp, hq⟩ := h32 _ hg
  obtain ⟨p, rfl, wp⟩ := h29 _ hp
  obtain ⟨p, rfl, hpl⟩ := wf_u64 wp
  obtain ⟨q, rfl, wq⟩ := h29 _ hq
  obtain ⟨q, rfl, hql⟩ := wf_u64 wq
  obtain ⟨t, rfl⟩ := h4 _ hi
  exact ⟨⟨n, s, m, p, q, t⟩, ⟨hn, hm, hpl, hql⟩, rfl⟩
open OkDedupPlays in
theorem lawDedupPlays (a0 : AVal) (o0 : ok47 [a0]) : ACall Try.prog 5 [a0] σ0 fun v _ => v = .bool true := by
  rcases o0 with h | ⟨xs, h, hx, _, hl⟩
  · cases h
    exact plays_c (L := []) (.inl ⟨rfl, rfl⟩) (fun a h => by cases h) (by simp)
  · cases h
    obtain ⟨l, h1, h2, h3⟩ := dacts_arg (fun x h => dact_of (fun _ h => h) (fun _ h => h) (fun _ h => h) (fun _ h => h) (fun _ h => h) x h) xs hx
    rw [h1, ← h2]
    exact plays_c (.inr ⟨_, rfl⟩) h3 (by omega)
end Go.Proofs.Ytieieknhhfallaa.AM

/- QuorumOthers: if places cover, the others confirm nothing; if they do not, the others confirm some entry. It holds for all arguments, without further conditions. -/
import Derived.Test.YtcjndpmknachhaaQQuorumOthers
namespace Go.Proofs.Ytcjndpmknachhaa.Pure
open Go.RowKit Go.IntWalk Go.Proofs.Ytcjndpmknachhaa.PQuorumOthers Go.Proofs.YtcjndpmknachhaaW.PrintWords Go.Proofs.YtcjndpmknachhaaW.PrintLast

namespace Q10
theorem cnt_compl {P W A e : Int} (hq : Okq P W A) {x y : List Bool} (h : ∀ p : Int, 0 ≤ p → p < P → rdOf false y p = !rdOf false x p) : cnt P W e x + cnt P W e y = W := by
  have h1 := compl_count (rdOf false x) (rdOf false y) (setL P W e) (fun p hp => h p (setL_mem (by obtain ⟨_, _, _, _⟩ := hq; omega) hp).1 (setL_mem (by obtain ⟨_, _, _, _⟩ := hq; omega) hp).2)
  rw [setL_length] at h1
  obtain ⟨_, _, _, _⟩ := hq
  unfold cnt
  omega

theorem others_l1 {P W A : Int} (hq : Okq P W A) {y : List Bool} (d : Nat) : ∀ (k : Nat) (i : Nat), (i : Int) + d = P → d + 20 ≤ k → (∃ j : Nat, i ≤ j ∧ (j : Int) < P ∧ A ≤ cnt P W j y) →
    mailcoachlaw10_QuorumOthers.l1 k y P i P W A = some true := by
  have hP := hq.2.2.2
  induction d with
  | zero => intro k i h hk ⟨j, h1, h2, _⟩; omega
  | succ d ih =>
    intro k i h hk ⟨j, h1, h2, h3⟩
    obtain ⟨k, rfl⟩ : ∃ m, k = m + 1 := ⟨k - 1, by omega⟩
    simp only [mailcoachlaw10_QuorumOthers.l1]
    rw [if_pos (by omega), u64_in _ (by omega), enough_f hq (by omega) y k (by omega), wrap64_in ((i : Int) + 1) (by omega), show ((i : Int) + 1) = ((i + 1 : Nat) : Int) by omega]
    simp only [Option.bind_some]
    by_cases h4 : A ≤ cnt P W i y
    · rw [if_pos (by simp [h4])]
    · rw [if_neg (by simp [h4])]
      have : i ≠ j := fun e => h4 (e ▸ h3)
      exact ih k (i + 1) (by omega) (by omega) ⟨j, by omega, h2, h3⟩

theorem others_end {P W A e : Int} (hq : Okq P W A) (he : 0 ≤ e ∧ e ≤ 18446744073709551615) {x y : List Bool} (h : ∀ p : Int, 0 ≤ p → p < P → rdOf false y p = !rdOf false x p) (k : Nat) (hk : 30 ≤ k) :
    ((quorum_Covered.f k P W A x).bind fun t147 => (if t147 = true then ((quorum_Enough.f k P W A e y).bind fun t148 => (some (!t148))) else (mailcoachlaw10_QuorumOthers.l1 k y P 0 P W A))) = some true := by
  rw [cov_f hq x k (by omega), enough_f hq he y k (by omega)]
  simp only [Option.bind_some]
  have hP := hq.2.2.2
  by_cases h1 : cov P W A x = true
  · rw [if_pos h1]
    have h3 := cov_at (e := e) (by obtain ⟨_, _, _, _⟩ := hq; omega) h1
    have h4 := cnt_compl (e := e) hq h
    simp only [Option.some.injEq, Bool.not_eq_true', decide_eq_false_iff_not]
    omega
  · rw [if_neg h1]
    have h2 : ∃ j : Nat, (j : Int) < P ∧ cnt P W j x ≤ W - A := by
      have h3 : ¬ ∀ j ∈ List.range P.toNat, decide (W - A < cnt P W (j : Int) x) = true := fun h4 => h1 (by unfold cov; rw [List.all_eq_true]; exact h4)
      simp only [List.mem_range, decide_eq_true_eq, Classical.not_forall] at h3
      obtain ⟨j, hj, h5⟩ := h3
      exact ⟨j, by omega, by omega⟩
    obtain ⟨j, hj, h5⟩ := h2
    have h6 := cnt_compl (e := j) hq h
    exact others_l1 hq P.toNat k 0 (by obtain ⟨_, _, _, _⟩ := hq; omega) (by obtain ⟨_, _, _, _⟩ := hq; omega) ⟨j, by omega, hj, by omega⟩

theorem others_l0 {P W A e : Int} (hq : Okq P W A) (he : 0 ≤ e ∧ e ≤ 18446744073709551615) {b : Int} (hb : 0 ≤ b ∧ b ≤ 255) (d : Nat) : ∀ (k : Nat) (i : Nat) (x y : List Bool), (i : Int) + d = P → d + 40 ≤ k → (x.length : Int) = P → (y.length : Int) = P → (∀ p : Int, 0 ≤ p → p < i → rdOf false y p = !rdOf false x p) →
    mailcoachlaw10_QuorumOthers.l0 k b e x y P i P W A = some true := by
  have hP := hq.2.2.2
  induction d with
  | zero =>
    intro k i x y h hk hx hy hz
    obtain ⟨k, rfl⟩ : ∃ m, k = m + 1 := ⟨k - 1, by omega⟩
    simp only [mailcoachlaw10_QuorumOthers.l0]; rw [if_neg (by omega)]
    exact others_end hq he (fun p h1 h2 => hz p h1 (by omega)) k (by omega)
  | succ d ih =>
    intro k i x y h hk hx hy hz
    obtain ⟨k, rfl⟩ : ∃ m, k = m + 1 := ⟨k - 1, by omega⟩
    simp only [mailcoachlaw10_QuorumOthers.l0]
    rw [if_pos (by omega), if_pos (by omega), if_pos (by omega), if_pos (by omega)]
    rw [show (((i : Int)).toNat) = i by omega, wrap64_in ((i : Int) + 1) (by omega), show ((i : Int) + 1) = ((i + 1 : Nat) : Int) by omega]
    have hbit := bit_of b i hb
    refine ih k (i + 1) _ _ (by omega) (by omega) (by simpa using hx) (by simpa using hy) ?_
    intro p h1 h2
    rw [rdOf_set, rdOf_set]
    by_cases e1 : p.toNat = i
    · rw [if_pos ⟨e1, by omega⟩, if_pos ⟨e1, by omega⟩]
      rcases hbit with hbit | hbit <;> rw [hbit] <;> rfl
    · rw [if_neg (by omega), if_neg (by omega)]
      exact hz p h1 (by omega)
end Q10

theorem QuorumOthers : mailcoachlaw10_QuorumOthers.Pure := by
  intro n b e hn hb he
  obtain ⟨P, W, A, hf, hq⟩ := Q10.quorum_f n (Q10.u16_of hn)
  have hq' := hq
  obtain ⟨q1, q2, q3, q4⟩ := hq'
  refine ⟨60, ?_⟩
  unfold mailcoachlaw10_QuorumOthers.f
  rw [Q10.awake 60 (by omega)]
  simp only [Option.bind_some, if_true]
  rw [hf]
  simp only [Option.bind_some]
  rw [if_pos (by omega), if_pos (by omega)]
  exact Q10.others_l0 hq (Q10.u64_of he) (Q10.u8_of hb) P.toNat 60 0 _ _ (by omega) (by omega) (by simp; omega) (by simp; omega) (fun p h1 h2 => by omega)

end Go.Proofs.Ytcjndpmknachhaa.Pure

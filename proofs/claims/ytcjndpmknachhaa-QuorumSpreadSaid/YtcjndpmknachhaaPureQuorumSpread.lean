/- QuorumSpread: over as many entries as there are places each place has just Write of them, and no place is in a Set twice. It holds for all arguments, without further conditions. -/
import Derived.Test.YtcjndpmknachhaaQQuorumSpread
namespace Go.Proofs.Ytcjndpmknachhaa.Pure
open Go.RowKit Go.IntWalk Go.Proofs.Ytcjndpmknachhaa.PQuorumSpread Go.Proofs.YtcjndpmknachhaaW.PrintWords Go.Proofs.YtcjndpmknachhaaW.PrintLast

namespace Q10
theorem set_same {P W A e e' : Int} (hq : Okq P W A) (he : 0 ≤ e ∧ e ≤ 18446744073709551615) (he' : 0 ≤ e' ∧ e' ≤ 18446744073709551615) (hm : e % P = e' % P) : ∀ (k : Nat) (i : Int) (acc : List Int), 0 ≤ i →
    quorum_Set.l0 k e acc W i P W A = quorum_Set.l0 k e' acc W i P W 1 := by
  have hq' := hq
  obtain ⟨q1, q2, q3, q4⟩ := hq'
  intro k
  induction k with
  | zero => intro i acc h0; simp only [quorum_Set.l0]
  | succ k ih =>
    intro i acc h0
    simp only [quorum_Set.l0]
    by_cases h1 : i < W
    · have hz : ¬ IntKind.u64.wrap P = 0 := by rw [u64_in P (by omega)]; omega
      rw [if_pos h1, if_pos h1, if_neg hz, if_neg hz, elem_eq (by omega) he (by omega), elem_eq (by omega) he' (by omega), wrap64_in _ (by omega)]
      have : (e + i) % P = (e' + i) % P := by rw [← Int.emod_add_emod, hm, Int.emod_add_emod]
      rw [this, ih (i + 1) _ (by omega)]
    · rw [if_neg h1, if_neg h1]

theorem set_f_same {P W A e e' : Int} (hq : Okq P W A) (he : 0 ≤ e ∧ e ≤ 18446744073709551615) (he' : 0 ≤ e' ∧ e' ≤ 18446744073709551615) (hm : e % P = e' % P) (k : Nat) :
    quorum_Set.f k P W A e = quorum_Set.f k P W 1 e' := by
  have hq' := hq
  obtain ⟨q1, q2, q3, q4⟩ := hq'
  unfold quorum_Set.f
  rw [check_yes hq, check_yes (show Okq P W 1 from ⟨by omega, by omega, by omega, by omega⟩)]
  simp only [Option.bind_some, if_true]
  exact set_same hq he he' hm k 0 [] (by omega)

theorem l2_same {P W A : Int} : ∀ (k : Nat) (c : List Int) (n i : Int), mailcoachlaw10_QuorumSpread.l2 k c n i P W A = mailcoachlaw10_QuorumSpread.l2 k c n i P W 1 := by
  intro k
  induction k with
  | zero => intro c n i; simp only [mailcoachlaw10_QuorumSpread.l2]
  | succ k ih => intro c n i; simp only [mailcoachlaw10_QuorumSpread.l2, ih]

theorem spread_same {P W A e : Int} (hq : Okq P W A) (he : 0 ≤ e ∧ e ≤ 4611686018427387904) : ∀ (k : Nat),
    (∀ (c : List Int) (i : Int), 0 ≤ i → mailcoachlaw10_QuorumSpread.l0 k e c P i P W A = mailcoachlaw10_QuorumSpread.l0 k (e % P) c P i P W 1) ∧
    (∀ (c : List Int) (s : List Bool) (i : Int) (S : List Int) (n j : Int), 0 ≤ i → i < P → mailcoachlaw10_QuorumSpread.l1 k e c s P i S n j P W A = mailcoachlaw10_QuorumSpread.l1 k (e % P) c s P i S n j P W 1) := by
  have hq' := hq
  obtain ⟨q1, q2, q3, q4⟩ := hq'
  have m1 : 0 ≤ e % P := Int.emod_nonneg _ (by omega)
  have m2 : e % P < P := Int.emod_lt_of_pos _ (by omega)
  intro k
  induction k with
  | zero => exact ⟨fun c i _ => by simp only [mailcoachlaw10_QuorumSpread.l0], fun c s i S n j _ _ => by simp only [mailcoachlaw10_QuorumSpread.l1]⟩
  | succ k ih =>
    obtain ⟨ih0, ih1⟩ := ih
    refine ⟨fun c i h0 => ?_, fun c s i S n j h0 h1 => ?_⟩
    · simp only [mailcoachlaw10_QuorumSpread.l0]
      by_cases h1 : i < P
      · rw [if_pos h1, if_pos h1]
        have w1 : IntKind.u64.wrap (e + IntKind.u64.wrap i) = e + i := by rw [u64_in i (by omega), u64_in _ (by omega)]
        have w2 : IntKind.u64.wrap (e % P + IntKind.u64.wrap i) = e % P + i := by rw [u64_in i (by omega), u64_in _ (by omega)]
        rw [w1, w2, set_f_same hq (e := e + i) (e' := e % P + i) (by omega) (by omega) (by rw [Int.emod_add_emod]) k]
        congr 1; congr 1; congr 1
        funext t
        exact ih1 _ _ _ _ _ _ h0 h1
      · rw [if_neg h1, if_neg h1]
        exact l2_same k _ _ _
    · simp only [mailcoachlaw10_QuorumSpread.l1]
      have w3 : wrap64 (i + 1) = i + 1 := wrap64_in _ (by omega)
      rw [w3, ih0 c (i + 1) (by omega)]
      by_cases a1 : j < n
      · rw [if_pos a1, if_pos a1]
        rw [ih1 _ _ _ _ _ _ h0 h1]
      · rw [if_neg a1, if_neg a1]

theorem spread_all : ∀ P ∈ List.range 8, ∀ W ∈ List.range 8, ∀ r ∈ List.range 7, 1 ≤ W → W ≤ P → r < P →
    mailcoachlaw10_QuorumSpread.l0 80 (r : Int) (List.replicate ((P : Nat) : Int).toNat 0) (P : Int) 0 (P : Int) (W : Int) 1 = some true := by decide +kernel
end Q10

theorem QuorumSpread : mailcoachlaw10_QuorumSpread.Pure := by
  intro n e hn he
  obtain ⟨P, W, A, hf, hq⟩ := Q10.quorum_f n (Q10.u16_of hn)
  have hq' := hq
  obtain ⟨q1, q2, q3, q4⟩ := hq'
  have he' := Q10.u64_of he
  refine ⟨80, ?_⟩
  unfold mailcoachlaw10_QuorumSpread.f
  rw [Q10.awake 80 (by omega)]
  simp only [Option.bind_some, if_true]
  rw [hf]
  simp only [Option.bind_some]
  by_cases hb : e > 4611686018427387904
  · rw [if_pos hb]
  · rw [if_neg hb, if_pos (by omega), if_pos (by omega), (Q10.spread_same hq (by omega) 80).1 _ _ (by omega)]
    have m1 : 0 ≤ e % P := Int.emod_nonneg _ (by omega)
    have m2 : e % P < P := Int.emod_lt_of_pos _ (by omega)
    have := Q10.spread_all P.toNat (List.mem_range.2 (by omega)) W.toNat (List.mem_range.2 (by omega)) (e % P).toNat (List.mem_range.2 (by omega)) (by omega) (by omega) (by omega)
    rw [show ((P.toNat : Nat) : Int) = P by omega, show ((W.toNat : Nat) : Int) = W by omega, show (((e % P).toNat : Nat) : Int) = e % P by omega] at this
    exact this

end Go.Proofs.Ytcjndpmknachhaa.Pure

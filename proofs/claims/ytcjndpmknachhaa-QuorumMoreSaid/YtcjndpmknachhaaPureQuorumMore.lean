/- QuorumMore: with a place more what is enough stays so, and what covers stays so. It holds for all arguments, without further conditions. -/
import Derived.Test.YtcjndpmknachhaaQQuorumMore
namespace Go.Proofs.Ytcjndpmknachhaa.Pure
open Go.RowKit Go.IntWalk Go.Proofs.Ytcjndpmknachhaa.PQuorumMore Go.Proofs.YtcjndpmknachhaaW.PrintWords Go.Proofs.YtcjndpmknachhaaW.PrintLast

namespace Q10
def Under (x y : List Bool) : Prop := ∀ p : Int, rdOf false x p = true → rdOf false y p = true

theorem cnt_mono {P W e : Int} {x y : List Bool} (h : Under x y) : cnt P W e x ≤ cnt P W e y := by
  unfold cnt
  have := List.countP_mono_left (l := setL P W e) (p := rdOf false x) (q := rdOf false y) (fun p _ hp => h p hp)
  omega

theorem cov_mono {P W A : Int} {x y : List Bool} (h : Under x y) (hx : cov P W A x = true) : cov P W A y = true := by
  unfold cov at hx ⊢
  rw [List.all_eq_true] at hx ⊢
  intro i hi
  have h1 := hx i hi
  have h2 := cnt_mono (P := P) (W := W) (e := i) h
  simp only [decide_eq_true_eq] at h1 ⊢
  omega

theorem more_end {P W A e : Int} (hq : Okq P W A) (he : 0 ≤ e ∧ e ≤ 18446744073709551615) {x y : List Bool} (h : Under x y) (k : Nat) (hk : 20 ≤ k) :
    ((quorum_Enough.f k P W A e x).bind fun t149 => (if t149 = true then ((quorum_Enough.f k P W A e y).bind fun t150 => (if t150 = true then ((quorum_Covered.f k P W A x).bind fun t151 => (if t151 = true then ((quorum_Covered.f k P W A y).bind fun t152 => (some t152)) else (some true))) else (some false))) else ((quorum_Covered.f k P W A x).bind fun t153 => (if t153 = true then ((quorum_Covered.f k P W A y).bind fun t154 => (some t154)) else (some true))))) = some true := by
  rw [enough_f hq he x k (by omega), enough_f hq he y k (by omega), cov_f hq x k (by omega), cov_f hq y k (by omega)]
  simp only [Option.bind_some]
  have h1 := cnt_mono (P := P) (W := W) (e := e) h
  have hc : (if cov P W A x = true then some (cov P W A y) else some true) = some true := by
    by_cases h3 : cov P W A x = true
    · rw [if_pos h3, cov_mono h h3]
    · rw [if_neg h3]
  by_cases h2 : A ≤ cnt P W e x
  · rw [if_pos (by simp [h2]), if_pos (by simp only [decide_eq_true_eq]; omega)]
    exact hc
  · rw [if_neg (by simp [h2])]
    exact hc

theorem more_l0 {P W A e : Int} (hq : Okq P W A) (he : 0 ≤ e ∧ e ≤ 18446744073709551615) {a b : Int} (d : Nat) : ∀ (k : Nat) (i : Nat) (x y : List Bool), (i : Int) + d = P → d + 30 ≤ k → (x.length : Int) = P → (y.length : Int) = P → Under x y →
    mailcoachlaw10_QuorumMore.l0 k e a b x y P i P W A = some true := by
  have hP := hq.2.2.2
  induction d with
  | zero =>
    intro k i x y h hk hx hy hz
    obtain ⟨k, rfl⟩ : ∃ m, k = m + 1 := ⟨k - 1, by omega⟩
    simp only [mailcoachlaw10_QuorumMore.l0]; rw [if_neg (by omega)]
    exact more_end hq he hz k (by omega)
  | succ d ih =>
    intro k i x y h hk hx hy hz
    obtain ⟨k, rfl⟩ : ∃ m, k = m + 1 := ⟨k - 1, by omega⟩
    simp only [mailcoachlaw10_QuorumMore.l0]
    rw [if_pos (by omega), if_pos (by omega), if_pos (by omega)]
    simp only [Option.bind_some]
    rw [show (((i : Int)).toNat) = i by omega, wrap64_in ((i : Int) + 1) (by omega), show ((i : Int) + 1) = ((i + 1 : Nat) : Int) by omega, if_pos (show (i : Int) < (y.length : Int) by omega), if_pos (show (i : Int) < (y.length : Int) by omega)]
    generalize ((Go.bits .and .u8 (shr .u8 a (i : Int)) 1) == 1) = u
    generalize ((Go.bits .and .u8 (shr .u8 b (i : Int)) 1) == 1) = v
    rw [rdOf_set, if_pos (show (i : Int).toNat = i ∧ i < x.length from ⟨by omega, by omega⟩)]
    have go : ∀ v', (u = true → v' = true) → mailcoachlaw10_QuorumMore.l0 k e a b (x.set i u) (y.set i v') P ((i + 1 : Nat) : Int) P W A = some true := by
      intro v' hv
      refine ih k (i + 1) _ _ (by omega) (by omega) (by simpa using hx) (by simpa using hy) ?_
      intro p
      rw [rdOf_set, rdOf_set]
      by_cases e1 : p.toNat = i
      · rw [if_pos ⟨e1, by omega⟩, if_pos ⟨e1, by omega⟩]; exact hv
      · rw [if_neg (by omega), if_neg (by omega)]; exact hz p
    by_cases e2 : u = true
    · rw [if_pos e2]; exact go true fun _ => rfl
    · rw [if_neg e2]; exact go v fun h => absurd h e2
end Q10

theorem QuorumMore : mailcoachlaw10_QuorumMore.Pure := by
  intro n e a b hn he ha hb
  obtain ⟨P, W, A, hf, hq⟩ := Q10.quorum_f n (Q10.u16_of hn)
  have hq' := hq
  obtain ⟨q1, q2, q3, q4⟩ := hq'
  refine ⟨60, ?_⟩
  unfold mailcoachlaw10_QuorumMore.f
  rw [Q10.awake 60 (by omega)]
  simp only [Option.bind_some, if_true]
  rw [hf]
  simp only [Option.bind_some]
  rw [if_pos (by omega), if_pos (by omega)]
  exact Q10.more_l0 hq (Q10.u64_of he) P.toNat 60 0 _ _ (by omega) (by omega) (by simp; omega) (by simp; omega) (fun p h => h)

end Go.Proofs.Ytcjndpmknachhaa.Pure

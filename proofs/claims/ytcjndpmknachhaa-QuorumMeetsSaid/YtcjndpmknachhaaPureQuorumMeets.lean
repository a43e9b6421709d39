/- QuorumMeets: of places by which an entry is confirmed, and places that cover, one is among both. It holds for all arguments, without further conditions. -/
import Derived.Test.YtcjndpmknachhaaQQuorumMeets
namespace Go.Proofs.Ytcjndpmknachhaa.Pure
open Go.RowKit Go.IntWalk Go.Proofs.Ytcjndpmknachhaa.PQuorumMeets Go.Proofs.YtcjndpmknachhaaW.PrintWords Go.Proofs.YtcjndpmknachhaaW.PrintLast

namespace Q10
def Disj (x y : List Bool) : Prop := ∀ p : Int, ¬ (rdOf false x p = true ∧ rdOf false y p = true)

theorem disj_set {x y : List Bool} {i : Nat} {a b : Bool} (h : Disj x y) (hab : ¬ (a = true ∧ b = true)) (hx : i < x.length) (hy : i < y.length) : Disj (x.set i a) (y.set i b) := by
  intro p
  rw [rdOf_set, rdOf_set]
  by_cases e : p.toNat = i
  · rw [if_pos ⟨e, hx⟩, if_pos ⟨e, hy⟩]; exact hab
  · rw [if_neg (by omega), if_neg (by omega)]; exact h p

theorem meets_end {P W A e : Int} (hq : Okq P W A) (he : 0 ≤ e ∧ e ≤ 18446744073709551615) {x y : List Bool} {z : Bool} (h : z = true ∨ Disj x y) (k : Nat) (hk : 20 ≤ k) :
    ((quorum_Enough.f k P W A e x).bind fun t149 => (if t149 = true then ((quorum_Covered.f k P W A y).bind fun t150 => (if t150 = true then (some z) else (some true))) else (some true))) = some true := by
  rw [enough_f hq he x k (by omega), cov_f hq y k (by omega)]
  simp only [Option.bind_some]
  by_cases h1 : A ≤ cnt P W e x
  · by_cases h2 : cov P W A y = true
    · rw [if_pos (by simp [h1]), if_pos h2]
      rcases h with h | h
      · rw [h]
      · exfalso
        have h3 := cov_at (e := e) (by obtain ⟨_, _, _, _⟩ := hq; omega) h2
        have h4 := disj_count (rdOf false x) (rdOf false y) (setL P W e) (fun p _ => h p)
        rw [setL_length] at h4
        obtain ⟨_, _, _, _⟩ := hq
        unfold cnt at h1 h3
        omega
    · rw [if_pos (by simp [h1]), if_neg h2]
  · rw [if_neg (by simp [h1])]

theorem meets_l0 {P W A e : Int} (hq : Okq P W A) (he : 0 ≤ e ∧ e ≤ 18446744073709551615) {a b : Int} (d : Nat) : ∀ (k : Nat) (i : Nat) (x y : List Bool) (z : Bool), (i : Int) + d = P → d + 30 ≤ k → (x.length : Int) = P → (y.length : Int) = P → (z = true ∨ Disj x y) →
    mailcoachlaw10_QuorumMeets.l0 k e a b x y z P i P W A = some true := by
  induction d with
  | zero =>
    intro k i x y z h hk hx hy hz
    obtain ⟨k, rfl⟩ : ∃ m, k = m + 1 := ⟨k - 1, by omega⟩
    simp only [mailcoachlaw10_QuorumMeets.l0]; rw [if_neg (by omega)]
    exact meets_end hq he hz k (by omega)
  | succ d ih =>
    intro k i x y z h hk hx hy hz
    obtain ⟨k, rfl⟩ : ∃ m, k = m + 1 := ⟨k - 1, by omega⟩
    have hP := hq.2.2.2
    simp only [mailcoachlaw10_QuorumMeets.l0]
    rw [if_pos (by omega), if_pos (by omega), if_pos (by omega)]
    rw [Option.bind_some, if_pos (by omega), Option.bind_some]
    rw [show (((i : Int)).toNat) = i by omega, wrap64_in ((i : Int) + 1) (by omega), show ((i : Int) + 1) = ((i + 1 : Nat) : Int) by omega]
    generalize ((Go.bits .and .u8 (shr .u8 a (i : Int)) 1) == 1) = u
    generalize ((Go.bits .and .u8 (shr .u8 b (i : Int)) 1) == 1) = v
    have go : ∀ z', (z' = true ∨ Disj (x.set i u) (y.set i v)) → mailcoachlaw10_QuorumMeets.l0 k e a b (x.set i u) (y.set i v) z' P ((i + 1 : Nat) : Int) P W A = some true :=
      fun z' hz' => ih k (i + 1) _ _ z' (by omega) (by omega) (by simpa using hx) (by simpa using hy) hz'
    rcases hz with hz | hz
    · rw [if_pos hz]; exact go true (.inl rfl)
    · by_cases e1 : z = true
      · rw [if_pos e1]; exact go true (.inl rfl)
      · rw [if_neg e1]
        by_cases e2 : u = true
        · rw [if_pos e2]
          by_cases e3 : v = true
          · exact go v (.inl e3)
          · exact go v (.inr (disj_set hz (fun h => e3 h.2) (by omega) (by omega)))
        · rw [if_neg e2]
          exact go false (.inr (disj_set hz (fun h => e2 h.1) (by omega) (by omega)))
end Q10

theorem QuorumMeets : mailcoachlaw10_QuorumMeets.Pure := by
  intro n e a b hn he ha hb
  obtain ⟨P, W, A, hf, hq⟩ := Q10.quorum_f n (Q10.u16_of hn)
  have hq' := hq
  obtain ⟨q1, q2, q3, q4⟩ := hq'
  refine ⟨60, ?_⟩
  unfold mailcoachlaw10_QuorumMeets.f
  rw [Q10.awake 60 (by omega)]
  simp only [Option.bind_some, if_true]
  rw [hf]
  simp only [Option.bind_some]
  rw [if_pos (by omega), if_pos (by omega)]
  exact Q10.meets_l0 hq (Q10.u64_of he) P.toNat 60 0 _ _ _ (by omega) (by omega) (by simp; omega) (by simp; omega) (.inr fun p hp => by
    have := hp.1
    simp [rdOf, List.getD_eq_getElem?_getD, List.getElem?_replicate] at this
    split at this <;> simp at this)

end Go.Proofs.Ytcjndpmknachhaa.Pure

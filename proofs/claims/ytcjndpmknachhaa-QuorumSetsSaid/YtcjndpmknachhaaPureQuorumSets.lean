/- QuorumSets: what the program tells of a quorum, its sets, what is enough and what covers is what the reference tells. It holds for all arguments, without further conditions. -/
import Derived.Test.YtcjndpmknachhaaQQuorumSets
import Derived.Test.YtcjndpmknachhaaOkQuorumSets
namespace Go.Proofs.Ytcjndpmknachhaa.Pure
open Go.Proofs.Ytcjndpmknachhaa.OkQuorumSets Go.RowKit Go.IntWalk Go.Proofs.Ytcjndpmknachhaa.PQuorumSets Go.Proofs.YtcjndpmknachhaaW.PrintWords Go.Proofs.YtcjndpmknachhaaW.PrintLast

namespace Q10
theorem cases7 {P : Int} (h : 1 ≤ P ∧ P ≤ 7) : P = 1 ∨ P = 2 ∨ P = 3 ∨ P = 4 ∨ P = 5 ∨ P = 6 ∨ P = 7 := by omega

theorem mod_next {P x : Int} (h : 1 ≤ P ∧ P ≤ 7) : (x % P + 1 = P → (x + 1) % P = 0) ∧ (x % P + 1 ≠ P → (x + 1) % P = x % P + 1) := by
  rcases cases7 h with rfl | rfl | rfl | rfl | rfl | rfl | rfl <;> omega

theorem rcheck_yes {P W A : Int} (h : Okq P W A) : mailcoachref10_Check.f P W A = some true := by
  obtain ⟨h1, h2, h3, h4⟩ := h
  simp only [mailcoachref10_Check.f]; rw [if_pos (by omega), if_pos (by omega), if_pos (by omega)]; simp [h4]

theorem rcheck_no {P W A : Int} (h : ¬ Okq P W A) : mailcoachref10_Check.f P W A = some false := by
  unfold Okq at h
  unfold mailcoachref10_Check.f
  split
  · split
    · split
      · simp; omega
      · rfl
    · rfl
  · rfl

theorem rset_l0 {P W A e : Int} (hq : Okq P W A) (d : Nat) : ∀ (k : Nat) (i : Nat) (acc : List Int), (i : Int) + d = W → d < k → acc.length ≤ i →
    mailcoachref10_Set.l0 k acc ((e + i) % P) i P W A = some (acc ++ (List.range d).map fun j => (e + ((i + j : Nat) : Int)) % P) := by
  obtain ⟨q1, q2, q3, q4⟩ := hq
  induction d with
  | zero =>
    intro k i acc h hk ha
    obtain ⟨k, rfl⟩ : ∃ m, k = m + 1 := ⟨k - 1, by omega⟩
    simp only [mailcoachref10_Set.l0]; rw [if_neg (by omega)]; simp
  | succ d ih =>
    intro k i acc h hk ha
    obtain ⟨k, rfl⟩ : ∃ m, k = m + 1 := ⟨k - 1, by omega⟩
    have h1 : 0 ≤ (e + i) % P := Int.emod_nonneg _ (by omega)
    have h2 : (e + i) % P < P := Int.emod_lt_of_pos _ (by omega)
    obtain ⟨n1, n2⟩ := mod_next (P := P) (x := e + i) (by omega)
    simp only [mailcoachref10_Set.l0]
    rw [if_pos (by omega), if_pos (by omega)]
    simp only [Option.bind_some]
    rw [wrap64_in _ (by omega), wrap64_in _ (by omega)]
    have key := ih k (i + 1) (acc ++ [(e + (i : Int)) % P]) (by omega) (by omega) (by simp; omega)
    rw [show (e + ((i + 1 : Nat) : Int)) = e + i + 1 by omega, show (((i + 1 : Nat) : Int)) = i + 1 by omega] at key
    have fin : acc ++ [(e + (i : Int)) % P] ++ List.map (fun j => (e + ((i + 1 + j : Nat) : Int)) % P) (List.range d) = acc ++ List.map (fun j => (e + ((i + j : Nat) : Int)) % P) (List.range (d + 1)) := by
      rw [List.append_assoc, List.range_succ_eq_map, List.map_cons, List.map_map]
      congr 1
      simp only [List.singleton_append, Nat.add_zero, List.cons.injEq, true_and]
      apply List.map_congr_left
      intro j _
      simp only [Function.comp]
      congr 2
      omega
    by_cases hp : (e + i) % P + 1 = P
    · rw [if_pos hp]
      rw [n1 hp] at key
      rw [key, fin]
    · rw [if_neg hp]
      rw [n2 hp] at key
      rw [key, fin]

theorem rset_f {P W A e : Int} (hq : Okq P W A) (he : 0 ≤ e ∧ e ≤ 18446744073709551615) (k : Nat) (hk : 8 ≤ k) : mailcoachref10_Set.f k P W A e = some (setL P W e) := by
  unfold mailcoachref10_Set.f
  rw [rcheck_yes hq]
  simp only [Option.bind_some, if_true]
  have hq' := hq
  obtain ⟨q1, q2, q3, q4⟩ := hq'
  have h1 : 0 ≤ e % P := Int.emod_nonneg _ (by omega)
  have h2 : e % P < P := Int.emod_lt_of_pos _ (by omega)
  rw [u64_in P (by omega), if_neg (by omega), Int.tmod_eq_emod_of_nonneg (by omega), wrap64_in _ (by omega)]
  have := rset_l0 (e := e) hq W.toNat k 0 [] (by omega) (by omega) (by simp)
  simp only [List.nil_append, Nat.zero_add] at this
  rw [show (e + ((0 : Nat) : Int)) = e by omega] at this
  exact this

theorem rset_no {P W A e : Int} (hq : ¬ Okq P W A) (k : Nat) : mailcoachref10_Set.f k P W A e = some [] := by
  unfold mailcoachref10_Set.f
  rw [rcheck_no hq]
  simp

theorem in_l0 {S : List Int} {p : Int} (hl : S.length ≤ 7) (d : Nat) : ∀ (k : Nat) (i : Nat), i + d = S.length → d < k → mailcoachref10_In.l0 k S p i = some (decide (p ∈ S.drop i)) := by
  induction d with
  | zero =>
    intro k i h hk
    obtain ⟨k, rfl⟩ : ∃ m, k = m + 1 := ⟨k - 1, by omega⟩
    simp only [mailcoachref10_In.l0]; rw [if_neg (by omega), List.drop_eq_nil_of_le (by omega)]; simp
  | succ d ih =>
    intro k i h hk
    obtain ⟨k, rfl⟩ : ∃ m, k = m + 1 := ⟨k - 1, by omega⟩
    have hi : i < S.length := by omega
    have hr : rd S (i : Int) = S[i] := by simp [rd, List.getD_eq_getElem?_getD, List.getElem?_eq_getElem hi]
    have hd : S.drop i = S[i] :: S.drop (i + 1) := List.drop_eq_getElem_cons hi
    simp only [mailcoachref10_In.l0]
    rw [if_pos (by omega), if_pos (by omega), hr, hd, wrap64_in _ (by omega), show ((i : Int) + 1) = ((i + 1 : Nat) : Int) by omega, ih k (i + 1) (by omega) (by omega)]
    by_cases e : S[i] = p
    · rw [if_pos e]; simp [e]
    · rw [if_neg e]
      have : p ≠ S[i] := fun h => e h.symm
      simp only [List.mem_cons, this, false_or]

theorem in_f {S : List Int} {p : Int} (hl : S.length ≤ 7) (k : Nat) (hk : 8 ≤ k) : mailcoachref10_In.f k S p = some (decide (p ∈ S)) := by
  unfold mailcoachref10_In.f
  have := in_l0 (S := S) (p := p) hl S.length k 0 (by omega) (by omega)
  simpa using this

theorem rcount_l0 {P W A e : Int} (hq : Okq P W A) (he : 0 ≤ e ∧ e ≤ 18446744073709551615) (said : List Bool) (d : Nat) : ∀ (k : Nat) (p : Nat) (n : Int), p + d = min P.toNat said.length → 2 * d + 10 ≤ k → 0 ≤ n → n ≤ p →
    mailcoachref10_Count.l0 k e said n p P W A = some (n + (((List.range d).countP fun j => rdOf false said ((p + j : Nat) : Int) && decide (((p + j : Nat) : Int) ∈ setL P W e) : Nat) : Int)) := by
  have hq' := hq
  obtain ⟨q1, q2, q3, q4⟩ := hq'
  induction d with
  | zero =>
    intro k p n h hk h0 h1
    obtain ⟨k, rfl⟩ : ∃ m, k = m + 2 := ⟨k - 2, by omega⟩
    simp only [mailcoachref10_Count.l0, mailcoachref10_Count.j1]
    by_cases hp : (p : Int) < P
    · rw [if_pos hp, if_neg (by simp; omega)]; simp
    · rw [if_neg hp]; simp
  | succ d ih =>
    intro k p n h hk h0 h1
    obtain ⟨k, rfl⟩ : ∃ m, k = m + 2 := ⟨k - 2, by omega⟩
    have hl := setL_length P W e
    simp only [mailcoachref10_Count.l0, mailcoachref10_Count.j1]
    have hlt : (p : Int) < (said.length : Int) := by omega
    rw [if_pos (by omega), if_pos (by simp; omega), if_pos (by omega), if_pos hlt, wrap64_in (n + 1) (by omega), wrap64_in ((p : Int) + 1) (by omega), show ((p : Int) + 1) = ((p + 1 : Nat) : Int) by omega]
    rw [rset_f hq he k (by omega)]
    simp only [Option.bind_some]
    rw [in_f (by omega) k (by omega)]
    simp only [Option.bind_some]
    rw [List.range_succ_eq_map, List.countP_cons, List.countP_map]
    have hc : ∀ m : Int, ((List.range d).countP ((fun j => rdOf false said ((p + j : Nat) : Int) && decide (((p + j : Nat) : Int) ∈ setL P W e)) ∘ Nat.succ) : Nat) = (List.range d).countP fun j => rdOf false said ((p + 1 + j : Nat) : Int) && decide (((p + 1 + j : Nat) : Int) ∈ setL P W e) := by
      intro _
      apply List.countP_congr
      intro j _
      simp only [Function.comp, Nat.succ_eq_add_one]
      rw [show p + (j + 1) = p + 1 + j by omega]
    rw [hc 0]
    have i1 := ih k (p + 1) (n + 1) (by omega) (by omega) (by omega) (by omega)
    have i2 := ih k (p + 1) n (by omega) (by omega) (by omega) (by omega)
    by_cases a1 : rdOf false said (p : Int) = true
    · rw [if_pos a1]
      by_cases a2 : (p : Int) ∈ setL P W e
      · rw [if_pos (by simp [a2]), i1]
        simp only [Nat.add_zero, a1, a2, decide_true, Bool.and_self, if_true]
        congr 1; omega
      · rw [if_neg (by simp [a2]), i2]
        simp [a2]
    · rw [if_neg a1, i2]
      simp [a1]

theorem setL_nodup {P W A e : Int} (hq : Okq P W A) : (setL P W e).Nodup := by
  obtain ⟨q1, q2, q3, q4⟩ := hq
  unfold setL
  rw [List.Nodup, List.pairwise_map]
  refine List.Pairwise.imp_of_mem ?_ List.nodup_range
  intro i j hi hj hne h
  simp only [List.mem_range] at hi hj
  have : P = 1 ∨ P = 2 ∨ P = 3 ∨ P = 4 ∨ P = 5 ∨ P = 6 ∨ P = 7 := cases7 (by omega)
  rcases this with rfl | rfl | rfl | rfl | rfl | rfl | rfl <;> omega

theorem rcount_eq {P W A e : Int} (hq : Okq P W A) (said : List Bool) :
    (List.range (min P.toNat said.length)).countP (fun j => rdOf false said ((0 + j : Nat) : Int) && decide (((0 + j : Nat) : Int) ∈ setL P W e)) = (setL P W e).countP (rdOf false said) := by
  have hq' := hq
  obtain ⟨q1, q2, q3, q4⟩ := hq'
  rw [List.countP_eq_length_filter, List.countP_eq_length_filter]
  have e1 : ((List.range (min P.toNat said.length)).filter (fun j => rdOf false said ((0 + j : Nat) : Int) && decide (((0 + j : Nat) : Int) ∈ setL P W e))).length = (((List.range (min P.toNat said.length)).filter (fun j => rdOf false said ((0 + j : Nat) : Int) && decide (((0 + j : Nat) : Int) ∈ setL P W e))).map fun j : Nat => (j : Int)).length := by rw [List.length_map]
  rw [e1]
  apply List.Perm.length_eq
  rw [List.perm_ext_iff_of_nodup]
  · intro p
    simp only [List.mem_map, List.mem_filter, List.mem_range, Nat.zero_add, Bool.and_eq_true, decide_eq_true_eq]
    constructor
    · rintro ⟨j, ⟨_, h1, h2⟩, rfl⟩
      exact ⟨h2, h1⟩
    · rintro ⟨h1, h2⟩
      have h3 := setL_mem (by omega) h1
      have h4 : p.toNat < said.length := by
        rcases Nat.lt_or_ge p.toNat said.length with h | h
        · exact h
        · simp [rdOf, List.getD_eq_getElem?_getD, List.getElem?_eq_none h] at h2
      refine ⟨p.toNat, ⟨by omega, ?_, ?_⟩, by omega⟩
      · rw [show ((p.toNat : Nat) : Int) = p by omega]; exact h2
      · rw [show ((p.toNat : Nat) : Int) = p by omega]; exact h1
  · rw [List.Nodup, List.pairwise_map]
    refine List.Pairwise.imp ?_ (List.Pairwise.filter _ (List.nodup_range (n := min P.toNat said.length)))
    intro a b hab h
    omega
  · exact List.Pairwise.filter _ (setL_nodup hq)

theorem rcount_f {P W A e : Int} (hq : Okq P W A) (he : 0 ≤ e ∧ e ≤ 18446744073709551615) (said : List Bool) (k : Nat) (hk : 30 ≤ k) : mailcoachref10_Count.f k P W A e said = some (cnt P W e said) := by
  unfold mailcoachref10_Count.f
  have hq' := hq
  obtain ⟨q1, q2, q3, q4⟩ := hq'
  have := rcount_l0 hq he said (min P.toNat said.length) k 0 0 (by omega) (by omega) (by omega) (by omega)
  rw [show ((0 : Nat) : Int) = 0 from rfl] at this
  rw [this, rcount_eq hq said]
  simp [cnt]

theorem renough_f {P W A e : Int} (hq : Okq P W A) (he : 0 ≤ e ∧ e ≤ 18446744073709551615) (said : List Bool) (k : Nat) (hk : 30 ≤ k) : mailcoachref10_Enough.f k P W A e said = some (decide (A ≤ cnt P W e said)) := by
  unfold mailcoachref10_Enough.f
  rw [rcheck_yes hq]
  simp only [Option.bind_some, if_true]
  rw [rcount_f hq he said k hk]
  simp

theorem rcov_l0 {P W A : Int} (hq : Okq P W A) (heard : List Bool) (d : Nat) : ∀ (k : Nat) (i : Nat), (i : Int) + d = P → d + 40 ≤ k →
    mailcoachref10_Covered.l0 k heard i P W A = some ((List.range d).all fun j => decide (W - A < cnt P W ((i + j : Nat) : Int) heard)) := by
  have hq' := hq
  obtain ⟨q1, q2, q3, q4⟩ := hq'
  induction d with
  | zero =>
    intro k i h hk
    obtain ⟨k, rfl⟩ : ∃ m, k = m + 1 := ⟨k - 1, by omega⟩
    simp only [mailcoachref10_Covered.l0]; rw [if_neg (by omega)]; simp
  | succ d ih =>
    intro k i h hk
    obtain ⟨k, rfl⟩ : ∃ m, k = m + 1 := ⟨k - 1, by omega⟩
    simp only [mailcoachref10_Covered.l0]
    rw [if_pos (by omega), u64_in _ (by omega), rcount_f hq (by omega) heard k (by omega), wrap64_in (W - A) (by omega), wrap64_in ((i : Int) + 1) (by omega)]
    simp only [Option.bind_some]
    rw [List.range_succ_eq_map, List.all_cons, List.all_map]
    by_cases hc : cnt P W (i : Int) heard ≤ W - A
    · rw [if_pos hc]
      have : ¬ (W - A < cnt P W (i : Int) heard) := by omega
      simp [this]
    · rw [if_neg hc, show ((i : Int) + 1) = ((i + 1 : Nat) : Int) by omega, ih k (i + 1) (by omega) (by omega)]
      have : W - A < cnt P W (i : Int) heard := by omega
      simp only [Nat.add_zero, this, decide_true, Bool.true_and]
      congr 2
      funext j
      simp only [Function.comp, Nat.succ_eq_add_one]
      rw [show i + 1 + j = i + (j + 1) by omega]

theorem rcov_f {P W A : Int} (hq : Okq P W A) (heard : List Bool) (k : Nat) (hk : 60 ≤ k) : mailcoachref10_Covered.f k P W A heard = some (cov P W A heard) := by
  unfold mailcoachref10_Covered.f
  rw [rcheck_yes hq]
  simp only [Option.bind_some, if_true]
  have hq' := hq
  obtain ⟨q1, q2, q3, q4⟩ := hq'
  have := rcov_l0 hq heard P.toNat k 0 (by omega) (by omega)
  simp only [Nat.zero_add] at this
  exact this

theorem same_l0 {S : List Int} (hl : S.length ≤ 7) (d : Nat) : ∀ (k : Nat) (i : Nat), i + d = S.length → d < k → mailcoachlaw10_same.l0 k S S (S.length : Int) i = some true := by
  induction d with
  | zero =>
    intro k i h hk
    obtain ⟨k, rfl⟩ : ∃ m, k = m + 1 := ⟨k - 1, by omega⟩
    simp only [mailcoachlaw10_same.l0]; rw [if_neg (by omega)]
  | succ d ih =>
    intro k i h hk
    obtain ⟨k, rfl⟩ : ∃ m, k = m + 1 := ⟨k - 1, by omega⟩
    have h1 : (i : Int) < (S.length : Int) := by omega
    simp only [mailcoachlaw10_same.l0]
    rw [if_pos h1, if_pos (by omega), if_pos h1, if_pos h1, if_true, wrap64_in _ (by omega), show ((i : Int) + 1) = ((i + 1 : Nat) : Int) by omega]
    exact ih k (i + 1) (by omega) (by omega)

theorem same_f {S : List Int} (hl : S.length ≤ 7) (k : Nat) (hk : 8 ≤ k) : mailcoachlaw10_same.f k S S = some true := by
  unfold mailcoachlaw10_same.f
  rw [if_pos rfl]
  exact same_l0 hl S.length k 0 (by omega) (by omega)

theorem enough_no {P W A e : Int} (hq : ¬ Okq P W A) (said : List Bool) (k : Nat) : quorum_Enough.f k P W A e said = some false := by
  unfold quorum_Enough.f; rw [check_no hq]; rfl
theorem cov_no {P W A : Int} (hq : ¬ Okq P W A) (said : List Bool) (k : Nat) : quorum_Covered.f k P W A said = some false := by
  unfold quorum_Covered.f; rw [check_no hq]; rfl
theorem renough_no {P W A e : Int} (hq : ¬ Okq P W A) (said : List Bool) (k : Nat) : mailcoachref10_Enough.f k P W A e said = some false := by
  unfold mailcoachref10_Enough.f; rw [rcheck_no hq]; rfl
theorem rcov_no {P W A : Int} (hq : ¬ Okq P W A) (said : List Bool) (k : Nat) : mailcoachref10_Covered.f k P W A said = some false := by
  unfold mailcoachref10_Covered.f; rw [rcheck_no hq]; rfl

theorem sets_l0 {e : Int} (he : 0 ≤ e ∧ e ≤ 18446744073709551615) (said : List Bool) (l : List S26) (hl : l.length ≤ 7) (d : Nat) : ∀ (k : Nat) (i : Nat), i + d = l.length → d + 70 ≤ k →
    mailcoachlaw10_QuorumSets.l0 k e said l (l.length : Int) i = some true := by
  induction d with
  | zero =>
    intro k i h hk
    obtain ⟨k, rfl⟩ : ∃ m, k = m + 1 := ⟨k - 1, by omega⟩
    simp only [mailcoachlaw10_QuorumSets.l0]; rw [if_neg (by omega)]
  | succ d ih =>
    intro k i h hk
    obtain ⟨k, rfl⟩ : ∃ m, k = m + 1 := ⟨k - 1, by omega⟩
    have h1 : (i : Int) < (l.length : Int) := by omega
    simp only [mailcoachlaw10_QuorumSets.l0]
    rw [if_pos h1, if_pos (by omega), if_pos h1, wrap64_in _ (by omega), show ((i : Int) + 1) = ((i + 1 : Nat) : Int) by omega]
    have go := ih k (i + 1) (by omega) (by omega)
    generalize rd_T26 l (i : Int) = x
    by_cases hq : Okq x.f0 x.f1 x.f2
    · have hs : (setL x.f0 x.f1 e).length ≤ 7 := by rw [setL_length]; obtain ⟨_, _, _, _⟩ := hq; omega
      rw [check_yes hq, rcheck_yes hq, set_f hq he k (by omega), rset_f hq he k (by omega), enough_f hq he said k (by omega), renough_f hq he said k (by omega), cov_f hq said k (by omega), rcov_f hq said k (by omega)]
      simp only [Option.bind_some]
      rw [same_f hs k (by omega)]
      simp only [Option.bind_some, bne_self_eq_false, if_true]
      simpa using go
    · rw [check_no hq, rcheck_no hq, set_no hq k, rset_no hq k, enough_no hq said k, renough_no hq said k, cov_no hq said k, rcov_no hq said k]
      simp only [Option.bind_some]
      rw [same_f (by simp) k (by omega)]
      simp only [Option.bind_some, bne_self_eq_false, if_true]
      simpa using go
end Q10

theorem QuorumSets : ∀ (a0 : S26) (a1 : Int) (a2 : Int) (l3 : List Bool), ok26 a0 → (Lit.int .u16 a1).wf = true → (Lit.int .u64 a2).wf = true → ((∀ y ∈ l3, True) ∧ (l3).length ≤ maxLen ∧ (l3).length * Try.prog.bytesOf 4 ≤ 140737488351232) → ∃ k, mailcoachlaw10_QuorumSets.f k a0.f0 a0.f1 a0.f2 a1 a2 l3 = some true := by
  intro q n e said _ hn he _
  obtain ⟨P, W, A, hf, hq⟩ := Q10.quorum_f n (Q10.u16_of hn)
  refine ⟨100, ?_⟩
  unfold mailcoachlaw10_QuorumSets.f
  rw [Q10.awake 100 (by omega)]
  simp only [Option.bind_some, if_true]
  by_cases hs : (said.length : Int) > 100
  · rw [if_pos hs]
  · rw [if_neg hs, hf]
    simp only [Option.bind_some]
    exact Q10.sets_l0 (Q10.u64_of he) said _ (by simp) 2 100 0 (by simp) (by omega)

end Go.Proofs.Ytcjndpmknachhaa.Pure

/- Chapter 10: what the printed functions of package quorum answer, as plain lists and counts; used by the laws of that chapter. -/
import Derived.Test.YtcjndpmknachhaaPQuorumSetsx5
import Derived.IntWalk
import Derived.Laws.BitsAllLaws
namespace Go.Proofs.Ytcjndpmknachhaa.Pure
open Go.RowKit Go.IntWalk Go.Proofs.Ytcjndpmknachhaa.PQuorumSets Go.Proofs.YtcjndpmknachhaaW.PrintWords Go.Proofs.YtcjndpmknachhaaW.PrintLast
set_option linter.unusedVariables false

namespace Q10

def setL (P W e : Int) : List Int := (List.range W.toNat).map fun i : Nat => (e + (i : Int)) % P
def cnt (P W e : Int) (said : List Bool) : Int := (((setL P W e).countP (rdOf false said) : Nat) : Int)
def Okq (P W A : Int) : Prop := 1 ≤ A ∧ A ≤ W ∧ W ≤ P ∧ P ≤ 7

theorem elem_eq {P e i : Int} (hP : 1 ≤ P ∧ P ≤ 7) (he : 0 ≤ e ∧ e ≤ 18446744073709551615) (hi : 0 ≤ i ∧ i ≤ 7) :
    wrap64 (Int.tmod (IntKind.u64.wrap ((Int.tmod e (IntKind.u64.wrap P)) + (IntKind.u64.wrap i))) (IntKind.u64.wrap P)) = (e + i) % P := by
  rw [u64_in P (by omega), u64_in i (by omega), Int.tmod_eq_emod_of_nonneg (a := e) (b := P) (by omega)]
  have h1 : 0 ≤ e % P := Int.emod_nonneg _ (by omega)
  have h2 : e % P < P := Int.emod_lt_of_pos _ (by omega)
  rw [u64_in (e % P + i) (by omega), Int.tmod_eq_emod_of_nonneg (a := e % P + i) (b := P) (by omega)]
  have h3 : 0 ≤ (e % P + i) % P := Int.emod_nonneg _ (by omega)
  have h4 : (e % P + i) % P < P := Int.emod_lt_of_pos _ (by omega)
  rw [wrap64_in _ (by omega)]
  rw [Int.emod_add_emod]

theorem check_yes {P W A : Int} (h : Okq P W A) : quorum_Check.f P W A = some true := by
  obtain ⟨h1, h2, h3, h4⟩ := h
  simp only [quorum_Check.f]; rw [if_pos h1, if_pos h2, if_pos h3]; simp [h4]

theorem check_no {P W A : Int} (h : ¬ Okq P W A) : quorum_Check.f P W A = some false := by
  unfold Okq at h
  unfold quorum_Check.f
  split
  · split
    · split
      · simp; omega
      · rfl
    · rfl
  · rfl

theorem set_l0 {P W A e : Int} (hq : Okq P W A) (he : 0 ≤ e ∧ e ≤ 18446744073709551615) (d : Nat) : ∀ (k : Nat) (i : Nat) (acc : List Int), (i : Int) + d = W → d < k → acc.length ≤ i →
    quorum_Set.l0 k e acc W i P W A = some (acc ++ (List.range d).map fun j => (e + ((i + j : Nat) : Int)) % P) := by
  obtain ⟨q1, q2, q3, q4⟩ := hq
  induction d with
  | zero =>
    intro k i acc h hk ha
    obtain ⟨k, rfl⟩ : ∃ m, k = m + 1 := ⟨k - 1, by omega⟩
    simp only [quorum_Set.l0]; rw [if_neg (by omega)]; simp
  | succ d ih =>
    intro k i acc h hk ha
    obtain ⟨k, rfl⟩ : ∃ m, k = m + 1 := ⟨k - 1, by omega⟩
    simp only [quorum_Set.l0]
    rw [if_pos (by omega), if_neg (by rw [u64_in P (by omega)]; omega), if_pos (by omega), elem_eq (by omega) he (by omega), wrap64_in _ (by omega)]
    have := ih k (i + 1) (acc ++ [(e + (i : Int)) % P]) (by omega) (by omega) (by simp; omega)
    rw [show ((i : Int) + 1) = ((i + 1 : Nat) : Int) by omega, this, List.append_assoc]
    congr 2
    rw [List.range_succ_eq_map, List.map_cons, List.map_map]
    simp only [List.singleton_append, Nat.add_zero, List.cons.injEq, true_and]
    apply List.map_congr_left
    intro j _
    simp only [Function.comp]
    congr 3
    omega

theorem set_f {P W A e : Int} (hq : Okq P W A) (he : 0 ≤ e ∧ e ≤ 18446744073709551615) (k : Nat) (hk : 8 ≤ k) : quorum_Set.f k P W A e = some (setL P W e) := by
  unfold quorum_Set.f
  rw [check_yes hq]
  simp only [Option.bind_some, if_true]
  have := set_l0 hq he W.toNat k 0 [] (by obtain ⟨_, _, _, _⟩ := hq; omega) (by obtain ⟨_, _, _, _⟩ := hq; omega) (by simp)
  simp only [List.nil_append, Nat.zero_add] at this
  exact this

theorem set_no {P W A e : Int} (hq : ¬ Okq P W A) (k : Nat) : quorum_Set.f k P W A e = some [] := by
  unfold quorum_Set.f
  rw [check_no hq]
  simp

theorem setL_length (P W e : Int) : (setL P W e).length = W.toNat := by simp [setL]

theorem setL_mem {P W e p : Int} (hP : 1 ≤ P) (h : p ∈ setL P W e) : 0 ≤ p ∧ p < P := by
  obtain ⟨i, _, rfl⟩ := List.mem_map.1 h
  exact ⟨Int.emod_nonneg _ (by omega), Int.emod_lt_of_pos _ (by omega)⟩

theorem count_l0 {said : List Bool} {S : List Int} (hS : ∀ p ∈ S, 0 ≤ p ∧ p < 7) (hl : S.length ≤ 7) (d : Nat) : ∀ (k : Nat) (i : Nat) (n : Int), i + d = S.length → d < k → 0 ≤ n → n ≤ i →
    quorum_count.l0 k said n S (S.length : Int) i = some (n + (((S.drop i).countP (rdOf false said) : Nat) : Int)) := by
  induction d with
  | zero =>
    intro k i n h hk h0 h1
    obtain ⟨k, rfl⟩ : ∃ m, k = m + 1 := ⟨k - 1, by omega⟩
    simp only [quorum_count.l0]; rw [if_neg (by omega), List.drop_eq_nil_of_le (by omega)]; simp
  | succ d ih =>
    intro k i n h hk h0 h1
    obtain ⟨k, rfl⟩ : ∃ m, k = m + 1 := ⟨k - 1, by omega⟩
    have hi : i < S.length := by omega
    have hr : rd S (i : Int) = S[i] := by simp [rd, List.getD_eq_getElem?_getD, List.getElem?_eq_getElem hi]
    have hp := hS S[i] (List.getElem_mem hi)
    have hd : S.drop i = S[i] :: S.drop (i + 1) := List.drop_eq_getElem_cons hi
    simp only [quorum_count.l0]
    rw [if_pos (by omega), if_pos (by omega), if_pos (by omega), hr, hd, List.countP_cons, wrap64_in ((i : Int) + 1) (by omega), wrap64_in (n + 1) (by omega), show ((i : Int) + 1) = ((i + 1 : Nat) : Int) by omega]
    by_cases hlt : S[i] < (said.length : Int)
    · rw [if_pos hlt, if_pos hp.1]
      by_cases hs : rdOf false said S[i] = true
      · rw [if_pos hs, ih k (i + 1) (n + 1) (by omega) (by omega) (by omega) (by omega), if_pos hs]
        congr 1; omega
      · rw [if_neg hs, ih k (i + 1) n (by omega) (by omega) (by omega) (by omega), if_neg hs]
        congr 1
    · have hs : ¬ rdOf false said S[i] = true := by
        simp [rdOf, List.getD_eq_getElem?_getD, List.getElem?_eq_none (l := said) (i := S[i].toNat) (by omega)]
      rw [if_neg hlt, ih k (i + 1) n (by omega) (by omega) (by omega) (by omega), if_neg hs]
      congr 1

theorem count_f {P W A e : Int} (hq : Okq P W A) (he : 0 ≤ e ∧ e ≤ 18446744073709551615) (said : List Bool) (k : Nat) (hk : 9 ≤ k) : quorum_count.f k P W A e said = some (cnt P W e said) := by
  unfold quorum_count.f
  rw [set_f hq he k (by omega)]
  simp only [Option.bind_some]
  obtain ⟨q1, q2, q3, q4⟩ := hq
  have hl := setL_length P W e
  have := count_l0 (said := said) (S := setL P W e) (fun p hp => by have := setL_mem (by omega) hp; omega) (by omega) (setL P W e).length k 0 0 (by omega) (by omega) (by omega) (by omega)
  rw [show ((0 : Nat) : Int) = 0 from rfl] at this
  rw [this]
  simp [cnt]

def cov (P W A : Int) (heard : List Bool) : Bool := (List.range P.toNat).all fun i => decide (W - A < cnt P W (i : Int) heard)

theorem cov_l0 {P W A : Int} (hq : Okq P W A) (heard : List Bool) (d : Nat) : ∀ (k : Nat) (i : Nat), (i : Int) + d = P → d + 10 ≤ k →
    quorum_Covered.l0 k heard P i P W A = some ((List.range d).all fun j => decide (W - A < cnt P W ((i + j : Nat) : Int) heard)) := by
  have hq' := hq
  obtain ⟨q1, q2, q3, q4⟩ := hq'
  induction d with
  | zero =>
    intro k i h hk
    obtain ⟨k, rfl⟩ : ∃ m, k = m + 1 := ⟨k - 1, by omega⟩
    simp only [quorum_Covered.l0]; rw [if_neg (by omega)]; simp
  | succ d ih =>
    intro k i h hk
    obtain ⟨k, rfl⟩ : ∃ m, k = m + 1 := ⟨k - 1, by omega⟩
    simp only [quorum_Covered.l0]
    rw [if_pos (by omega), u64_in _ (by omega), count_f hq (by omega) heard k (by omega), wrap64_in (W - A) (by omega), wrap64_in ((i : Int) + 1) (by omega)]
    simp only [Option.bind_some]
    rw [List.range_succ_eq_map, List.all_cons, List.all_map]
    by_cases hc : cnt P W (i : Int) heard ≤ W - A
    · rw [if_pos hc]
      have : ¬ (W - A < cnt P W (i : Int) heard) := by omega
      simp [this]
    · rw [if_neg hc, show ((i : Int) + 1) = ((i + 1 : Nat) : Int) by omega, ih k (i + 1) (by omega) (by omega)]
      have : W - A < cnt P W (i : Int) heard := by omega
      simp only [Nat.add_zero, this, decide_true, Bool.true_and]
      congr 2
      funext j
      simp only [Function.comp, Nat.succ_eq_add_one]
      rw [show i + 1 + j = i + (j + 1) by omega]

theorem cov_f {P W A : Int} (hq : Okq P W A) (heard : List Bool) (k : Nat) (hk : 17 ≤ k) : quorum_Covered.f k P W A heard = some (cov P W A heard) := by
  unfold quorum_Covered.f
  rw [check_yes hq]
  simp only [Option.bind_some, if_true]
  have hq' := hq
  obtain ⟨q1, q2, q3, q4⟩ := hq'
  have := cov_l0 hq heard P.toNat k 0 (by omega) (by omega)
  simp only [Nat.zero_add] at this
  exact this

theorem enough_f {P W A e : Int} (hq : Okq P W A) (he : 0 ≤ e ∧ e ≤ 18446744073709551615) (said : List Bool) (k : Nat) (hk : 9 ≤ k) : quorum_Enough.f k P W A e said = some (decide (A ≤ cnt P W e said)) := by
  unfold quorum_Enough.f
  rw [check_yes hq]
  simp only [Option.bind_some, if_true]
  rw [count_f hq he said k hk]
  simp

theorem rdOf_set (xs : List Bool) (i : Nat) (v : Bool) (p : Int) : rdOf false (xs.set i v) p = if p.toNat = i ∧ i < xs.length then v else rdOf false xs p := by
  unfold rdOf
  rw [List.getD_eq_getElem?_getD, List.getD_eq_getElem?_getD, List.getElem?_set]
  by_cases h : i = p.toNat
  · subst h
    by_cases h2 : p.toNat < xs.length
    · simp [h2]
    · simp [h2]
  · rw [if_neg h, if_neg (by omega)]

theorem bit_of (b i : Int) (h : 0 ≤ b ∧ b ≤ 255) : Go.bits .and .u8 (shr .u8 b i) 1 = 0 ∨ Go.bits .and .u8 (shr .u8 b i) 1 = 1 := by
  have hs : 0 ≤ shr .u8 b i ∧ shr .u8 b i < 256 := by
    unfold shr
    have h2 : (0 : Int) < 2 ^ min i.toNat IntKind.u8.bits := Int.pow_pos (by omega)
    exact ⟨Int.ediv_nonneg h.1 (by omega), by have := Int.ediv_le_self (2 ^ min i.toNat IntKind.u8.bits) h.1; omega⟩
  rw [u8_and _ _ hs.1 hs.2 (by omega) (by omega)]
  rw [show (1 : Int).toNat = 1 from rfl, Nat.and_one_is_mod]
  omega

theorem disj_count {α : Type} (p q : α → Bool) (l : List α) (h : ∀ x ∈ l, ¬ (p x = true ∧ q x = true)) : l.countP p + l.countP q ≤ l.length := by
  induction l with
  | nil => simp
  | cons a l ih =>
    have h1 := ih fun x hx => h x (List.mem_cons_of_mem _ hx)
    have h2 := h a List.mem_cons_self
    rw [List.countP_cons, List.countP_cons, List.length_cons]
    by_cases e1 : p a = true <;> by_cases e2 : q a = true <;> simp [e1, e2] <;> first | omega | exact absurd ⟨e1, e2⟩ h2

theorem compl_count {α : Type} (p q : α → Bool) (l : List α) (h : ∀ x ∈ l, q x = !p x) : l.countP p + l.countP q = l.length := by
  induction l with
  | nil => simp
  | cons a l ih =>
    have h1 := ih fun x hx => h x (List.mem_cons_of_mem _ hx)
    have h2 := h a List.mem_cons_self
    rw [List.countP_cons, List.countP_cons, List.length_cons, h2]
    cases p a <;> simp <;> omega

theorem setL_mod (P W e : Int) : setL P W (e % P) = setL P W e := by
  unfold setL
  apply List.map_congr_left
  intro i _
  rw [Int.emod_add_emod]

theorem cov_at {P W A e : Int} {heard : List Bool} (hP : 1 ≤ P) (h : cov P W A heard = true) : W - A < cnt P W e heard := by
  unfold cov at h
  rw [List.all_eq_true] at h
  have h1 : 0 ≤ e % P := Int.emod_nonneg _ (by omega)
  have h2 : e % P < P := Int.emod_lt_of_pos _ (by omega)
  have := h (e % P).toNat (List.mem_range.2 (by omega))
  rw [show (((e % P).toNat : Nat) : Int) = e % P by omega] at this
  simp only [decide_eq_true_eq] at this
  unfold cnt at this ⊢
  rw [setL_mod] at this
  exact this


theorem awake (k : Nat) (hk : 40 ≤ k) : mailcoachlaw10_Awake.f k = some true :=
  at_rounds mailcoachlaw10_Awake.mono hk (by decide +kernel)

theorem quorum_f (n : Int) (h : 0 ≤ n ∧ n ≤ 65535) : ∃ P W A, mailcoachlaw10_Quorum.f n = some (P, W, A) ∧ Okq P W A := by
  have a1 : wrap64 (Int.tmod n 7) = n % 7 := by rw [Int.tmod_eq_emod_of_nonneg (by omega)]; exact wrap64_in _ (by omega)
  have a2 : wrap64 (1 + n % 7) = 1 + n % 7 := wrap64_in _ (by omega)
  have a3 : wrap64 (IntKind.u16.wrap (Int.tdiv n 7)) = n / 7 := by
    rw [Int.tdiv_eq_ediv_of_nonneg (by omega), u16_in _ (by omega)]; exact wrap64_in _ (by omega)
  have a4 : wrap64 (IntKind.u16.wrap (Int.tdiv n 49)) = n / 49 := by
    rw [Int.tdiv_eq_ediv_of_nonneg (by omega), u16_in _ (by omega)]; exact wrap64_in _ (by omega)
  have b1 : 0 ≤ (n / 7) % (1 + n % 7) := Int.emod_nonneg _ (by omega)
  have b2 : (n / 7) % (1 + n % 7) < 1 + n % 7 := Int.emod_lt_of_pos _ (by omega)
  have a5 : wrap64 (1 + Int.tmod (n / 7) (1 + n % 7)) = 1 + (n / 7) % (1 + n % 7) := by
    rw [Int.tmod_eq_emod_of_nonneg (by omega)]; exact wrap64_in _ (by omega)
  have c1 : 0 ≤ (n / 49) % (1 + (n / 7) % (1 + n % 7)) := Int.emod_nonneg _ (by omega)
  have c2 : (n / 49) % (1 + (n / 7) % (1 + n % 7)) < 1 + (n / 7) % (1 + n % 7) := Int.emod_lt_of_pos _ (by omega)
  have a6 : wrap64 (1 + Int.tmod (n / 49) (1 + (n / 7) % (1 + n % 7))) = 1 + (n / 49) % (1 + (n / 7) % (1 + n % 7)) := by
    rw [Int.tmod_eq_emod_of_nonneg (by omega)]; exact wrap64_in _ (by omega)
  unfold mailcoachlaw10_Quorum.f
  rw [a1, a2, a3, a4, a5, a6, if_neg (by omega), if_neg (by omega)]
  exact ⟨_, _, _, rfl, by unfold Okq; omega⟩

theorem u16_of {n : Int} (h : (Lit.int .u16 n).wf = true) : 0 ≤ n ∧ n ≤ 65535 := by
  simpa [Lit.wf, IntKind.min, IntKind.max, IntKind.signed, IntKind.bits] using h
theorem u64_of {n : Int} (h : (Lit.int .u64 n).wf = true) : 0 ≤ n ∧ n ≤ 18446744073709551615 := by
  simpa [Lit.wf, IntKind.min, IntKind.max, IntKind.signed, IntKind.bits] using h
theorem u8_of {n : Int} (h : (Lit.int .u8 n).wf = true) : 0 ≤ n ∧ n ≤ 255 := by
  simpa [Lit.wf, IntKind.min, IntKind.max, IntKind.signed, IntKind.bits] using h

end Q10
end Go.Proofs.Ytcjndpmknachhaa.Pure

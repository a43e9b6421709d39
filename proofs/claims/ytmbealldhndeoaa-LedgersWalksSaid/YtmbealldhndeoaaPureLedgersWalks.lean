/- LedgersWalks: from place to place all entries are met, rising, as many as there are between the ends. It holds for all arguments, without further conditions. -/
import Derived.Test.YtmbealldhndeoaaLLedgersWalks
import Derived.Test.YtmbealldhndeoaaOkLedgersWalks
namespace Go.Proofs.Ytmbealldhndeoaa.Pure
open Go.Proofs.Ytmbealldhndeoaa.OkLedgersWalks Go.RowKit Go.IntWalk Go.Proofs.Ytmbealldhndeoaa.PLedgersWalks Go.Proofs.YtmbealldhndeoaaW.PrintWords Go.Proofs.YtmbealldhndeoaaW.PrintLast Go.Proofs.YtmbealldhndeoaaW.PrintMore
set_option linter.unusedVariables false

namespace L13
theorem size2_f (x : S32) (o : Int) : mailcoachref13_Size.f x.f0 x.f1 x.f2 o = some (szM x o) := by
  unfold mailcoachref13_Size.f szM; split <;> rfl

def sumS (o : Int) : List S32 → Int
  | [] => 0
  | x :: l => szM x o + sumS o l

theorem total_l0 {l : List S32} {o : Int} (hl : l.length ≤ 64) (hs : ∀ x ∈ l, 0 ≤ szM x o ∧ szM x o ≤ 18446744073709551615) (d : Nat) : ∀ (k : Nat) (i : Nat) (n : Int), i + d = l.length → d < k → 0 ≤ n → n ≤ 1000 →
    ∃ t, mailcoachref13_Total.l0 k l o n i = some t ∧ (t ≤ 1000 → n + sumS o (l.drop i) ≤ 1000 ∧ ∀ x ∈ l.drop i, szM x o ≤ 1000) := by
  induction d with
  | zero =>
    intro k i n h hk h0 h1
    obtain ⟨k, rfl⟩ : ∃ m, k = m + 1 := ⟨k - 1, by omega⟩
    refine ⟨n, ?_, ?_⟩
    · simp only [mailcoachref13_Total.l0]; rw [if_neg (by omega)]
    · intro _; rw [List.drop_eq_nil_of_le (by omega)]; simp [sumS]; omega
  | succ d ih =>
    intro k i n h hk h0 h1
    obtain ⟨k, rfl⟩ : ∃ m, k = m + 1 := ⟨k - 1, by omega⟩
    have hi : i < l.length := by omega
    have hd : l.drop i = l[i] :: l.drop (i + 1) := List.drop_eq_getElem_cons hi
    have hx := hs l[i] (List.getElem_mem hi)
    simp only [mailcoachref13_Total.l0]
    rw [if_pos (by omega), if_pos (by omega), rd_at l i hi, size2_f, wrap64_in ((i : Int) + 1) (by omega), show ((i : Int) + 1) = ((i + 1 : Nat) : Int) by omega]
    simp only [Option.bind_some]
    by_cases a1 : szM l[i] o > 1000
    · rw [if_pos a1]; exact ⟨1001, rfl, fun h => by omega⟩
    · rw [if_neg a1, u64_in _ (by omega)]
      by_cases a2 : n + szM l[i] o > 1000
      · rw [if_pos a2]; exact ⟨1001, rfl, fun h => by omega⟩
      · rw [if_neg a2]
        obtain ⟨t, h2, h3⟩ := ih k (i + 1) (n + szM l[i] o) (by omega) (by omega) (by omega) (by omega)
        refine ⟨t, h2, fun ht => ?_⟩
        obtain ⟨h4, h5⟩ := h3 ht
        rw [hd]
        simp only [sumS, List.mem_cons]
        refine ⟨by omega, fun x hx => ?_⟩
        rcases hx with rfl | hx
        · omega
        · exact h5 x hx

theorem sumE_le {o pl pe : Int} (hp : 0 ≤ pe) : ∀ (l : List S32), (∀ x ∈ l, 0 ≤ szM x o) → sumE o pl pe l ≤ sumS o l
  | [], _ => by simp [sumE, sumS]
  | x :: l, h => by
    have := sumE_le (pl := pl) hp l fun y hy => h y (List.mem_cons_of_mem _ hy)
    have hx := h x List.mem_cons_self
    have ha := atM_bd (pl := pl) (id := x.f0) hp
    simp only [sumE, sumS]
    unfold conE
    split <;> omega

theorem walk_l0 {l : List S32} {o f0 f1 : Int} (hl : l.length ≤ 64) (hr : Rising l) (hs : ∀ x ∈ l, Sm o 1000 x) (hf : 0 ≤ f1) (hS : sumE o f0 f1 l ≤ 1000) (d : Nat) : ∀ (k : Nat) (n p0 p1 : Int), sumE o p0 p1 l = d → n + d = sumE o f0 f1 l → 0 ≤ n → d + 100 ≤ k → 0 ≤ p1 →
    mailcoachlaw13_LedgersWalks.l0 k l o n f0 f1 p0 p1 = some true := by
  have hs' : ∀ x ∈ l, 0 ≤ szM x o ∧ szM x o ≤ 1099511627776 := fun x hx => by have := (hs x hx).2; omega
  have last : ∀ (k : Nat) (n p0 p1 : Int), sumE o p0 p1 l = 0 → n = sumE o f0 f1 l → 90 ≤ k → (nextM o p0 p1 0 0 l).2.2 = false → mailcoachlaw13_LedgersWalks.l0 (k + 1) l o n f0 f1 p0 p1 = some true := by
    intro k n p0 p1 h0 hn hk hq
    simp only [mailcoachlaw13_LedgersWalks.l0]
    rw [next_f (by omega) k (by omega)]
    simp only [Option.bind_some]
    rw [hq, if_neg (by decide), between_f' hl hs' hf (by omega) k (by omega)]
    simp only [Option.bind_some]
    rw [sumB_end (B := 1000) (by omega) l hs, hn]
    simp
  induction d with
  | zero =>
    intro k n p0 p1 h0 hn hn0 hk hp
    obtain ⟨k, rfl⟩ : ∃ m, k = m + 1 := ⟨k - 1, by omega⟩
    refine last k n p0 p1 (by omega) (by omega) (by omega) ?_
    obtain ⟨a, b, c, hnx⟩ : ∃ a b c, nextM o p0 p1 0 0 l = (a, b, c) := ⟨_, _, _, rfl⟩
    cases c with
    | false => rw [hnx]
    | true =>
      have := (next_true (B := 1000) (by omega) hp l 0 0 a b hr hs hnx).2.2.2.2.2.2.1
      have h2 := sumE_nonneg (o := o) (pl := a) (pe := b + 1) l
      omega
  | succ d ih =>
    intro k n p0 p1 h0 hn hn0 hk hp
    obtain ⟨k, rfl⟩ : ∃ m, k = m + 1 := ⟨k - 1, by omega⟩
    obtain ⟨a, b, c, hnx⟩ : ∃ a b c, nextM o p0 p1 0 0 l = (a, b, c) := ⟨_, _, _, rfl⟩
    cases c with
    | false =>
      have := next_none l 0 0 a b hnx
      omega
    | true =>
      obtain ⟨⟨y, hy, hya, hyb⟩, h2, h3, h4, h5, h6, h7, h8⟩ := next_true (B := 1000) (by omega) hp l 0 0 a b hr hs hnx
      have hya2 := (hs y hy).1
      simp only [mailcoachlaw13_LedgersWalks.l0]
      rw [next_f (by omega) k (by omega), hnx]
      simp only [Option.bind_some]
      rw [if_pos trivial, order_f _ _ _ _ k (by omega)]
      simp only [Option.bind_some]
      have ho : ¬ ordM a b p0 p1 < 0 := by
        unfold ordM cmpM
        rcases Int.lt_or_eq_of_le h2 with h9 | h9
        · rw [if_neg (by rw [if_neg (by omega), if_pos (by omega)]; omega), if_neg (by omega), if_pos (by omega)]; omega
        · have := h3 h9
          subst h9; subst this
          simp
      rw [if_neg ho, has_f (by omega) k (by omega)]
      simp only [Option.bind_some]
      have hh : hasM o a b l = true := by unfold hasM; rw [h8]; simp
      rw [if_pos hh, behind_f (by omega)]
      simp only [Option.bind_some]
      rw [u64_in _ (by omega)]
      exact ih k (n + 1) a (b + 1) (by omega) (by omega) (by omega) (by omega) (by omega)
end L13

theorem LedgersWalks : ∀ (l0 : List S32) (a1 : Int) (a2 : S36), ((∀ y ∈ l0, ok32 y) ∧ (l0).length ≤ maxLen ∧ (l0).length * Try.prog.bytesOf 32 ≤ 140737488351232) → (Lit.int .u64 a1).wf = true → ok36 a2 → ∃ k, mailcoachlaw13_LedgersWalks.f k l0 a1 a2.f0 a2.f1 = some true := by
  intro l o p hl ho hp
  have ho' := L13.u64_of ho
  have hp' := L13.u64_of hp.2
  refine ⟨1201, ?_⟩
  unfold mailcoachlaw13_LedgersWalks.f
  rw [L13.awake 1201 (by omega)]
  simp only [Option.bind_some, if_true]
  rw [L13.right_f l 1201 (by omega)]
  simp only [Option.bind_some]
  by_cases hr : L13.rightM l = true
  · rw [if_pos hr]
    have hlen := L13.right_len hr
    have hsz : ∀ x ∈ l, 0 ≤ L13.szM x o ∧ L13.szM x o ≤ 18446744073709551615 := fun x hx => by
      have := L13.u64_of (hl.1 x hx).2.2
      unfold L13.szM; split <;> omega
    obtain ⟨t, ht, ht2⟩ := L13.total_l0 hlen hsz l.length 1201 0 0 (by omega) (by omega) (by omega) (by omega)
    unfold mailcoachref13_Total.f
    rw [show ((0 : Nat) : Int) = 0 from rfl] at ht
    rw [ht]
    simp only [Option.bind_some, mailcoachlaw13_LedgersWalks.j0]
    by_cases h1 : t > 1000
    · rw [if_pos (by simp [h1])]
    · rw [if_neg (by simp [h1])]
      obtain ⟨h2, h3⟩ := ht2 (by omega)
      rw [List.drop_zero] at h2 h3
      have hE := L13.sumE_le (o := o) (pl := p.f0) hp'.1 l fun x hx => (hsz x hx).1
      have hE0 := L13.sumE_nonneg (o := o) (pl := p.f0) (pe := p.f1) l
      exact L13.walk_l0 hlen (L13.right_rising hr) (fun x hx => ⟨L13.u64_of (hl.1 x hx).1, (hsz x hx).1, h3 x hx⟩) hp'.1 (by omega) (L13.sumE o p.f0 p.f1 l).toNat 1200 0 p.f0 p.f1 (by omega) (by omega) (by omega) (by omega) hp'.1
  · rw [if_neg hr]; simp [mailcoachlaw13_LedgersWalks.j0]

end Go.Proofs.Ytmbealldhndeoaa.Pure

/- RangesChecks: any ranges are checked as the reference checks them; of right ones it tells what is in, how many, where the gap is. It holds for all arguments, without further conditions. -/
import Derived.Test.YtehhpcijhclkfaaLRangesChecks
import Derived.Test.YtehhpcijhclkfaaOkRangesChecks
namespace Go.Proofs.Ytehhpcijhclkfaa.Pure
open Go.Proofs.Ytehhpcijhclkfaa.OkRangesChecks Go.RowKit Go.IntWalk Go.Proofs.Ytehhpcijhclkfaa.PRangesChecks Go.Proofs.YtehhpcijhclkfaaW.PrintWords Go.Proofs.YtehhpcijhclkfaaW.PrintLast Go.Proofs.YtehhpcijhclkfaaW.PrintMore
set_option linter.unusedVariables false

namespace L03
theorem check_l0 {l : List S25} (hl : l.length ≤ 1000) (d : Nat) : ∀ (k i : Nat), i + d = l.length → d < k → ranges_Check.l0 k l l l.length i = mailcoachref03_Right.l0 k l i ∧ ∃ b, mailcoachref03_Right.l0 k l i = some b := by
  induction d with
  | zero =>
    intro k i h hk
    obtain ⟨k, rfl⟩ : ∃ m, k = m + 1 := ⟨k - 1, by omega⟩
    rw [ranges_Check.l0, if_neg (by omega), mailcoachref03_Right.l0, if_neg (by omega)]
    exact ⟨rfl, _, rfl⟩
  | succ d ih =>
    intro k i h hk
    obtain ⟨k, rfl⟩ : ∃ m, k = m + 1 := ⟨k - 1, by omega⟩
    have hi' : i < l.length := by omega
    obtain ⟨e, b, hb⟩ := ih k (i + 1) (by omega) (by omega)
    have u1 : (i : Int) < (l.length : Int) := by omega
    have u2 : 0 ≤ (i : Int) := by omega
    rw [ranges_Check.l0, mailcoachref03_Right.l0, rd_at l i hi', wrap64_in ((i : Int) + 1) (by omega), show ((i : Int) + 1) = ((i + 1 : Nat) : Int) by omega, e, hb]
    simp only [u1, u2, if_true]
    refine ⟨trivial, ?_⟩
    by_cases c1 : l[i].f0 ≥ l[i].f1
    · rw [if_pos c1]; exact ⟨_, rfl⟩
    · rw [if_neg c1]
      by_cases c2 : (i : Int) > 0
      · have u3 : 0 ≤ (i : Int) - 1 := by omega
        have u4 : (i : Int) - 1 < (l.length : Int) := by omega
        rw [if_pos c2, wrap64_in ((i : Int) - 1) (by omega)]
        simp only [u3, u4, if_true]
        split <;> exact ⟨_, rfl⟩
      · rw [if_neg c2]; exact ⟨_, rfl⟩
theorem check_f {l : List S25} (hl : l.length ≤ 1000) (k : Nat) (hk : 1001 ≤ k) : ranges_Check.f k l = mailcoachref03_Right.f k l ∧ ∃ b, mailcoachref03_Right.f k l = some b := by
  unfold ranges_Check.f mailcoachref03_Right.f
  have := check_l0 hl l.length k 0 (by omega) (by omega)
  rwa [show ((0 : Nat) : Int) = 0 from rfl] at this
theorem can_next : ∀ {l : List S25} {b : Int}, Can b l → ∀ (i : Nat) (hi : i + 1 < l.length), (l[i]'(by omega)).f1 < l[i + 1].f0
  | [], _, _, _, hi => absurd hi (by simp)
  | [x], _, _, _, hi => absurd hi (by simp)
  | x :: y :: t, b, hc, 0, _ => hc.2.2.1
  | x :: y :: t, b, hc, i + 1, hi => by
    simp only [List.getElem_cons_succ]
    exact can_next (l := y :: t) hc.2.2 i (by simpa using hi)
theorem check_good_l0 {l : List S25} (hg : Good l) (hl : l.length ≤ 1000) (d : Nat) : ∀ (k i : Nat), i + d = l.length → d < k → ranges_Check.l0 k l l l.length i = some true := by
  induction d with
  | zero =>
    intro k i h hk
    obtain ⟨k, rfl⟩ : ∃ m, k = m + 1 := ⟨k - 1, by omega⟩
    rw [ranges_Check.l0, if_neg (by omega)]
  | succ d ih =>
    intro k i h hk
    obtain ⟨k, rfl⟩ : ∃ m, k = m + 1 := ⟨k - 1, by omega⟩
    have hi' : i < l.length := by omega
    have hx := good_mem hg l[i] (List.getElem_mem hi')
    rw [ranges_Check.l0, if_pos (by omega), if_pos (by omega), if_pos (by omega), rd_at l i hi', wrap64_in ((i : Int) + 1) (by omega), show ((i : Int) + 1) = ((i + 1 : Nat) : Int) by omega, ih k (i + 1) (by omega) (by omega), if_neg (by omega)]
    by_cases c2 : (i : Int) > 0
    · rw [if_pos c2, wrap64_in ((i : Int) - 1) (by omega), if_pos (by omega), if_pos (by omega), show ((i : Int) - 1) = ((i - 1 : Nat) : Int) by omega, rd_at l (i - 1) (by omega)]
      have h1 := can_next hg.1 (i - 1) (by omega)
      have h2 : l[i - 1 + 1]'(by omega) = l[i] := by congr 1; omega
      rw [h2] at h1
      rw [if_neg (by omega)]
    · rw [if_neg c2]
theorem check_good {l : List S25} (hg : Good l) (hl : l.length ≤ 1000) (k : Nat) (hk : 1001 ≤ k) : ranges_Check.f k l = some true := by
  unfold ranges_Check.f
  exact check_good_l0 hg hl l.length k 0 (by omega) (by omega)
theorem rcount_l0 {l : List S25} (hg : Good l) (hl : l.length ≤ 1000) (d : Nat) : ∀ (k i : Nat) (s : Int), i + d = l.length → d < k → 0 ≤ s → s ≤ 18446744073709551615 → mailcoachref03_Count.l0 k l s i = ranges_Count.l0 k s l l.length i := by
  induction d with
  | zero =>
    intro k i s h hk h0 h1
    obtain ⟨k, rfl⟩ : ∃ m, k = m + 1 := ⟨k - 1, by omega⟩
    rw [ranges_Count.l0, if_neg (by omega), mailcoachref03_Count.l0, if_neg (by omega)]
  | succ d ih =>
    intro k i s h hk h0 h1
    obtain ⟨k, rfl⟩ : ∃ m, k = m + 1 := ⟨k - 1, by omega⟩
    have hi' : i < l.length := by omega
    have hx := good_mem hg l[i] (List.getElem_mem hi')
    have e : IntKind.u64.wrap (IntKind.u64.wrap (s + l[i].f1) - l[i].f0) = IntKind.u64.wrap (s + IntKind.u64.wrap (l[i].f1 - l[i].f0)) := by
      simp only [IntKind.wrap, IntKind.bits, IntKind.signed]
      simp
      omega
    have hw : 0 ≤ IntKind.u64.wrap (s + IntKind.u64.wrap (l[i].f1 - l[i].f0)) ∧ IntKind.u64.wrap (s + IntKind.u64.wrap (l[i].f1 - l[i].f0)) ≤ 18446744073709551615 := by
      simp only [IntKind.wrap, IntKind.bits, IntKind.signed]
      simp
      omega
    rw [ranges_Count.l0, if_pos (by omega), if_pos (by omega), if_pos (by omega), mailcoachref03_Count.l0, if_pos (by omega), if_pos (by omega), rd_at l i hi', e, wrap64_in ((i : Int) + 1) (by omega), show ((i : Int) + 1) = ((i + 1 : Nat) : Int) by omega]
    exact ih k (i + 1) _ (by omega) (by omega) hw.1 hw.2
theorem rcount_f {l : List S25} (hg : Good l) (hl : l.length ≤ 1000) (k : Nat) (hk : 1001 ≤ k) : mailcoachref03_Count.f k l = some (sumM l) := by
  rw [← (count_f hg hl k hk).1]
  unfold mailcoachref03_Count.f ranges_Count.f
  exact rcount_l0 hg hl l.length k 0 0 (by omega) (by omega) (by omega) (by omega)
theorem rgap_l1 {l : List S25} {p : Int} (hl : l.length ≤ 1000) (d : Nat) : ∀ (k i : Nat) (g : Int), i + d = l.length → mailcoachref03_Gap.l1 (k + d + 1) l g p i = mailcoachref03_Gap.l0 k l (gapM g (l.drop i)) (wrap64 (p + 1)) := by
  induction d with
  | zero =>
    intro k i g h
    rw [mailcoachref03_Gap.l1, if_neg (by omega), List.drop_eq_nil_of_le (by omega)]; rfl
  | succ d ih =>
    intro k i g h
    have hi' : i < l.length := by omega
    have hd : l.drop i = l[i] :: l.drop (i + 1) := List.drop_eq_getElem_cons hi'
    rw [show k + (d + 1) + 1 = (k + d + 1) + 1 by omega, mailcoachref03_Gap.l1, if_pos (by omega), if_pos (by omega), rd_at l i hi', wrap64_in _ (by omega), show ((i : Int) + 1) = ((i + 1 : Nat) : Int) by omega, ih k (i + 1) _ (by omega), ih k (i + 1) _ (by omega), hd, gapM]
    by_cases c1 : l[i].f0 ≤ g <;> by_cases c2 : g < l[i].f1 <;> simp [c1, c2]
theorem rgap_l0 {l : List S25} (hg : Good l) (hl : l.length ≤ 100) (d : Nat) : ∀ (k p : Nat) (g : Int), p + d = l.length + 1 → 103 * d + 1 < k → ¬ InP l g → mailcoachref03_Gap.l0 k l g p = some g := by
  induction d with
  | zero =>
    intro k p g h hk hn
    obtain ⟨k, rfl⟩ : ∃ m, k = m + 1 := ⟨k - 1, by omega⟩
    rw [mailcoachref03_Gap.l0, if_neg (by omega)]
  | succ d ih =>
    intro k p g h hk hn
    obtain ⟨k, rfl⟩ : ∃ m, k = (m + l.length + 1) + 1 := ⟨k - l.length - 2, by omega⟩
    have := rgap_l1 (p := (p : Int)) hl' l.length k 0 g (by omega)
    rw [mailcoachref03_Gap.l0, if_pos (by omega), show (0 : Int) = ((0 : Nat) : Int) from rfl, this, List.drop_zero, gap_out l g hn, wrap64_in _ (by omega), show ((p : Int) + 1) = ((p + 1 : Nat) : Int) by omega]
    exact ih k (p + 1) g (by omega) (by omega) hn
where hl' : l.length ≤ 1000 := by omega
theorem rgap_f {l : List S25} {n : Int} (hg : Good l) (hl : l.length ≤ 100) (k : Nat) (hk : 10600 ≤ k) : mailcoachref03_Gap.f k l n = some (gapM n l) := by
  unfold mailcoachref03_Gap.f
  obtain ⟨k, rfl⟩ : ∃ m, k = (m + l.length + 1) + 1 := ⟨k - l.length - 2, by omega⟩
  have := rgap_l1 (l := l) (p := 0) (by omega) l.length k 0 n (by omega)
  rw [show ((0 : Nat) : Int) = 0 from rfl] at this
  rw [mailcoachref03_Gap.l0, if_pos (by omega), this, List.drop_zero, show wrap64 ((0 : Int) + 1) = ((1 : Nat) : Int) by rw [wrap64_in _ (by omega)]; rfl]
  have h2 : 103 * l.length ≤ 10300 := by omega
  exact rgap_l0 hg hl l.length k 1 _ (by omega) (by omega) (gap_spec l (-1) n hg.1).1
end L03

theorem RangesChecks : ∀ (l0 : List S25) (a1 : Int), ((∀ y ∈ l0, ok25 y) ∧ (l0).length ≤ maxLen ∧ (l0).length * Try.prog.bytesOf 25 ≤ 140737488351232) → (Lit.int .u64 a1).wf = true → ∃ k, mailcoachlaw03_RangesChecks.f k l0 a1 = some true := by
  intro l n hl hn
  have hb : Try.prog.bytesOf 25 = 16 := by kernel_rfl
  have hl3 : l.length ≤ 8796093022208 := by have := hl.2.2; rw [hb] at this; omega
  obtain ⟨x, x1, x2, x3⟩ := L03.right_f hl3 (fun z hz => ⟨(L03.u64_of (hl.1 z hz).1).1, L03.u64_of (hl.1 z hz).2⟩) 12000 (by omega)
  refine ⟨12000, ?_⟩
  unfold mailcoachlaw03_RangesChecks.f
  rw [L03.awake 12000 (by omega)]
  simp only [Option.bind_some, if_true]
  by_cases h : (l.length : Int) > 100
  · rw [if_pos h]
  · rw [if_neg h, x1, Option.bind_some]
    obtain ⟨c1, b, c2⟩ := L03.check_f (l := l) (by omega) 12000 (by omega)
    rw [c1, c2]
    simp only [Option.bind_some, beq_self_eq_true, if_true]
    rw [L03.check_good x2 (by omega) 12000 (by omega)]
    simp only [Option.bind_some, if_true]
    rw [L03.has_f x2 (by omega) 12000 (by omega), L03.in_f (by omega) 12000 (by omega)]
    simp only [Option.bind_some, beq_self_eq_true, if_true]
    rw [(L03.count_f x2 (by omega) 12000 (by omega)).1, L03.rcount_f x2 (by omega) 12000 (by omega)]
    simp only [Option.bind_some, if_true]
    rw [L03.gap_f (by omega) 12000 (by omega), L03.rgap_f x2 (by omega) 12000 (by omega)]
    simp only [Option.bind_some, beq_self_eq_true]

end Go.Proofs.Ytehhpcijhclkfaa.Pure

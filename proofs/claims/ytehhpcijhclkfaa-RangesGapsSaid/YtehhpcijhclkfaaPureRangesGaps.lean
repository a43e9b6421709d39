/- RangesGaps: from a gap on backwards all is in, the gap isn't; with the gap in, the count is one more. It holds for all arguments, without further conditions. -/
import Derived.Test.YtehhpcijhclkfaaLRangesGaps
import Derived.Test.YtehhpcijhclkfaaOkRangesGaps
namespace Go.Proofs.Ytehhpcijhclkfaa.Pure
open Go.Proofs.Ytehhpcijhclkfaa.OkRangesGaps Go.RowKit Go.IntWalk Go.Proofs.Ytehhpcijhclkfaa.PRangesGaps Go.Proofs.YtehhpcijhclkfaaW.PrintWords Go.Proofs.YtehhpcijhclkfaaW.PrintLast Go.Proofs.YtehhpcijhclkfaaW.PrintMore
set_option linter.unusedVariables false

theorem RangesGaps : ∀ (l0 : List S25) (a1 : Int), ((∀ y ∈ l0, ok25 y) ∧ (l0).length ≤ maxLen ∧ (l0).length * Try.prog.bytesOf 25 ≤ 140737488351232) → (Lit.int .u64 a1).wf = true → ∃ k, mailcoachlaw03_RangesGaps.f k l0 a1 = some true := by
  intro l n hl hn
  have hn := L03.u64_of hn
  have hb : Try.prog.bytesOf 25 = 16 := by kernel_rfl
  have hl3 : l.length ≤ 8796093022208 := by have := hl.2.2; rw [hb] at this; omega
  obtain ⟨x, x1, x2, x3⟩ := L03.right_f hl3 (fun z hz => ⟨(L03.u64_of (hl.1 z hz).1).1, L03.u64_of (hl.1 z hz).2⟩) 3000 (by omega)
  obtain ⟨g1, g2, g3, g4⟩ := L03.gap_spec x (-1) n x2.1
  have hgU : L03.gapM n x ≤ 18446744073709551615 := by
    by_cases h : n < L03.gapM n x
    · obtain ⟨_, _, z, hz, e⟩ := g3 h
      rw [e]; exact (L03.good_mem x2 z hz).2.2
    · omega
  have hin : L03.inB x (L03.gapM n x) = false := by rw [← Bool.not_eq_true, L03.inB_iff]; exact g1
  -- what follows when the gap is as told
  have key : mailcoachlaw03_RangesGaps.j0 3000 n x (L03.gapM n x) false = some true := by
    rw [mailcoachlaw03_RangesGaps.j0, if_neg (by decide)]
    by_cases h : L03.gapM n x = 18446744073709551615
    · rw [if_pos h]
    · rw [if_neg h, u64_in (L03.gapM n x + 1) (by omega)]
      obtain ⟨y, y1, y2, y3, y4⟩ := L03.add_f (lo := L03.gapM n x) (hi := L03.gapM n x + 1) x2 (by omega) (by omega) (by omega) 2999 (by omega)
      have hs := L03.sum_add x2 y2 (by omega) (by omega) (by omega) y3 (fun m hm h => g1 (by rw [show L03.gapM n x = m by omega]; exact hm))
      have cy := L03.count_f y2 (by omega) 2999 (by omega)
      have cx := L03.count_f x2 (by omega) 2999 (by omega)
      rw [y1, Option.bind_some, cy.1, Option.bind_some, cx.1, Option.bind_some, u64_in (L03.sumM x + 1) (by omega), if_pos (by omega), L03.gap_f (by omega) 2999 (by omega), Option.bind_some]
      obtain ⟨q1, q2, q3, q4⟩ := L03.gap_spec y (-1) n y2.1
      have : L03.gapM n y > L03.gapM n x := by
        refine Int.not_le.1 fun hle => ?_
        -- every number from n up to the old gap is in, so is the gap itself
        refine q1 ((y3 _).2 ?_)
        by_cases he : L03.gapM n y = L03.gapM n x
        · exact .inr (by omega)
        · exact .inl (g4 _ q2 (by omega))
      rw [decide_eq_true this]
  refine ⟨3000, ?_⟩
  unfold mailcoachlaw03_RangesGaps.f
  rw [L03.awake 3000 (by omega)]
  simp only [Option.bind_some, if_true]
  rw [x1, Option.bind_some, L03.gap_f (by omega) 3000 (by omega), Option.bind_some, if_neg (by omega), L03.has_f x2 (by omega) 3000 (by omega), Option.bind_some, hin, if_neg (by decide)]
  by_cases h : L03.gapM n x > n
  · obtain ⟨i1, i2, z, hz, e⟩ := g3 h
    rw [if_pos h, L03.has_f x2 (by omega) 3000 (by omega), Option.bind_some, (L03.inB_iff x n).2 i1, if_pos rfl, u64_in _ (by omega), L03.has_f x2 (by omega) 3000 (by omega), Option.bind_some, (L03.inB_iff x _).2 i2]
    exact key
  · rw [if_neg h]
    exact key

end Go.Proofs.Ytehhpcijhclkfaa.Pure

/- RangesJoins: right ranges of any two lists, joined, have the numbers of both, and are the reference's. It holds for all arguments, without further conditions. -/
import Derived.Test.YtehhpcijhclkfaaLRangesJoins
import Derived.Test.YtehhpcijhclkfaaOkRangesJoins
namespace Go.Proofs.Ytehhpcijhclkfaa.Pure
open Go.Proofs.Ytehhpcijhclkfaa.OkRangesJoins Go.RowKit Go.IntWalk Go.Proofs.Ytehhpcijhclkfaa.PRangesJoins Go.Proofs.YtehhpcijhclkfaaW.PrintWords Go.Proofs.YtehhpcijhclkfaaW.PrintLast Go.Proofs.YtehhpcijhclkfaaW.PrintMore
set_option linter.unusedVariables false

theorem RangesJoins : ∀ (l0 : List S25) (l1 : List S25), ((∀ y ∈ l0, ok25 y) ∧ (l0).length ≤ maxLen ∧ (l0).length * Try.prog.bytesOf 25 ≤ 140737488351232) → ((∀ y ∈ l1, ok25 y) ∧ (l1).length ≤ maxLen ∧ (l1).length * Try.prog.bytesOf 25 ≤ 140737488351232) → ∃ k, mailcoachlaw03_RangesJoins.f k l0 l1 = some true := by
  intro l m hl hm
  have hb : Try.prog.bytesOf 25 = 16 := by kernel_rfl
  have hl3 : l.length ≤ 8796093022208 := by have := hl.2.2; rw [hb] at this; omega
  have hm3 : m.length ≤ 8796093022208 := by have := hm.2.2; rw [hb] at this; omega
  have okx : ∀ (q : List S25), (∀ y ∈ q, ok25 y) → ∀ z ∈ q, 0 ≤ z.f0 ∧ 0 ≤ z.f1 ∧ z.f1 ≤ 18446744073709551615 := fun q hq z hz => ⟨(L03.u64_of (hq z hz).1).1, L03.u64_of (hq z hz).2⟩
  obtain ⟨x, x1, x2, x3⟩ := L03.right_f hl3 (okx l hl.1) 3000 (by omega)
  obtain ⟨y, y1, y2, y3⟩ := L03.right_f hm3 (okx m hm.1) 3000 (by omega)
  obtain ⟨r, r1, r2, r3, r4⟩ := L03.join_f x2 (by omega) y2 (by omega) 3000 (by omega)
  have hxy : ∀ z ∈ x ++ y, 0 ≤ z.f0 ∧ 0 ≤ z.f1 ∧ z.f1 ≤ 18446744073709551615 := fun z hz => by
    rcases List.mem_append.1 hz with h | h
    · have := L03.good_mem x2 z h; omega
    · have := L03.good_mem y2 z h; omega
  obtain ⟨s, s1, s2, s3, s4⟩ := L03.set_f (x := x ++ y) (y := []) (by simp only [List.length_append, List.length_nil]; omega) hxy (fun z hz => absurd hz List.not_mem_nil) 3000 (by omega)
  refine ⟨3000, ?_⟩
  unfold mailcoachlaw03_RangesJoins.f
  rw [L03.awake 3000 (by omega)]
  simp only [Option.bind_some, if_true]
  rw [x1, Option.bind_some, y1, Option.bind_some, r1]
  simp only [Option.bind_some, List.length_nil, List.nil_append]
  rw [if_pos (by omega), if_pos (by omega), s1, Option.bind_some]
  have : r = s := L03.good_eq r2 s2 fun n => by
    rw [r3, s3, L03.in_app]
    exact ⟨fun h => ⟨h, L03.in_nil n⟩, fun h => h.1⟩
  subst this
  rw [L03.same_f r (by omega) 3000 (by omega)]
  rfl

end Go.Proofs.Ytehhpcijhclkfaa.Pure

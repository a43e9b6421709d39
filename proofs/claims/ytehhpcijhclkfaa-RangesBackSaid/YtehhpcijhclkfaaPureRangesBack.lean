/- RangesBack: what is removed and added is in again; what is added and removed is out; the counts tell how many were in. It holds for all arguments, without further conditions. -/
import Derived.Test.YtehhpcijhclkfaaLRangesBack
import Derived.Test.YtehhpcijhclkfaaOkRangesBack
namespace Go.Proofs.Ytehhpcijhclkfaa.Pure
open Go.Proofs.Ytehhpcijhclkfaa.OkRangesBack Go.RowKit Go.IntWalk Go.Proofs.Ytehhpcijhclkfaa.PRangesBack Go.Proofs.YtehhpcijhclkfaaW.PrintWords Go.Proofs.YtehhpcijhclkfaaW.PrintLast Go.Proofs.YtehhpcijhclkfaaW.PrintMore
set_option linter.unusedVariables false

theorem RangesBack : ∀ (l0 : List S25) (a1 : S25), ((∀ y ∈ l0, ok25 y) ∧ (l0).length ≤ maxLen ∧ (l0).length * Try.prog.bytesOf 25 ≤ 140737488351232) → ok25 a1 → ∃ k, mailcoachlaw03_RangesBack.f k l0 a1.f0 a1.f1 = some true := by
  intro l q hl hq
  have hlo := L03.u64_of hq.1
  have hhi := L03.u64_of hq.2
  have hb : Try.prog.bytesOf 25 = 16 := by kernel_rfl
  have hl3 : l.length ≤ 8796093022208 := by have := hl.2.2; rw [hb] at this; omega
  obtain ⟨x, x1, x2, x3⟩ := L03.right_f hl3 (fun z hz => ⟨(L03.u64_of (hl.1 z hz).1).1, L03.u64_of (hl.1 z hz).2⟩) 3000 (by omega)
  obtain ⟨less, l1, l2, l3, l4⟩ := L03.rem_f (lo := q.f0) (hi := q.f1) x2 (by omega) 3000 (by omega)
  obtain ⟨more, m1, m2, m3, m4⟩ := L03.add_f (lo := q.f0) (hi := q.f1) x2 (by omega) hlo.1 hhi.2 3000 (by omega)
  obtain ⟨s, s1, s2, s3, s4⟩ := L03.add_f (lo := q.f0) (hi := q.f1) l2 (by omega) hlo.1 hhi.2 3000 (by omega)
  obtain ⟨t, t1, t2, t3, t4⟩ := L03.rem_f (lo := q.f0) (hi := q.f1) m2 (by omega) 3000 (by omega)
  refine ⟨3000, ?_⟩
  unfold mailcoachlaw03_RangesBack.f
  rw [L03.awake 3000 (by omega)]
  simp only [Option.bind_some, if_true]
  rw [x1, Option.bind_some, l1, Option.bind_some, m1, Option.bind_some]
  by_cases h : q.f0 ≥ q.f1
  · have e1 : less = x := L03.good_eq l2 x2 fun n => by
      rw [l3]; exact ⟨fun h => h.1, fun h' => ⟨h', by omega⟩⟩
    have e2 : more = x := L03.good_eq m2 x2 fun n => by
      rw [m3]
      constructor
      · rintro (h' | h')
        · exact h'
        · omega
      · exact fun h' => .inl h'
    rw [if_pos h, e1, e2, L03.same_f x (by omega) 3000 (by omega)]
    rfl
  · have e1 : s = more := L03.good_eq s2 m2 fun n => by
      rw [s3, m3, l3]
      constructor
      · rintro (h' | h')
        · exact .inl h'.1
        · exact .inr h'
      · rintro (h' | h')
        · by_cases h2 : q.f0 ≤ n ∧ n < q.f1
          · exact .inr h2
          · exact .inl ⟨h', h2⟩
        · exact .inr h'
    have e2 : t = less := L03.good_eq t2 l2 fun n => by
      rw [t3, m3, l3]
      constructor
      · rintro ⟨h' | h', h2⟩
        · exact ⟨h', h2⟩
        · exact absurd h' h2
      · rintro ⟨h', h2⟩
        exact ⟨.inl h', h2⟩
    have hs := L03.sum_add (lo := q.f0) (hi := q.f1) l2 m2 hlo.1 (by omega) hhi.2 (fun n => by
      rw [m3, l3]
      constructor
      · rintro (h' | h')
        · by_cases h2 : q.f0 ≤ n ∧ n < q.f1
          · exact .inr h2
          · exact .inl ⟨h', h2⟩
        · exact .inr h'
      · rintro (h' | h')
        · exact .inl h'.1
        · exact .inr h') (fun n hn => ((l3 n).1 hn).2)
    have cl := L03.count_f l2 (by omega) 3000 (by omega)
    have cm := L03.count_f m2 (by omega) 3000 (by omega)
    rw [if_neg h, s1, Option.bind_some, e1, L03.same_f more (by omega) 3000 (by omega), Option.bind_some, if_pos rfl, t1, Option.bind_some, e2, L03.same_f less (by omega) 3000 (by omega), Option.bind_some, if_pos rfl, cm.1, Option.bind_some, cl.1, Option.bind_some, show L03.sumM more - L03.sumM less = q.f1 - q.f0 by omega]
    simp

end Go.Proofs.Ytehhpcijhclkfaa.Pure

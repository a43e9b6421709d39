/- LedgersBetween: what is between two places, and between the second and a third one, is what is between the first and the third, of any counts. It holds for all arguments, without further conditions. -/
import Derived.Test.YtmbealldhndeoaaLLedgersBetween
import Derived.Test.YtmbealldhndeoaaOkLedgersBetween
namespace Go.Proofs.Ytmbealldhndeoaa.Pure
open Go.Proofs.Ytmbealldhndeoaa.OkLedgersBetween Go.RowKit Go.IntWalk Go.Proofs.Ytmbealldhndeoaa.PLedgersBetween Go.Proofs.YtmbealldhndeoaaW.PrintWords Go.Proofs.YtmbealldhndeoaaW.PrintLast Go.Proofs.YtmbealldhndeoaaW.PrintMore
set_option linter.unusedVariables false

namespace L13
theorem con_add {o al ae bl be cl ce : Int} {x : S32} (ha : 0 ≤ ae ∧ ae ≤ 18446744073709551615) (hb : 0 ≤ be ∧ be ≤ 18446744073709551615) (hc : 0 ≤ ce ∧ ce ≤ 18446744073709551615) (h1 : ordM al ae bl be ≤ 0) (h2 : ordM bl be cl ce ≤ 0) :
    con o al ae bl be x + con o bl be cl ce x = con o al ae cl ce x ∧ con o cl ce al ae x = 0 := by
  have m1 : atM al ae x.f0 ≤ atM bl be x.f0 := by
    unfold ordM cmpM at h1; unfold atM
    repeat' split at h1
    all_goals (repeat' split) <;> omega
  have m2 : atM bl be x.f0 ≤ atM cl ce x.f0 := by
    unfold ordM cmpM at h2; unfold atM
    repeat' split at h2
    all_goals (repeat' split) <;> omega
  unfold con mn
  generalize atM al ae x.f0 = p at *
  generalize atM bl be x.f0 = q at *
  generalize atM cl ce x.f0 = r at *
  generalize szM x o = s at *
  refine ⟨?_, ?_⟩
  · (repeat' split) <;> omega
  · (repeat' split) <;> omega

theorem sum_add {o al ae bl be cl ce : Int} (ha : 0 ≤ ae ∧ ae ≤ 18446744073709551615) (hb : 0 ≤ be ∧ be ≤ 18446744073709551615) (hc : 0 ≤ ce ∧ ce ≤ 18446744073709551615) (h1 : ordM al ae bl be ≤ 0) (h2 : ordM bl be cl ce ≤ 0) : ∀ l : List S32,
    sumB o al ae bl be l + sumB o bl be cl ce l = sumB o al ae cl ce l ∧ sumB o cl ce al ae l = 0
  | [] => by simp [sumB]
  | x :: l => by
    have i1 := con_add (o := o) (x := x) ha hb hc h1 h2
    have i2 := sum_add (o := o) ha hb hc h1 h2 l
    simp only [sumB]
    omega
end L13

theorem LedgersBetween : ∀ (l0 : List S32) (a1 : Int) (a2 : S36) (a3 : S36) (a4 : S36), ((∀ y ∈ l0, ok32 y) ∧ (l0).length ≤ maxLen ∧ (l0).length * Try.prog.bytesOf 32 ≤ 140737488351232) → (Lit.int .u64 a1).wf = true → ok36 a2 → ok36 a3 → ok36 a4 → ∃ k, mailcoachlaw13_LedgersBetween.f k l0 a1 a2.f0 a2.f1 a3.f0 a3.f1 a4.f0 a4.f1 = some true := by
  intro l o a b c hl ho ha hb hc
  refine ⟨301, ?_⟩
  have ho' := L13.u64_of ho
  have ha' := L13.u64_of ha.2
  have hb' := L13.u64_of hb.2
  have hc' := L13.u64_of hc.2
  unfold mailcoachlaw13_LedgersBetween.f
  rw [L13.awake 301 (by omega)]
  simp only [Option.bind_some, if_true]
  rw [L13.right_f l 301 (by omega)]
  simp only [Option.bind_some]
  by_cases hr : L13.rightM l = true
  · rw [if_pos hr]
    have hok := L13.right_ok hr fun x hx => ⟨L13.u64_of (hl.1 x hx).1, (L13.u64_of (hl.1 x hx).2.2).1⟩
    have hlen := L13.right_len hr
    by_cases h1 : o > 1099511627776
    · rw [if_pos h1]; simp [mailcoachlaw13_LedgersBetween.j0]
    · rw [if_neg h1, L13.order_f _ _ _ _ 301 (by omega)]
      simp only [Option.bind_some]
      by_cases h2 : L13.ordM a.f0 a.f1 b.f0 b.f1 > 0
      · rw [if_pos h2]; simp [mailcoachlaw13_LedgersBetween.j0]
      · rw [if_neg h2, L13.order_f _ _ _ _ 301 (by omega)]
        simp only [Option.bind_some, mailcoachlaw13_LedgersBetween.j0]
        by_cases h3 : L13.ordM b.f0 b.f1 c.f0 c.f1 > 0
        · rw [if_pos (by simp [h3])]
        · rw [if_neg (by simp [h3])]
          have ho2 : 0 ≤ o ∧ o ≤ 1099511627776 := by omega
          rw [L13.between_f hlen hok ho2 ha'.1 hb'.1 300 (by omega), L13.between_f hlen hok ho2 hb'.1 hc'.1 300 (by omega), L13.between_f hlen hok ho2 ha'.1 hc'.1 300 (by omega), L13.between_f hlen hok ho2 hc'.1 ha'.1 300 (by omega)]
          simp only [Option.bind_some]
          have s := L13.sum_add (o := o) ha' hb' hc' (show L13.ordM a.f0 a.f1 b.f0 b.f1 ≤ 0 by omega) (show L13.ordM b.f0 b.f1 c.f0 c.f1 ≤ 0 by omega) l
          have b1 := L13.sumB_bd (al := a.f0) (bl := c.f0) ho2 ha'.1 hc'.1 l hok
          rw [s.1, s.2, u64_in _ (by omega), if_pos rfl]
          rfl
  · rw [if_neg hr]; simp [mailcoachlaw13_LedgersBetween.j0]

end Go.Proofs.Ytmbealldhndeoaa.Pure

/- LedgersTrims: nothing goes that is at a place or behind it; what is left begins with what has an entry there or behind, or is the open one, or lies at the place. It holds for all arguments, without further conditions. -/
import Derived.Test.YtmbealldhndeoaaLLedgersTrims
import Derived.Test.YtmbealldhndeoaaOkLedgersTrims
namespace Go.Proofs.Ytmbealldhndeoaa.Pure
open Go.Proofs.Ytmbealldhndeoaa.OkLedgersTrims Go.RowKit Go.IntWalk Go.Proofs.Ytmbealldhndeoaa.PLedgersTrims Go.Proofs.YtmbealldhndeoaaW.PrintWords Go.Proofs.YtmbealldhndeoaaW.PrintLast Go.Proofs.YtmbealldhndeoaaW.PrintMore
set_option linter.unusedVariables false

theorem LedgersTrims : ∀ (l0 : List S32) (a1 : Int) (a2 : S36), ((∀ y ∈ l0, ok32 y) ∧ (l0).length ≤ maxLen ∧ (l0).length * Try.prog.bytesOf 32 ≤ 140737488351232) → (Lit.int .u64 a1).wf = true → ok36 a2 → ∃ k, mailcoachlaw13_LedgersTrims.f k l0 a1 a2.f0 a2.f1 = some true := by
  intro l o p hl ho hp
  have ho' := L13.u64_of ho
  have hp' := L13.u64_of hp.2
  refine ⟨301, ?_⟩
  unfold mailcoachlaw13_LedgersTrims.f
  rw [L13.awake 301 (by omega)]
  simp only [Option.bind_some, if_true]
  rw [L13.right_f l 301 (by omega)]
  simp only [Option.bind_some, mailcoachlaw13_LedgersTrims.j0]
  by_cases hr : L13.rightM l = true
  · rw [if_pos hr]
    have hok := L13.right_ok hr fun x hx => ⟨L13.u64_of (hl.1 x hx).1, (L13.u64_of (hl.1 x hx).2.2).1⟩
    have hlen := L13.right_len hr
    by_cases h1 : o > 1099511627776
    · rw [if_pos (by simp [h1])]
    · rw [if_neg (by simp [h1]), L13.trim_f (by omega) 300 (by omega)]
      obtain ⟨j, hj, ht, hg, hh⟩ := L13.trim_drop p.f0 p.f1 l
      simp only [Option.bind_some]
      rw [ht, L13.right_f _ 300 (by omega), L13.right_drop hr j]
      simp only [Option.bind_some, if_true]
      have ho2 : 0 ≤ o ∧ o ≤ 1099511627776 := by omega
      have hokd : ∀ x ∈ l.drop j, L13.Ok x := fun x hx => hok x (List.mem_of_mem_drop hx)
      rw [L13.between_f (by rw [List.length_drop]; omega) hokd ho2 hp'.1 (by omega) 300 (by omega), L13.between_f hlen hok ho2 hp'.1 (by omega) 300 (by omega)]
      have hs := L13.sumB_gone (o := o) (ql := 18446744073709551615) (qe := 18446744073709551615) (l.take j) (l.drop j) hg (fun x hx => by have := (hok x (List.mem_of_mem_take hx)).2; omega)
      rw [List.take_append_drop] at hs
      simp only [Option.bind_some]
      have hw : wrap64 ((l.length : Int) - ((l.drop j).length : Int)) = (j : Int) := by
        rw [List.length_drop, wrap64_in _ (by omega)]; omega
      rw [if_pos hs.symm, hw, if_pos (by omega), if_pos (by omega), show ((j : Int)).toNat = j by omega, L13.same_f _ (by rw [List.length_drop]; omega) 300 (by rw [List.length_drop]; omega)]
      simp only [Option.bind_some]
      rw [if_pos trivial]
      by_cases h2 : ((l.drop j).length : Int) = 0
      · rw [if_pos h2]
      · rw [if_neg h2, if_pos (by omega)]
        obtain ⟨x, t, hxt⟩ : ∃ x t, l.drop j = x :: t := by
          rcases hm : l.drop j with _ | ⟨x, t⟩
          · rw [hm] at h2; simp at h2
          · exact ⟨x, t, rfl⟩
        have hx := hh x t hxt
        rw [hxt]
        have e0 : rd_T32 (x :: t) 0 = x := rfl
        rw [e0]
        by_cases h3 : x.f1 = true
        · rw [if_pos h3, L13.order_f _ _ _ _ 300 (by omega)]
          simp only [Option.bind_some]
          have : L13.ordM x.f0 x.f2 p.f0 p.f1 > 0 := by
            have : ¬ L13.ordM x.f0 x.f2 p.f0 p.f1 ≤ 0 := fun h => hx ⟨h3, h⟩
            omega
          simp [this]
        · rw [if_neg h3]
  · rw [if_neg hr]; simp

end Go.Proofs.Ytmbealldhndeoaa.Pure

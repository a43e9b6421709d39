/- A mender that is nil: what each of its calls gives. -/
import Derived.Test.YtopagbaokokjdaaC12
import Derived.Test.YtopagbaokokjdaaCt12
import Derived.Test.YtopagbaokokjdaaOkMenderNil
import Derived.IntWalk
import Derived.Test.YtopagbaokokjdaaAm3
namespace Go.Proofs.Ytopagbaokokjdaa.AM
set_option maxRecDepth 100000
set_option linter.unusedVariables false
set_option linter.unusedSimpArgs false

theorem mresult_nil (σ : St) (Q : AVal → St → Prop) (h : Q (.tup [.nilsl, .int .i64 1]) σ) : ACall Try.prog 17 [.nilp] σ Q := by
  refine ACall.of_compF hmx (fun a w => Try.call17 a w) Try.func17 cf17 (n := 1) (by decide) rfl ?_
  simp [ac17, rs17, lk_cons, h]
theorem mhear_nil (a b c : AVal) (σ : St) (Q : AVal → St → Prop) (h : Q (.int .i64 1) σ) : ACall Try.prog 13 [.nilp, a, b, c] σ Q := by
  refine ACall.of_compF hmx (fun a w => Try.call13 a w) Try.func13 cf13 (n := 4) (by decide) rfl ?_
  simp [ac13, rs13, lk_cons, h]
theorem mready_nil (σ : St) (Q : AVal → St → Prop) (h : Q (.bool false) σ) : ACall Try.prog 15 [.nilp] σ Q := by
  refine ACall.of_compF hmx (fun a w => Try.call15 a w) Try.func15 cf15 (n := 1) (by decide) rfl ?_
  simp [ac15, rs15, lk_cons, h]

open OkMenderNil
theorem lawMenderNil (us : List AVal) (h : ok40 us) : ACall Try.prog 5 [.agg us] σ0 fun v _ => v = .bool true := by
  have h2 : ∃ p n l r, us = [p, n, l, r] ∧ us.all AVal.one = true := by
    simp only [ok40, ok3, ok35, ok36, ok4] at h
    obtain ⟨_, _, rfl, ⟨p, rfl, _⟩, _, _, rfl, ⟨n, rfl, _⟩, _, _, rfl, hd, r, rfl⟩ := h
    rcases hd with rfl | ⟨xs, rfl, _⟩ <;> exact ⟨_, _, _, _, rfl, rfl⟩
  obtain ⟨p, n, l, r, rfl, h2⟩ := h2
  refine ACall.of_compF hmx (fun a w => Try.call5 a w) Try.func5 cf5 (n := 1) (by decide) rfl ?_
  simp only [List.all_cons, List.all_nil, Bool.and_true, Bool.and_eq_true] at h2
  simp [ac5, rs5, lk_cons, h2]
  refine awake _ _ ?_
  simp [lk_cons]
  refine mresult_nil _ _ ?_
  simp [lk_cons]
  refine mhear_nil _ _ _ _ _ ?_
  simp [lk_cons]
  refine mready_nil _ _ ?_
  simp [lk_cons]
end Go.Proofs.Ytopagbaokokjdaa.AM

/- What is known of the arguments of RangesChecks, by their types: each number is of its kind, each length within the form's reach. -/
import Derived.Test.YtehhpcijhclkfaaYRangesChecks0
import Derived.Test.YtehhpcijhclkfaaOpenKd
namespace Go.Proofs.Ytehhpcijhclkfaa.OkRangesChecks
open Go.RowKit Go.Proofs.YtehhpcijhclkfaaW.PrintWords Go.Proofs.Ytehhpcijhclkfaa.OpenKd Go.Proofs.Ytehhpcijhclkfaa.PRangesChecks
set_option linter.unusedVariables false
def ok25 (x : S25) : Prop := (Lit.int .u64 x.f0).wf = true ∧ (Lit.int .u64 x.f1).wf = true
theorem opens25 : Opens Try.prog k25 25 ok25 := opens_struct (fun a => ⟨a.1, a.2⟩) (fun _ => rfl) Try.underlying25 (by kernel_rfl) (opensF_cons (opens_int Try.underlying23) rfl (by kernel_rfl) (by kernel_rfl) (opensF_one (opens_int Try.underlying23) rfl (by kernel_rfl)))
end Go.Proofs.Ytehhpcijhclkfaa.OkRangesChecks

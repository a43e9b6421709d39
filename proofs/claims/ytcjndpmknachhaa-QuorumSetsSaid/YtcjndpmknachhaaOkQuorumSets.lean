/- What is known of the arguments of QuorumSets, by their types: each number is of its kind, each length within the form's reach. -/
import Derived.Test.YtcjndpmknachhaaPQuorumSetsx0
import Derived.Test.YtcjndpmknachhaaOpenKd
namespace Go.Proofs.Ytcjndpmknachhaa.OkQuorumSets
open Go.RowKit Go.Proofs.YtcjndpmknachhaaW.PrintWords Go.Proofs.Ytcjndpmknachhaa.OpenKd Go.Proofs.Ytcjndpmknachhaa.PQuorumSets
set_option linter.unusedVariables false
def ok26 (x : S26) : Prop := (Lit.int .i64 x.f0).wf = true ∧ (Lit.int .i64 x.f1).wf = true ∧ (Lit.int .i64 x.f2).wf = true
theorem opens26 : Opens Try.prog k26 26 ok26 := opens_struct (fun a => ⟨a.1, a.2.1, a.2.2⟩) (fun _ => rfl) Try.underlying26 (by kernel_rfl) (opensF_cons (opens_int Try.underlying3) rfl (by kernel_rfl) (by kernel_rfl) (opensF_cons (opens_int Try.underlying3) rfl (by kernel_rfl) (by kernel_rfl) (opensF_one (opens_int Try.underlying3) rfl (by kernel_rfl))))
end Go.Proofs.Ytcjndpmknachhaa.OkQuorumSets

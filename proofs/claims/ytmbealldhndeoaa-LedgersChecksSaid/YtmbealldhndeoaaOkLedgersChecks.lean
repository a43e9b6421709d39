/- What is known of the arguments of LedgersChecks, by their types: each number is of its kind, each length within the form's reach. -/
import Derived.Test.YtmbealldhndeoaaYLedgersChecks0
import Derived.Test.YtmbealldhndeoaaOpenKd
namespace Go.Proofs.Ytmbealldhndeoaa.OkLedgersChecks
open Go.RowKit Go.Proofs.YtmbealldhndeoaaW.PrintWords Go.Proofs.Ytmbealldhndeoaa.OpenKd Go.Proofs.Ytmbealldhndeoaa.PLedgersChecks
set_option linter.unusedVariables false
def ok32 (x : S32) : Prop := (Lit.int .u64 x.f0).wf = true ∧ True ∧ (Lit.int .u64 x.f2).wf = true
theorem opens32 : Opens Try.prog k32 32 ok32 := opens_struct (fun a => ⟨a.1, a.2.1, a.2.2⟩) (fun _ => rfl) Try.underlying32 (by kernel_rfl) (opensF_cons (opens_int Try.underlying24) rfl (by kernel_rfl) (by kernel_rfl) (opensF_cons (opens_bool Try.underlying4) rfl (by kernel_rfl) (by kernel_rfl) (opensF_one (opens_int Try.underlying24) rfl (by kernel_rfl))))
end Go.Proofs.Ytmbealldhndeoaa.OkLedgersChecks

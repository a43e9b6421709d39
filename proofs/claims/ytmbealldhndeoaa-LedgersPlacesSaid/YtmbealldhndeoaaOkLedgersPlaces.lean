/- What is known of the arguments of LedgersPlaces, by their types: each number is of its kind, each length within the form's reach. -/
import Derived.Test.YtmbealldhndeoaaYLedgersPlaces0
import Derived.Test.YtmbealldhndeoaaOpenKd
namespace Go.Proofs.Ytmbealldhndeoaa.OkLedgersPlaces
open Go.RowKit Go.Proofs.YtmbealldhndeoaaW.PrintWords Go.Proofs.Ytmbealldhndeoaa.OpenKd Go.Proofs.Ytmbealldhndeoaa.PLedgersPlaces
set_option linter.unusedVariables false
def ok36 (x : S36) : Prop := (Lit.int .u64 x.f0).wf = true ∧ (Lit.int .u64 x.f1).wf = true
theorem opens36 : Opens Try.prog k36 36 ok36 := opens_struct (fun a => ⟨a.1, a.2⟩) (fun _ => rfl) Try.underlying36 (by kernel_rfl) (opensF_cons (opens_int Try.underlying24) rfl (by kernel_rfl) (by kernel_rfl) (opensF_one (opens_int Try.underlying24) rfl (by kernel_rfl)))
end Go.Proofs.Ytmbealldhndeoaa.OkLedgersPlaces

/- What is known of the arguments of LedgersTrims, by their types: each number is of its kind, each length within the form's reach. -/
import Derived.Test.YtmbealldhndeoaaYLedgersTrims0
import Derived.Test.YtmbealldhndeoaaOpenKd
namespace Go.Proofs.Ytmbealldhndeoaa.OkLedgersTrims
open Go.RowKit Go.Proofs.YtmbealldhndeoaaW.PrintWords Go.Proofs.Ytmbealldhndeoaa.OpenKd Go.Proofs.Ytmbealldhndeoaa.PLedgersTrims
set_option linter.unusedVariables false
def ok32 (x : S32) : Prop := (Lit.int .u64 x.f0).wf = true ∧ True ∧ (Lit.int .u64 x.f2).wf = true
theorem opens32 : Opens Try.prog k32 32 ok32 := opens_struct (fun a => ⟨a.1, a.2.1, a.2.2⟩) (fun _ => rfl) Try.underlying32 (by kernel_rfl) (opensF_cons (opens_int Try.underlying24) rfl (by kernel_rfl) (by kernel_rfl) (opensF_cons (opens_bool Try.underlying4) rfl (by kernel_rfl) (by kernel_rfl) (opensF_one (opens_int Try.underlying24) rfl (by kernel_rfl))))
structure S36 where
  f0 : Int
  f1 : Int
def k36 : Kd S36 := Kd.iso (Kd.pair (Kd.int .u64) (Kd.int .u64)) (fun x : S36 => (x.f0, x.f1))
theorem k36_open {w : World} {x : S36} {cs : List Value} (h : k36.K w x cs) : cs = [.int .u64 x.f0, .int .u64 x.f1] := by
  obtain ⟨_, _, rfl, rfl, rfl⟩ := h
  exact rfl
def ok36 (x : S36) : Prop := (Lit.int .u64 x.f0).wf = true ∧ (Lit.int .u64 x.f1).wf = true
theorem opens36 : Opens Try.prog k36 36 ok36 := opens_struct (fun a => ⟨a.1, a.2⟩) (fun _ => rfl) Try.underlying36 (by kernel_rfl) (opensF_cons (opens_int Try.underlying24) rfl (by kernel_rfl) (by kernel_rfl) (opensF_one (opens_int Try.underlying24) rfl (by kernel_rfl)))
end Go.Proofs.Ytmbealldhndeoaa.OkLedgersTrims

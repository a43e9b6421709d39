/- What the arguments of MenderKeeps are, as the abstract machine's values. -/
import Derived.Test.YtopagbaokokjdaaAm3
import Derived.Test.YtopagbaokokjdaaProg
import Derived.KernelRfl
namespace Go.Proofs.Ytopagbaokokjdaa.AM.OkMenderKeeps
open Go.RowKit Go.ChangeShapes Go.WideShapes
set_option maxRecDepth 100000
def ok24 : List AVal → Prop := fun us => ∃ n, us = [.int .u16 n] ∧ (Lit.int .u16 n).wf = true
theorem opens24 : Opens Try.prog 24 ok24 := opens_int Try.underlying24
def ok5 : List AVal → Prop := fun us => ∃ n, us = [.int .u8 n] ∧ (Lit.int .u8 n).wf = true
theorem opens5 : Opens Try.prog 5 ok5 := opens_int Try.underlying5
def ok4 : List AVal → Prop := fun us => ∃ b, us = [.bool b]
theorem opens4 : Opens Try.prog 4 ok4 := opens_bool Try.underlying4
def ok68 : List AVal → Prop := fun us => (fun x => ∃ a b, x = a ++ b ∧ ok5 a ∧ (fun x => ∃ a b, x = a ++ b ∧ ok5 a ∧ (fun x => ∃ a b, x = a ++ b ∧ ok5 a ∧ ok4 b) b) b) us
theorem opens68 : Opens Try.prog 68 ok68 := opens_struct Try.underlying68 (by kernel_rfl) (opensF_cons (n := 1) (m := 3) opens5 rfl (by kernel_rfl) (by kernel_rfl) (opensF_cons (n := 1) (m := 2) opens5 rfl (by kernel_rfl) (by kernel_rfl) (opensF_cons (n := 1) (m := 1) opens5 rfl (by kernel_rfl) (by kernel_rfl) (opensF_one (n := 1) opens4 rfl (by kernel_rfl)))))
def ok59 : List AVal → Prop := fun us => us = [.nilsl] ∨ ∃ xs : List (List AVal), us = [.isl xs.flatten xs.length false] ∧ (∀ x ∈ xs, x.length = 4 ∧ ok68 x) ∧ xs.length ≤ 9223372036854775807 ∧ xs.length * 4 ≤ 140737488351232
theorem opens59 : Opens Try.prog 59 ok59 := opens_slice Try.underlying59 (by kernel_rfl) (by kernel_rfl) opens68
end Go.Proofs.Ytopagbaokokjdaa.AM.OkMenderKeeps

/- What the arguments of CursorOrder are, as the abstract machine's values. -/
import Derived.Test.YtinfnpbglapjhaaAm2
import Derived.Test.YtinfnpbglapjhaaProg
import Derived.KernelRfl
namespace Go.Proofs.Ytinfnpbglapjhaa.AM.OkCursorOrder
open Go.RowKit Go.ChangeShapes Go.WideShapes
set_option maxRecDepth 100000
def ok5 : List AVal → Prop := fun us => ∃ n, us = [.int .u8 n] ∧ (Lit.int .u8 n).wf = true
theorem opens5 : Opens Try.prog 5 ok5 := opens_int Try.underlying5
def ok22 : List AVal → Prop := fun us => us = [.nilsl] ∨ ∃ xs : List (List AVal), us = [.isl xs.flatten xs.length false] ∧ (∀ x ∈ xs, x.length = 1 ∧ ok5 x) ∧ xs.length ≤ 9223372036854775807 ∧ xs.length * 1 ≤ 140737488351232
theorem opens22 : Opens Try.prog 22 ok22 := opens_slice Try.underlying22 (by kernel_rfl) (by kernel_rfl) opens5
def ok4 : List AVal → Prop := fun us => ∃ b, us = [.bool b]
theorem opens4 : Opens Try.prog 4 ok4 := opens_bool Try.underlying4
end Go.Proofs.Ytinfnpbglapjhaa.AM.OkCursorOrder

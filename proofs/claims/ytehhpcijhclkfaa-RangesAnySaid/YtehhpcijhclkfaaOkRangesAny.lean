/- What the arguments of RangesAny are, as the abstract machine's values. -/
import Derived.Test.YtehhpcijhclkfaaAm2
import Derived.Test.YtehhpcijhclkfaaProg
import Derived.KernelRfl
namespace Go.Proofs.Ytehhpcijhclkfaa.AM.OkRangesAny
open Go.RowKit Go.ChangeShapes Go.WideShapes
set_option maxRecDepth 100000
def ok23 : List AVal → Prop := fun us => ∃ n, us = [.int .u64 n] ∧ (Lit.int .u64 n).wf = true
theorem opens23 : Opens Try.prog 23 ok23 := opens_int Try.underlying23
def ok25 : List AVal → Prop := fun us => (fun x => ∃ a b, x = a ++ b ∧ ok23 a ∧ ok23 b) us
theorem opens25 : Opens Try.prog 25 ok25 := opens_struct Try.underlying25 (by kernel_rfl) (opensF_cons (n := 1) (m := 1) opens23 rfl (by kernel_rfl) (by kernel_rfl) (opensF_one (n := 1) opens23 rfl (by kernel_rfl)))
def ok22 : List AVal → Prop := fun us => us = [.nilsl] ∨ ∃ xs : List (List AVal), us = [.isl xs.flatten xs.length false] ∧ (∀ x ∈ xs, x.length = 2 ∧ ok25 x) ∧ xs.length ≤ 9223372036854775807 ∧ xs.length * 16 ≤ 140737488351232
theorem opens22 : Opens Try.prog 22 ok22 := opens_slice Try.underlying22 (by kernel_rfl) (by kernel_rfl) opens25
end Go.Proofs.Ytehhpcijhclkfaa.AM.OkRangesAny

/- What the arguments of DispatchTurns are, as the abstract machine's values. -/
import Derived.Test.YtiikaajopgjliaaAm2
import Derived.Test.YtiikaajopgjliaaProg
import Derived.KernelRfl
namespace Go.Proofs.Ytiikaajopgjliaa.AM.OkDispatchTurns
open Go.RowKit Go.ChangeShapes Go.WideShapes
set_option maxRecDepth 100000
def ok30 : List AVal → Prop := fun us => ∃ n, us = [.int .u64 n] ∧ (Lit.int .u64 n).wf = true
theorem opens30 : Opens Try.prog 30 ok30 := opens_int Try.underlying30
def ok22 : List AVal → Prop := fun us => us = [.nilsl] ∨ ∃ xs : List (List AVal), us = [.isl xs.flatten xs.length false] ∧ (∀ x ∈ xs, x.length = 1 ∧ ok30 x) ∧ xs.length ≤ 9223372036854775807 ∧ xs.length * 8 ≤ 140737488351232
theorem opens22 : Opens Try.prog 22 ok22 := opens_slice Try.underlying22 (by kernel_rfl) (by kernel_rfl) opens30
def ok5 : List AVal → Prop := fun us => ∃ n, us = [.int .u8 n] ∧ (Lit.int .u8 n).wf = true
theorem opens5 : Opens Try.prog 5 ok5 := opens_int Try.underlying5
end Go.Proofs.Ytiikaajopgjliaa.AM.OkDispatchTurns

/- What the arguments of DedupOnce are, as the abstract machine's values. -/
import Derived.Test.YtieieknhhfallaaDoorAm3
import Derived.Test.YtieieknhhfallaaDoorProg
import Derived.KernelRfl
namespace Go.Proofs.YtieieknhhfallaaDoor.AM.OkDedupOnce
open Go.RowKit Go.ChangeShapes Go.WideShapes
set_option maxRecDepth 100000
def ok50 : List AVal → Prop := fun us => ∃ n, us = [.int .u16 n] ∧ (Lit.int .u16 n).wf = true
theorem opens50 : Opens Tryd.prog 50 ok50 := opens_int Tryd.underlying50
def ok49 : List AVal → Prop := fun us => us = [.nilsl] ∨ ∃ xs : List (List AVal), us = [.isl xs.flatten xs.length false] ∧ (∀ x ∈ xs, x.length = 1 ∧ ok50 x) ∧ xs.length ≤ 9223372036854775807 ∧ xs.length * 2 ≤ 140737488351232
theorem opens49 : Opens Tryd.prog 49 ok49 := opens_slice Tryd.underlying49 (by kernel_rfl) (by kernel_rfl) opens50
def ok5 : List AVal → Prop := fun us => ∃ n, us = [.int .u8 n] ∧ (Lit.int .u8 n).wf = true
theorem opens5 : Opens Tryd.prog 5 ok5 := opens_int Tryd.underlying5
def ok22 : List AVal → Prop := fun us => us = [.nilsl] ∨ ∃ xs : List (List AVal), us = [.isl xs.flatten xs.length false] ∧ (∀ x ∈ xs, x.length = 1 ∧ ok5 x) ∧ xs.length ≤ 9223372036854775807 ∧ xs.length * 1 ≤ 140737488351232
theorem opens22 : Opens Tryd.prog 22 ok22 := opens_slice Tryd.underlying22 (by kernel_rfl) (by kernel_rfl) opens5
end Go.Proofs.YtieieknhhfallaaDoor.AM.OkDedupOnce

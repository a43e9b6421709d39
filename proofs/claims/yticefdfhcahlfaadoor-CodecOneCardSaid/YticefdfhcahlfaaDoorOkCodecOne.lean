/- What the arguments of CodecOne are, as the abstract machine's values. -/
import Derived.Test.YticefdfhcahlfaaDoorAm3
import Derived.Test.YticefdfhcahlfaaDoorProg
import Derived.KernelRfl
namespace Go.Proofs.YticefdfhcahlfaaDoor.AM.OkCodecOne
open Go.RowKit Go.ChangeShapes Go.WideShapes
set_option maxRecDepth 100000
def ok5 : List AVal → Prop := fun us => ∃ n, us = [.int .u8 n] ∧ (Lit.int .u8 n).wf = true
theorem opens5 : Opens Tryd.prog 5 ok5 := opens_int Tryd.underlying5
def ok28 : List AVal → Prop := fun us => us = [.nilsl] ∨ ∃ xs : List (List AVal), us = [.isl xs.flatten xs.length false] ∧ (∀ x ∈ xs, x.length = 1 ∧ ok5 x) ∧ xs.length ≤ 9223372036854775807 ∧ xs.length * 1 ≤ 140737488351232
theorem opens28 : Opens Tryd.prog 28 ok28 := opens_slice Tryd.underlying28 (by kernel_rfl) (by kernel_rfl) opens5
end Go.Proofs.YticefdfhcahlfaaDoor.AM.OkCodecOne

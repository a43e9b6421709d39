/- What the arguments of CodecEntries are, as the abstract machine's values. -/
import Derived.Test.YticefdfhcahlfaaDoorAm3
import Derived.Test.YticefdfhcahlfaaDoorProg
import Derived.KernelRfl
namespace Go.Proofs.YticefdfhcahlfaaDoor.AM.OkCodecEntries
open Go.RowKit Go.ChangeShapes Go.WideShapes
set_option maxRecDepth 100000
def ok9 : List AVal → Prop := fun us => ∃ s : ByteArray, us = [.str s] ∧ s.size ≤ 140737488351232
theorem opens9 : Opens Tryd.prog 9 ok9 := opens_string Tryd.underlying9
def ok22 : List AVal → Prop := fun us => ∃ n, us = [.int .u64 n] ∧ (Lit.int .u64 n).wf = true
theorem opens22 : Opens Tryd.prog 22 ok22 := opens_int Tryd.underlying22
def ok5 : List AVal → Prop := fun us => ∃ n, us = [.int .u8 n] ∧ (Lit.int .u8 n).wf = true
theorem opens5 : Opens Tryd.prog 5 ok5 := opens_int Tryd.underlying5
def ok28 : List AVal → Prop := fun us => us = [.nilsl] ∨ ∃ xs : List (List AVal), us = [.isl xs.flatten xs.length false] ∧ (∀ x ∈ xs, x.length = 1 ∧ ok5 x) ∧ xs.length ≤ 9223372036854775807 ∧ xs.length * 1 ≤ 140737488351232
theorem opens28 : Opens Tryd.prog 28 ok28 := opens_slice Tryd.underlying28 (by kernel_rfl) (by kernel_rfl) opens5
def ok71 : List AVal → Prop := fun us => (fun x => ∃ a b, x = a ++ b ∧ ok9 a ∧ (fun x => ∃ a b, x = a ++ b ∧ ok22 a ∧ (fun x => ∃ a b, x = a ++ b ∧ ok9 a ∧ ok28 b) b) b) us
theorem opens71 : Opens Tryd.prog 71 ok71 := opens_struct Tryd.underlying71 (by kernel_rfl) (opensF_cons (n := 1) (m := 3) opens9 rfl (by kernel_rfl) (by kernel_rfl) (opensF_cons (n := 1) (m := 2) opens22 rfl (by kernel_rfl) (by kernel_rfl) (opensF_cons (n := 1) (m := 1) opens9 rfl (by kernel_rfl) (by kernel_rfl) (opensF_one (n := 1) opens28 rfl (by kernel_rfl)))))
end Go.Proofs.YticefdfhcahlfaaDoor.AM.OkCodecEntries

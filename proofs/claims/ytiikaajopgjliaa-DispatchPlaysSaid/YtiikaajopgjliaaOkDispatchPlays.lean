/- What the arguments of DispatchPlays are, as the abstract machine's values. -/
import Derived.Test.YtiikaajopgjliaaAm3
import Derived.Test.YtiikaajopgjliaaProg
import Derived.KernelRfl
namespace Go.Proofs.Ytiikaajopgjliaa.AM.OkDispatchPlays
open Go.RowKit Go.ChangeShapes Go.WideShapes
set_option maxRecDepth 100000
def ok28 : List AVal → Prop := fun us => ∃ n, us = [.int .u8 n] ∧ (Lit.int .u8 n).wf = true
theorem opens28 : Opens Try.prog 28 ok28 := opens_int Try.underlying28
def ok5 : List AVal → Prop := fun us => ∃ n, us = [.int .u8 n] ∧ (Lit.int .u8 n).wf = true
theorem opens5 : Opens Try.prog 5 ok5 := opens_int Try.underlying5
def ok30 : List AVal → Prop := fun us => ∃ n, us = [.int .u64 n] ∧ (Lit.int .u64 n).wf = true
theorem opens30 : Opens Try.prog 30 ok30 := opens_int Try.underlying30
def ok3 : List AVal → Prop := fun us => ∃ n, us = [.int .i64 n] ∧ (Lit.int .i64 n).wf = true
theorem opens3 : Opens Try.prog 3 ok3 := opens_int Try.underlying3
def ok36 : List AVal → Prop := fun us => (fun x => ∃ a b, x = a ++ b ∧ ok30 a ∧ ok30 b) us
theorem opens36 : Opens Try.prog 36 ok36 := opens_struct Try.underlying36 (by kernel_rfl) (opensF_cons (n := 1) (m := 1) opens30 rfl (by kernel_rfl) (by kernel_rfl) (opensF_one (n := 1) opens30 rfl (by kernel_rfl)))
def ok9 : List AVal → Prop := fun us => ∃ s : ByteArray, us = [.str s] ∧ s.size ≤ 140737488351232
theorem opens9 : Opens Try.prog 9 ok9 := opens_string Try.underlying9
def ok4 : List AVal → Prop := fun us => ∃ b, us = [.bool b]
theorem opens4 : Opens Try.prog 4 ok4 := opens_bool Try.underlying4
def ok45 : List AVal → Prop := fun us => (fun x => ∃ a b, x = a ++ b ∧ ok5 a ∧ (fun x => ∃ a b, x = a ++ b ∧ ok30 a ∧ (fun x => ∃ a b, x = a ++ b ∧ ok3 a ∧ (fun x => ∃ a b, x = a ++ b ∧ ok36 a ∧ (fun x => ∃ a b, x = a ++ b ∧ ok9 a ∧ ok4 b) b) b) b) b) us
theorem opens45 : Opens Try.prog 45 ok45 := opens_struct Try.underlying45 (by kernel_rfl) (opensF_cons (n := 1) (m := 6) opens5 rfl (by kernel_rfl) (by kernel_rfl) (opensF_cons (n := 1) (m := 5) opens30 rfl (by kernel_rfl) (by kernel_rfl) (opensF_cons (n := 1) (m := 4) opens3 rfl (by kernel_rfl) (by kernel_rfl) (opensF_cons (n := 2) (m := 2) opens36 rfl (by kernel_rfl) (by kernel_rfl) (opensF_cons (n := 1) (m := 1) opens9 rfl (by kernel_rfl) (by kernel_rfl) (opensF_one (n := 1) opens4 rfl (by kernel_rfl)))))))
def ok38 : List AVal → Prop := fun us => us = [.nilsl] ∨ ∃ xs : List (List AVal), us = [.isl xs.flatten xs.length false] ∧ (∀ x ∈ xs, x.length = 7 ∧ ok45 x) ∧ xs.length ≤ 9223372036854775807 ∧ xs.length * 64 ≤ 140737488351232
theorem opens38 : Opens Try.prog 38 ok38 := opens_slice Try.underlying38 (by kernel_rfl) (by kernel_rfl) opens45
end Go.Proofs.Ytiikaajopgjliaa.AM.OkDispatchPlays

/- What the arguments of DedupPlays are, as the abstract machine's values. -/
import Derived.Test.YtieieknhhfallaaAm3
import Derived.Test.YtieieknhhfallaaProg
import Derived.KernelRfl
namespace Go.Proofs.Ytieieknhhfallaa.AM.OkDedupPlays
open Go.RowKit Go.ChangeShapes Go.WideShapes
set_option maxRecDepth 100000
def ok5 : List AVal → Prop := fun us => ∃ n, us = [.int .u8 n] ∧ (Lit.int .u8 n).wf = true
theorem opens5 : Opens Try.prog 5 ok5 := opens_int Try.underlying5
def ok9 : List AVal → Prop := fun us => ∃ s : ByteArray, us = [.str s] ∧ s.size ≤ 140737488351232
theorem opens9 : Opens Try.prog 9 ok9 := opens_string Try.underlying9
def ok29 : List AVal → Prop := fun us => ∃ n, us = [.int .u64 n] ∧ (Lit.int .u64 n).wf = true
theorem opens29 : Opens Try.prog 29 ok29 := opens_int Try.underlying29
def ok32 : List AVal → Prop := fun us => (fun x => ∃ a b, x = a ++ b ∧ ok29 a ∧ ok29 b) us
theorem opens32 : Opens Try.prog 32 ok32 := opens_struct Try.underlying32 (by kernel_rfl) (opensF_cons (n := 1) (m := 1) opens29 rfl (by kernel_rfl) (by kernel_rfl) (opensF_one (n := 1) opens29 rfl (by kernel_rfl)))
def ok4 : List AVal → Prop := fun us => ∃ b, us = [.bool b]
theorem opens4 : Opens Try.prog 4 ok4 := opens_bool Try.underlying4
def ok35 : List AVal → Prop := fun us => (fun x => ∃ a b, x = a ++ b ∧ ok5 a ∧ (fun x => ∃ a b, x = a ++ b ∧ ok9 a ∧ (fun x => ∃ a b, x = a ++ b ∧ ok29 a ∧ (fun x => ∃ a b, x = a ++ b ∧ ok32 a ∧ ok4 b) b) b) b) us
theorem opens35 : Opens Try.prog 35 ok35 := opens_struct Try.underlying35 (by kernel_rfl) (opensF_cons (n := 1) (m := 5) opens5 rfl (by kernel_rfl) (by kernel_rfl) (opensF_cons (n := 1) (m := 4) opens9 rfl (by kernel_rfl) (by kernel_rfl) (opensF_cons (n := 1) (m := 3) opens29 rfl (by kernel_rfl) (by kernel_rfl) (opensF_cons (n := 2) (m := 1) opens32 rfl (by kernel_rfl) (by kernel_rfl) (opensF_one (n := 1) opens4 rfl (by kernel_rfl))))))
def ok47 : List AVal → Prop := fun us => us = [.nilsl] ∨ ∃ xs : List (List AVal), us = [.isl xs.flatten xs.length false] ∧ (∀ x ∈ xs, x.length = 6 ∧ ok35 x) ∧ xs.length ≤ 9223372036854775807 ∧ xs.length * 56 ≤ 140737488351232
theorem opens47 : Opens Try.prog 47 ok47 := opens_slice Try.underlying47 (by kernel_rfl) (by kernel_rfl) opens35
end Go.Proofs.Ytieieknhhfallaa.AM.OkDedupPlays

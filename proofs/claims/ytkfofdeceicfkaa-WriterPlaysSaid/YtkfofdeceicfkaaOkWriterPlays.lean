/- What the arguments of WriterPlays are, as the abstract machine's values. -/
import Derived.Test.YtkfofdeceicfkaaAm2
import Derived.Test.YtkfofdeceicfkaaProg
import Derived.KernelRfl
namespace Go.Proofs.Ytkfofdeceicfkaa.AM.OkWriterPlays
open Go.RowKit Go.ChangeShapes Go.WideShapes
set_option maxRecDepth 100000
def ok3 : List AVal → Prop := fun us => ∃ n, us = [.int .i64 n] ∧ (Lit.int .i64 n).wf = true
theorem opens3 : Opens Try.prog 3 ok3 := opens_int Try.underlying3
def ok27 : List AVal → Prop := fun us => (fun x => ∃ a b, x = a ++ b ∧ ok3 a ∧ (fun x => ∃ a b, x = a ++ b ∧ ok3 a ∧ ok3 b) b) us
theorem opens27 : Opens Try.prog 27 ok27 := opens_struct Try.underlying27 (by kernel_rfl) (opensF_cons (n := 1) (m := 2) opens3 rfl (by kernel_rfl) (by kernel_rfl) (opensF_cons (n := 1) (m := 1) opens3 rfl (by kernel_rfl) (by kernel_rfl) (opensF_one (n := 1) opens3 rfl (by kernel_rfl))))
def ok22 : List AVal → Prop := fun us => ∃ n, us = [.int .u16 n] ∧ (Lit.int .u16 n).wf = true
theorem opens22 : Opens Try.prog 22 ok22 := opens_int Try.underlying22
def ok5 : List AVal → Prop := fun us => ∃ n, us = [.int .u8 n] ∧ (Lit.int .u8 n).wf = true
theorem opens5 : Opens Try.prog 5 ok5 := opens_int Try.underlying5
def ok33 : List AVal → Prop := fun us => us = [.nilsl] ∨ ∃ xs : List (List AVal), us = [.isl xs.flatten xs.length false] ∧ (∀ x ∈ xs, x.length = 1 ∧ ok5 x) ∧ xs.length ≤ 9223372036854775807 ∧ xs.length * 1 ≤ 140737488351232
theorem opens33 : Opens Try.prog 33 ok33 := opens_slice Try.underlying33 (by kernel_rfl) (by kernel_rfl) opens5
def ok34 : List AVal → Prop := fun us => ∃ n, us = [.int .u64 n] ∧ (Lit.int .u64 n).wf = true
theorem opens34 : Opens Try.prog 34 ok34 := opens_int Try.underlying34
def ok4 : List AVal → Prop := fun us => ∃ b, us = [.bool b]
theorem opens4 : Opens Try.prog 4 ok4 := opens_bool Try.underlying4
def ok63 : List AVal → Prop := fun us => (fun x => ∃ a b, x = a ++ b ∧ ok5 a ∧ (fun x => ∃ a b, x = a ++ b ∧ ok33 a ∧ (fun x => ∃ a b, x = a ++ b ∧ ok3 a ∧ (fun x => ∃ a b, x = a ++ b ∧ ok34 a ∧ ok4 b) b) b) b) us
theorem opens63 : Opens Try.prog 63 ok63 := opens_struct Try.underlying63 (by kernel_rfl) (opensF_cons (n := 1) (m := 4) opens5 rfl (by kernel_rfl) (by kernel_rfl) (opensF_cons (n := 1) (m := 3) opens33 rfl (by kernel_rfl) (by kernel_rfl) (opensF_cons (n := 1) (m := 2) opens3 rfl (by kernel_rfl) (by kernel_rfl) (opensF_cons (n := 1) (m := 1) opens34 rfl (by kernel_rfl) (by kernel_rfl) (opensF_one (n := 1) opens4 rfl (by kernel_rfl))))))
def ok57 : List AVal → Prop := fun us => us = [.nilsl] ∨ ∃ xs : List (List AVal), us = [.isl xs.flatten xs.length false] ∧ (∀ x ∈ xs, x.length = 5 ∧ ok63 x) ∧ xs.length ≤ 9223372036854775807 ∧ xs.length * 56 ≤ 140737488351232
theorem opens57 : Opens Try.prog 57 ok57 := opens_slice Try.underlying57 (by kernel_rfl) (by kernel_rfl) opens63
end Go.Proofs.Ytkfofdeceicfkaa.AM.OkWriterPlays

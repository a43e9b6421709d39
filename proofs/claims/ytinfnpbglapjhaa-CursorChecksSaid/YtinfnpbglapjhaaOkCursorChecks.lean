/- What the arguments of CursorChecks are, as the abstract machine's values. -/
import Derived.Test.YtinfnpbglapjhaaAm3
import Derived.Test.YtinfnpbglapjhaaProg
import Derived.KernelRfl
namespace Go.Proofs.Ytinfnpbglapjhaa.AM.OkCursorChecks
open Go.RowKit Go.ChangeShapes Go.WideShapes
set_option maxRecDepth 100000
def ok23 : List AVal → Prop := fun us => ∃ n, us = [.int .u64 n] ∧ (Lit.int .u64 n).wf = true
theorem opens23 : Opens Try.prog 23 ok23 := opens_int Try.underlying23
def ok25 : List AVal → Prop := fun us => (fun x => ∃ a b, x = a ++ b ∧ ok23 a ∧ ok23 b) us
theorem opens25 : Opens Try.prog 25 ok25 := opens_struct Try.underlying25 (by kernel_rfl) (opensF_cons (n := 1) (m := 1) opens23 rfl (by kernel_rfl) (by kernel_rfl) (opensF_one (n := 1) opens23 rfl (by kernel_rfl)))
def ok71 : List AVal → Prop := fun us => (fun x => ∃ a b, x = a ++ b ∧ ok23 a ∧ ok23 b) us
theorem opens71 : Opens Try.prog 71 ok71 := opens_struct Try.underlying71 (by kernel_rfl) (opensF_cons (n := 1) (m := 1) opens23 rfl (by kernel_rfl) (by kernel_rfl) (opensF_one (n := 1) opens23 rfl (by kernel_rfl)))
def ok54 : List AVal → Prop := fun us => us = [.nilsl] ∨ ∃ xs : List (List AVal), us = [.isl xs.flatten xs.length false] ∧ (∀ x ∈ xs, x.length = 2 ∧ ok71 x) ∧ xs.length ≤ 9223372036854775807 ∧ xs.length * 16 ≤ 140737488351232
theorem opens54 : Opens Try.prog 54 ok54 := opens_slice Try.underlying54 (by kernel_rfl) (by kernel_rfl) opens71
def ok56 : List AVal → Prop := fun us => (fun x => ∃ a b, x = a ++ b ∧ ok23 a ∧ ok54 b) us
theorem opens56 : Opens Try.prog 56 ok56 := opens_struct Try.underlying56 (by kernel_rfl) (opensF_cons (n := 1) (m := 1) opens23 rfl (by kernel_rfl) (by kernel_rfl) (opensF_one (n := 1) opens54 rfl (by kernel_rfl)))
def ok26 : List AVal → Prop := fun us => us = [.nilsl] ∨ ∃ xs : List (List AVal), us = [.isl xs.flatten xs.length false] ∧ (∀ x ∈ xs, x.length = 2 ∧ ok56 x) ∧ xs.length ≤ 9223372036854775807 ∧ xs.length * 32 ≤ 140737488351232
theorem opens26 : Opens Try.prog 26 ok26 := opens_slice Try.underlying26 (by kernel_rfl) (by kernel_rfl) opens56
def ok28 : List AVal → Prop := fun us => (fun x => ∃ a b, x = a ++ b ∧ ok25 a ∧ ok26 b) us
theorem opens28 : Opens Try.prog 28 ok28 := opens_struct Try.underlying28 (by kernel_rfl) (opensF_cons (n := 2) (m := 1) opens25 rfl (by kernel_rfl) (by kernel_rfl) (opensF_one (n := 1) opens26 rfl (by kernel_rfl)))
def ok5 : List AVal → Prop := fun us => ∃ n, us = [.int .u8 n] ∧ (Lit.int .u8 n).wf = true
theorem opens5 : Opens Try.prog 5 ok5 := opens_int Try.underlying5
def ok22 : List AVal → Prop := fun us => us = [.nilsl] ∨ ∃ xs : List (List AVal), us = [.isl xs.flatten xs.length false] ∧ (∀ x ∈ xs, x.length = 1 ∧ ok5 x) ∧ xs.length ≤ 9223372036854775807 ∧ xs.length * 1 ≤ 140737488351232
theorem opens22 : Opens Try.prog 22 ok22 := opens_slice Try.underlying22 (by kernel_rfl) (by kernel_rfl) opens5
def ok4 : List AVal → Prop := fun us => ∃ b, us = [.bool b]
theorem opens4 : Opens Try.prog 4 ok4 := opens_bool Try.underlying4
end Go.Proofs.Ytinfnpbglapjhaa.AM.OkCursorChecks

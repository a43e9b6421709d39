/- What the arguments of MenderPlays are, as the abstract machine's values. -/
import Derived.Test.YtopagbaokokjdaaAm2
import Derived.Test.YtopagbaokokjdaaProg
import Derived.KernelRfl
namespace Go.Proofs.Ytopagbaokokjdaa.AM.OkMenderPlays
open Go.RowKit Go.ChangeShapes Go.WideShapes
set_option maxRecDepth 100000
def ok3 : List AVal → Prop := fun us => ∃ n, us = [.int .i64 n] ∧ (Lit.int .i64 n).wf = true
theorem opens3 : Opens Try.prog 3 ok3 := opens_int Try.underlying3
def ok23 : List AVal → Prop := fun us => (fun x => ∃ a b, x = a ++ b ∧ ok3 a ∧ (fun x => ∃ a b, x = a ++ b ∧ ok3 a ∧ ok3 b) b) us
theorem opens23 : Opens Try.prog 23 ok23 := opens_struct Try.underlying23 (by kernel_rfl) (opensF_cons (n := 1) (m := 2) opens3 rfl (by kernel_rfl) (by kernel_rfl) (opensF_cons (n := 1) (m := 1) opens3 rfl (by kernel_rfl) (by kernel_rfl) (opensF_one (n := 1) opens3 rfl (by kernel_rfl))))
def ok24 : List AVal → Prop := fun us => ∃ n, us = [.int .u16 n] ∧ (Lit.int .u16 n).wf = true
theorem opens24 : Opens Try.prog 24 ok24 := opens_int Try.underlying24
def ok35 : List AVal → Prop := fun us => ∃ n, us = [.int .u64 n] ∧ (Lit.int .u64 n).wf = true
theorem opens35 : Opens Try.prog 35 ok35 := opens_int Try.underlying35
def ok5 : List AVal → Prop := fun us => ∃ n, us = [.int .u8 n] ∧ (Lit.int .u8 n).wf = true
theorem opens5 : Opens Try.prog 5 ok5 := opens_int Try.underlying5
def ok54 : List AVal → Prop := fun us => us = [.nilsl] ∨ ∃ xs : List (List AVal), us = [.isl xs.flatten xs.length false] ∧ (∀ x ∈ xs, x.length = 1 ∧ ok5 x) ∧ xs.length ≤ 9223372036854775807 ∧ xs.length * 1 ≤ 140737488351232
theorem opens54 : Opens Try.prog 54 ok54 := opens_slice Try.underlying54 (by kernel_rfl) (by kernel_rfl) opens5
def ok56 : List AVal → Prop := fun us => (fun x => ∃ a b, x = a ++ b ∧ ok35 a ∧ ok54 b) us
theorem opens56 : Opens Try.prog 56 ok56 := opens_struct Try.underlying56 (by kernel_rfl) (opensF_cons (n := 1) (m := 1) opens35 rfl (by kernel_rfl) (by kernel_rfl) (opensF_one (n := 1) opens54 rfl (by kernel_rfl)))
def ok36 : List AVal → Prop := fun us => us = [.nilsl] ∨ ∃ xs : List (List AVal), us = [.isl xs.flatten xs.length false] ∧ (∀ x ∈ xs, x.length = 2 ∧ ok56 x) ∧ xs.length ≤ 9223372036854775807 ∧ xs.length * 32 ≤ 140737488351232
theorem opens36 : Opens Try.prog 36 ok36 := opens_slice Try.underlying36 (by kernel_rfl) (by kernel_rfl) opens56
def ok4 : List AVal → Prop := fun us => ∃ b, us = [.bool b]
theorem opens4 : Opens Try.prog 4 ok4 := opens_bool Try.underlying4
def ok40 : List AVal → Prop := fun us => (fun x => ∃ a b, x = a ++ b ∧ ok3 a ∧ (fun x => ∃ a b, x = a ++ b ∧ ok35 a ∧ (fun x => ∃ a b, x = a ++ b ∧ ok36 a ∧ ok4 b) b) b) us
theorem opens40 : Opens Try.prog 40 ok40 := opens_struct Try.underlying40 (by kernel_rfl) (opensF_cons (n := 1) (m := 3) opens3 rfl (by kernel_rfl) (by kernel_rfl) (opensF_cons (n := 1) (m := 2) opens35 rfl (by kernel_rfl) (by kernel_rfl) (opensF_cons (n := 1) (m := 1) opens36 rfl (by kernel_rfl) (by kernel_rfl) (opensF_one (n := 1) opens4 rfl (by kernel_rfl)))))
def ok25 : List AVal → Prop := fun us => us = [.nilsl] ∨ ∃ xs : List (List AVal), us = [.isl xs.flatten xs.length false] ∧ (∀ x ∈ xs, x.length = 4 ∧ ok40 x) ∧ xs.length ≤ 9223372036854775807 ∧ xs.length * 48 ≤ 140737488351232
theorem opens25 : Opens Try.prog 25 ok25 := opens_slice Try.underlying25 (by kernel_rfl) (by kernel_rfl) opens40
end Go.Proofs.Ytopagbaokokjdaa.AM.OkMenderPlays

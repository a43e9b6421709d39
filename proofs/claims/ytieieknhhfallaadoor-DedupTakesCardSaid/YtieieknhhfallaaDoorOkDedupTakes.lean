/- What the arguments of DedupTakes are, as the abstract machine's values. -/
import Derived.Test.YtieieknhhfallaaDoorAm3
import Derived.Test.YtieieknhhfallaaDoorProg
import Derived.KernelRfl
namespace Go.Proofs.YtieieknhhfallaaDoor.AM.OkDedupTakes
open Go.RowKit Go.ChangeShapes Go.WideShapes
set_option maxRecDepth 100000
def ok5 : List AVal → Prop := fun us => ∃ n, us = [.int .u8 n] ∧ (Lit.int .u8 n).wf = true
theorem opens5 : Opens Tryd.prog 5 ok5 := opens_int Tryd.underlying5
def ok22 : List AVal → Prop := fun us => us = [.nilsl] ∨ ∃ xs : List (List AVal), us = [.isl xs.flatten xs.length false] ∧ (∀ x ∈ xs, x.length = 1 ∧ ok5 x) ∧ xs.length ≤ 9223372036854775807 ∧ xs.length * 1 ≤ 140737488351232
theorem opens22 : Opens Tryd.prog 22 ok22 := opens_slice Tryd.underlying22 (by kernel_rfl) (by kernel_rfl) opens5
def ok9 : List AVal → Prop := fun us => ∃ s : ByteArray, us = [.str s] ∧ s.size ≤ 140737488351232
theorem opens9 : Opens Tryd.prog 9 ok9 := opens_string Tryd.underlying9
def ok27 : List AVal → Prop := fun us => ∃ n, us = [.int .u64 n] ∧ (Lit.int .u64 n).wf = true
theorem opens27 : Opens Tryd.prog 27 ok27 := opens_int Tryd.underlying27
def ok29 : List AVal → Prop := fun us => (fun x => ∃ a b, x = a ++ b ∧ ok27 a ∧ ok27 b) us
theorem opens29 : Opens Tryd.prog 29 ok29 := opens_struct Tryd.underlying29 (by kernel_rfl) (opensF_cons (n := 1) (m := 1) opens27 rfl (by kernel_rfl) (by kernel_rfl) (opensF_one (n := 1) opens27 rfl (by kernel_rfl)))
def ok4 : List AVal → Prop := fun us => ∃ b, us = [.bool b]
theorem opens4 : Opens Tryd.prog 4 ok4 := opens_bool Tryd.underlying4
def ok31 : List AVal → Prop := fun us => (fun x => ∃ a b, x = a ++ b ∧ ok5 a ∧ (fun x => ∃ a b, x = a ++ b ∧ ok9 a ∧ (fun x => ∃ a b, x = a ++ b ∧ ok27 a ∧ (fun x => ∃ a b, x = a ++ b ∧ ok29 a ∧ ok4 b) b) b) b) us
theorem opens31 : Opens Tryd.prog 31 ok31 := opens_struct Tryd.underlying31 (by kernel_rfl) (opensF_cons (n := 1) (m := 5) opens5 rfl (by kernel_rfl) (by kernel_rfl) (opensF_cons (n := 1) (m := 4) opens9 rfl (by kernel_rfl) (by kernel_rfl) (opensF_cons (n := 1) (m := 3) opens27 rfl (by kernel_rfl) (by kernel_rfl) (opensF_cons (n := 2) (m := 1) opens29 rfl (by kernel_rfl) (by kernel_rfl) (opensF_one (n := 1) opens4 rfl (by kernel_rfl))))))
def ok23 : List AVal → Prop := fun us => us = [.nilsl] ∨ ∃ xs : List (List AVal), us = [.isl xs.flatten xs.length false] ∧ (∀ x ∈ xs, x.length = 6 ∧ ok31 x) ∧ xs.length ≤ 9223372036854775807 ∧ xs.length * 56 ≤ 140737488351232
theorem opens23 : Opens Tryd.prog 23 ok23 := opens_slice Tryd.underlying23 (by kernel_rfl) (by kernel_rfl) opens31
def ok3 : List AVal → Prop := fun us => ∃ n, us = [.int .i64 n] ∧ (Lit.int .i64 n).wf = true
theorem opens3 : Opens Tryd.prog 3 ok3 := opens_int Tryd.underlying3
end Go.Proofs.YtieieknhhfallaaDoor.AM.OkDedupTakes

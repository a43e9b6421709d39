/- What the arguments of WriterOrder are, as the abstract machine's values. -/
import Derived.Test.YtkfofdeceicfkaaAm2
import Derived.Test.YtkfofdeceicfkaaProg
import Derived.KernelRfl
namespace Go.Proofs.Ytkfofdeceicfkaa.AM.OkWriterOrder
open Go.RowKit Go.ChangeShapes Go.WideShapes
set_option maxRecDepth 100000
def ok22 : List AVal → Prop := fun us => ∃ n, us = [.int .u16 n] ∧ (Lit.int .u16 n).wf = true
theorem opens22 : Opens Try.prog 22 ok22 := opens_int Try.underlying22
def ok5 : List AVal → Prop := fun us => ∃ n, us = [.int .u8 n] ∧ (Lit.int .u8 n).wf = true
theorem opens5 : Opens Try.prog 5 ok5 := opens_int Try.underlying5
def ok33 : List AVal → Prop := fun us => us = [.nilsl] ∨ ∃ xs : List (List AVal), us = [.isl xs.flatten xs.length false] ∧ (∀ x ∈ xs, x.length = 1 ∧ ok5 x) ∧ xs.length ≤ 9223372036854775807 ∧ xs.length * 1 ≤ 140737488351232
theorem opens33 : Opens Try.prog 33 ok33 := opens_slice Try.underlying33 (by kernel_rfl) (by kernel_rfl) opens5
def ok23 : List AVal → Prop := fun us => us = [.nilsl] ∨ ∃ xs : List (List AVal), us = [.isl xs.flatten xs.length false] ∧ (∀ x ∈ xs, x.length = 1 ∧ ok33 x) ∧ xs.length ≤ 9223372036854775807 ∧ xs.length * 24 ≤ 140737488351232
theorem opens23 : Opens Try.prog 23 ok23 := opens_slice Try.underlying23 (by kernel_rfl) (by kernel_rfl) opens33
def ok24 : List AVal → Prop := fun us => us = [.nilsl] ∨ ∃ xs : List (List AVal), us = [.isl xs.flatten xs.length false] ∧ (∀ x ∈ xs, x.length = 1 ∧ ok22 x) ∧ xs.length ≤ 9223372036854775807 ∧ xs.length * 2 ≤ 140737488351232
theorem opens24 : Opens Try.prog 24 ok24 := opens_slice Try.underlying24 (by kernel_rfl) (by kernel_rfl) opens22
end Go.Proofs.Ytkfofdeceicfkaa.AM.OkWriterOrder

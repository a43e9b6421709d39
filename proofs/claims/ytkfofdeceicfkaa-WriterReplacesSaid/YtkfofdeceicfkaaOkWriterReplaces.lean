/- What the arguments of WriterReplaces are, as the abstract machine's values. -/
import Derived.Test.YtkfofdeceicfkaaAm2
import Derived.Test.YtkfofdeceicfkaaProg
import Derived.KernelRfl
namespace Go.Proofs.Ytkfofdeceicfkaa.AM.OkWriterReplaces
open Go.RowKit Go.ChangeShapes Go.WideShapes
set_option maxRecDepth 100000
def ok22 : List AVal → Prop := fun us => ∃ n, us = [.int .u16 n] ∧ (Lit.int .u16 n).wf = true
theorem opens22 : Opens Try.prog 22 ok22 := opens_int Try.underlying22
def ok5 : List AVal → Prop := fun us => ∃ n, us = [.int .u8 n] ∧ (Lit.int .u8 n).wf = true
theorem opens5 : Opens Try.prog 5 ok5 := opens_int Try.underlying5
end Go.Proofs.Ytkfofdeceicfkaa.AM.OkWriterReplaces

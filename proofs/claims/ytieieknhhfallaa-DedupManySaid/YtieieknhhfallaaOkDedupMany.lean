/- What the arguments of DedupMany are, as the abstract machine's values. -/
import Derived.Test.YtieieknhhfallaaAm2
import Derived.Test.YtieieknhhfallaaProg
import Derived.KernelRfl
namespace Go.Proofs.Ytieieknhhfallaa.AM.OkDedupMany
open Go.RowKit Go.ChangeShapes Go.WideShapes
set_option maxRecDepth 100000
def ok22 : List AVal → Prop := fun us => ∃ n, us = [.int .u16 n] ∧ (Lit.int .u16 n).wf = true
theorem opens22 : Opens Try.prog 22 ok22 := opens_int Try.underlying22
def ok9 : List AVal → Prop := fun us => ∃ s : ByteArray, us = [.str s] ∧ s.size ≤ 140737488351232
theorem opens9 : Opens Try.prog 9 ok9 := opens_string Try.underlying9
end Go.Proofs.Ytieieknhhfallaa.AM.OkDedupMany

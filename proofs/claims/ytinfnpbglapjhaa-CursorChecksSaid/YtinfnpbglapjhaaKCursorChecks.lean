/- Any cursor, any bytes. -/
import Derived.Test.YtinfnpbglapjhaaCtx14
import Derived.Test.YtinfnpbglapjhaaOkCursorChecks
namespace Go.Proofs.Ytinfnpbglapjhaa.AM
open Go.RowKit
set_option maxRecDepth 100000
set_option linter.unusedVariables false
set_option linter.unusedSimpArgs false

open OkCursorChecks in
theorem lawCursorChecks (us0 : List AVal) (o0 : ok28 us0) (a1 : AVal) (o1 : ok22 [a1]) (a2 : AVal) (o2 : ok4 [a2]) : ACall Try.prog 8 [.agg us0, a1, a2] σ0 fun v _ => v = .bool true := by
  obtain ⟨l, hb, hl⟩ := b_arg (fun x hx => hx) o1
  obtain ⟨raw, h1⟩ := o2
  cases h1
  obtain ⟨_, hx, rfl, ha, hh⟩ := o0
  obtain ⟨a, b, rfl, ha1, ha2⟩ := p_arg ha
  have hone : ∃ hv : AVal, hx = [hv] := by rcases hh with h | ⟨xs, h, _⟩ <;> exact ⟨_, h⟩
  obtain ⟨hv, rfl⟩ := hone
  obtain ⟨h, hH, hA, hZ⟩ := h_arg2 hh
  exact checks_c hb hl hH hA hZ a b ⟨ha1, ha2⟩ raw

end Go.Proofs.Ytinfnpbglapjhaa.AM

/- Acks. -/
import Derived.Test.YtinfnpbglapjhaaCtxx14
import Derived.Test.YtinfnpbglapjhaaOkCursorAcks
namespace Go.Proofs.Ytinfnpbglapjhaa.AM
open Go.RowKit
set_option maxRecDepth 100000
set_option linter.unusedVariables false
set_option linter.unusedSimpArgs false

open OkCursorAcks in
theorem lawCursorAcks (a0 : AVal) (o0 : ok22 [a0]) (a1 : AVal) (o1 : ok4 [a1]) (a2 : AVal) (o2 : ok5 [a2]) (us3 : List AVal) (o3 : ok28 us3) (us4 : List AVal) (o4 : ok25 us4) (a5 : AVal) (o5 : ok4 [a5]) : ACall Try.prog 3 [a0, a1, a2, .agg us3, .agg us4, a5] σ0 fun v _ => v = .bool true := by
  obtain ⟨l, hb, hl⟩ := b_arg (fun x hx => hx) o0
  obtain ⟨op, h1⟩ := o1
  cases h1
  obtain ⟨n, h2, w2⟩ := o2
  cases h2
  obtain ⟨n, rfl, hn⟩ := wf_u8 w2
  obtain ⟨_, hx, rfl, ha, hh⟩ := o3
  obtain ⟨a, b, rfl, ha1, ha2⟩ := p_arg ha
  obtain ⟨p, q, rfl, hp1, hp2⟩ := p_arg o4
  obtain ⟨raw, h5⟩ := o5
  cases h5
  have hone : ∃ hv : AVal, hx = [hv] := by rcases hh with h | ⟨xs, h, _⟩ <;> exact ⟨_, h⟩
  obtain ⟨hv, rfl⟩ := hone
  obtain ⟨h, hH, hA⟩ := h_arg hh
  exact acks_c hb hl op n hn hH hA a b p q ⟨ha1, ha2⟩ ⟨hp1, hp2⟩ raw

end Go.Proofs.Ytinfnpbglapjhaa.AM

/-
  No cell of these rows narrows 'for every input' (looked for: loops, veiled, ifaces, maps, wideKeys, modest, calm, conditions, laid).
  DERIVED. THE GIVEN ROWS OF THIS SEAT. 6 by the template 'for every input the law returns true; each argument reads behind the call as it read before'; 0 by the template 'total and deterministic' (their statements: YtinfnpbglapjhaaTotals.lean).
  GIVEN WITH THE SEED: the statements are not yours to turn. If you find one false, say at which input.
  Laid BY PROGRAM, IN A SANDBOX (cutbox-rows.mjs): the forced cells as the released guide's own fill.sh prints them over the translation 44409414f7517532… (all of the seat's roots in one cut). By AI agents, Wed Nov 11 2026. No macro, syntax, notation, axiom, sorry.
-/
import Derived.Test.YtinfnpbglapjhaaChecked
import GoSem.Claim
import GoSem.ClaimJoined
import GoSem.ClaimMapViews
import Derived.JoinedTies
import Derived.KernelRfl
namespace Go.Proofs.Ytinfnpbglapjhaa
/- THE CELL 'sum', in the pinned program and in every row, IS THE sha256 OF THE DUMP (.gsa) THAT YtinfnpbglapjhaaProg.lean LOADS. Nothing in Lean hashes anything: it is a label: what it is worth is what the hold of that sum in a sandbox is worth. -/
noncomputable def Try.pinned : Pinned := { name := "ytinfnpbglapjhaa", sum := "44409414f75175325653f1806f7d11c66ffb57cfd272a7bd2e9dd809d78ba76e", checked := Try.checked }
namespace Rows
def none {H : Type} : Left H := { results := [], args := [] }

/-- 'mailcoachlaw14.CursorAcks': WHATEVER THE INPUT: true; the input reads as it did. -/
def cursorAcksSpec : ChangeSpec := { name := "cursorAcks", fn := fun _ => fun
  | [d1, d2, d3, d4, d5, d6] => { results := [.lit (.bool true)], args := [d1, d2, d3, d4, d5, d6] }
  | _ => none }
def cursorAcksRow : OpenClaim := { program := "ytinfnpbglapjhaa", sum := "44409414f75175325653f1806f7d11c66ffb57cfd272a7bd2e9dd809d78ba76e", func := "mailcoach/mailcoachlaw14.CursorAcks", spec := "cursorAcks", unfollowed := true, recurses := true, plainKeys := false, apart := false }
def CursorAcksSaid : Prop := cursorAcksRow.holds Try.pinned (OpenSpec.ofChange cursorAcksSpec)

/-- ITS FALSE NEIGHBOUR: 'it returns false'. Refute it at one input. -/
def cursorAcksWrong : ChangeSpec := { name := "cursorAcks", fn := fun _ => fun
  | [d1, d2, d3, d4, d5, d6] => { results := [.lit (.bool false)], args := [d1, d2, d3, d4, d5, d6] }
  | _ => none }
def CursorAcksWrongFalsely : Prop := cursorAcksRow.holds Try.pinned (OpenSpec.ofChange cursorAcksWrong)

/-- 'mailcoachlaw14.CursorNever': WHATEVER THE INPUT: true; the input reads as it did. -/
def cursorNeverSpec : ChangeSpec := { name := "cursorNever", fn := fun _ => fun
  | [d1, d2, d3, d4, d5, d6, d7] => { results := [.lit (.bool true)], args := [d1, d2, d3, d4, d5, d6, d7] }
  | _ => none }
def cursorNeverRow : OpenClaim := { program := "ytinfnpbglapjhaa", sum := "44409414f75175325653f1806f7d11c66ffb57cfd272a7bd2e9dd809d78ba76e", func := "mailcoach/mailcoachlaw14.CursorNever", spec := "cursorNever", unfollowed := true, recurses := true, plainKeys := false, apart := false }
def CursorNeverSaid : Prop := cursorNeverRow.holds Try.pinned (OpenSpec.ofChange cursorNeverSpec)

/-- ITS FALSE NEIGHBOUR: 'it returns false'. Refute it at one input. -/
def cursorNeverWrong : ChangeSpec := { name := "cursorNever", fn := fun _ => fun
  | [d1, d2, d3, d4, d5, d6, d7] => { results := [.lit (.bool false)], args := [d1, d2, d3, d4, d5, d6, d7] }
  | _ => none }
def CursorNeverWrongFalsely : Prop := cursorNeverRow.holds Try.pinned (OpenSpec.ofChange cursorNeverWrong)

/-- 'mailcoachlaw14.CursorNexts': WHATEVER THE INPUT: true; the input reads as it did. -/
def cursorNextsSpec : ChangeSpec := { name := "cursorNexts", fn := fun _ => fun
  | [d1, d2, d3, d4, d5, d6] => { results := [.lit (.bool true)], args := [d1, d2, d3, d4, d5, d6] }
  | _ => none }
def cursorNextsRow : OpenClaim := { program := "ytinfnpbglapjhaa", sum := "44409414f75175325653f1806f7d11c66ffb57cfd272a7bd2e9dd809d78ba76e", func := "mailcoach/mailcoachlaw14.CursorNexts", spec := "cursorNexts", unfollowed := true, recurses := true, plainKeys := false, apart := false }
def CursorNextsSaid : Prop := cursorNextsRow.holds Try.pinned (OpenSpec.ofChange cursorNextsSpec)

/-- ITS FALSE NEIGHBOUR: 'it returns false'. Refute it at one input. -/
def cursorNextsWrong : ChangeSpec := { name := "cursorNexts", fn := fun _ => fun
  | [d1, d2, d3, d4, d5, d6] => { results := [.lit (.bool false)], args := [d1, d2, d3, d4, d5, d6] }
  | _ => none }
def CursorNextsWrongFalsely : Prop := cursorNextsRow.holds Try.pinned (OpenSpec.ofChange cursorNextsWrong)

/-- 'mailcoachlaw14.CursorOrder': WHATEVER THE INPUT: true; the input reads as it did. -/
def cursorOrderSpec : ChangeSpec := { name := "cursorOrder", fn := fun _ => fun
  | [d1, d2, d3, d4] => { results := [.lit (.bool true)], args := [d1, d2, d3, d4] }
  | _ => none }
def cursorOrderRow : OpenClaim := { program := "ytinfnpbglapjhaa", sum := "44409414f75175325653f1806f7d11c66ffb57cfd272a7bd2e9dd809d78ba76e", func := "mailcoach/mailcoachlaw14.CursorOrder", spec := "cursorOrder", unfollowed := true, recurses := true, plainKeys := false, apart := false }
def CursorOrderSaid : Prop := cursorOrderRow.holds Try.pinned (OpenSpec.ofChange cursorOrderSpec)

/-- ITS FALSE NEIGHBOUR: 'it returns false'. Refute it at one input. -/
def cursorOrderWrong : ChangeSpec := { name := "cursorOrder", fn := fun _ => fun
  | [d1, d2, d3, d4] => { results := [.lit (.bool false)], args := [d1, d2, d3, d4] }
  | _ => none }
def CursorOrderWrongFalsely : Prop := cursorOrderRow.holds Try.pinned (OpenSpec.ofChange cursorOrderWrong)

/-- 'mailcoachlaw14.CursorSwap': WHATEVER THE INPUT: true; the input reads as it did. -/
def cursorSwapSpec : ChangeSpec := { name := "cursorSwap", fn := fun _ => fun
  | [d1, d2, d3, d4, d5, d6] => { results := [.lit (.bool true)], args := [d1, d2, d3, d4, d5, d6] }
  | _ => none }
def cursorSwapRow : OpenClaim := { program := "ytinfnpbglapjhaa", sum := "44409414f75175325653f1806f7d11c66ffb57cfd272a7bd2e9dd809d78ba76e", func := "mailcoach/mailcoachlaw14.CursorSwap", spec := "cursorSwap", unfollowed := true, recurses := true, plainKeys := false, apart := false }
def CursorSwapSaid : Prop := cursorSwapRow.holds Try.pinned (OpenSpec.ofChange cursorSwapSpec)

/-- ITS FALSE NEIGHBOUR: 'it returns false'. Refute it at one input. -/
def cursorSwapWrong : ChangeSpec := { name := "cursorSwap", fn := fun _ => fun
  | [d1, d2, d3, d4, d5, d6] => { results := [.lit (.bool false)], args := [d1, d2, d3, d4, d5, d6] }
  | _ => none }
def CursorSwapWrongFalsely : Prop := cursorSwapRow.holds Try.pinned (OpenSpec.ofChange cursorSwapWrong)

/-- 'mailcoachlaw14.CursorChecks': WHATEVER THE INPUT: true; the input reads as it did. -/
def cursorChecksSpec : ChangeSpec := { name := "cursorChecks", fn := fun _ => fun
  | [d1, d2, d3] => { results := [.lit (.bool true)], args := [d1, d2, d3] }
  | _ => none }
def cursorChecksRow : OpenClaim := { program := "ytinfnpbglapjhaa", sum := "44409414f75175325653f1806f7d11c66ffb57cfd272a7bd2e9dd809d78ba76e", func := "mailcoach/mailcoachlaw14.CursorChecks", spec := "cursorChecks", unfollowed := true, recurses := true, plainKeys := false, apart := false }
def CursorChecksSaid : Prop := cursorChecksRow.holds Try.pinned (OpenSpec.ofChange cursorChecksSpec)

/-- ITS FALSE NEIGHBOUR: 'it returns false'. Refute it at one input. -/
def cursorChecksWrong : ChangeSpec := { name := "cursorChecks", fn := fun _ => fun
  | [d1, d2, d3] => { results := [.lit (.bool false)], args := [d1, d2, d3] }
  | _ => none }
def CursorChecksWrongFalsely : Prop := cursorChecksRow.holds Try.pinned (OpenSpec.ofChange cursorChecksWrong)

/- THE SECOND FORM. 'bulk': how many values and letters a reading holds, each counted each time it is reached (what is shared counts as often as it is met; a slice's spare places count too). A statement '..UptoSaid' is the law's where the arguments, and the package variables that the reading takes, are together of bulk at most 1048576: NARROWER than '..Said'. Prove '..Said' where nothing that the law and all that it calls make is longer than what came in: it says more and counts as full. Else prove '..UptoSaid'. A law counts once. -/
mutual
def uptoBulk {H : Type} : DataW H → Nat
  | .lit (.string bytes) => bytes.length + 1
  | .lit _ => 1
  | .nil => 1
  | .ptr d => uptoBulk d + 1
  | .slice elems spare => uptoBulkAll elems + uptoBulkAll spare + 1
  | .agg parts => uptoBulkAll parts + 1
  | .iface _ d => uptoBulk d + 1
  | .map entries => uptoBulkEntries entries + 1
  | .held _ => 1
def uptoBulkAll {H : Type} : List (DataW H) → Nat
  | [] => 0
  | d :: r => uptoBulk d + uptoBulkAll r
def uptoBulkEntries {H : Type} : List (Lit × DataW H) → Nat
  | [] => 0
  | x :: r => uptoBulkEntry x + uptoBulkEntries r
def uptoBulkEntry {H : Type} : Lit × DataW H → Nat
  | (.string bytes, d) => bytes.length + uptoBulk d + 1
  | (_, d) => uptoBulk d + 1
 end
def uptoSmall : (H : Type) → List (DataW H) → Bool := fun _ ds => decide (uptoBulkAll ds ≤ 1048576)
def OpenSpec.upto (s : _root_.Go.ChangeSpec) : _root_.Go.OpenSpec := { _root_.Go.OpenSpec.ofChange s with cond := some uptoSmall }

/-- 'mailcoachlaw14.CursorAcks', WHERE WHAT IT READS IS OF BULK AT MOST 1048576: true; the input reads as it did. -/
def cursorAcksUptoRow : OpenClaim := { program := "ytinfnpbglapjhaa", sum := "44409414f75175325653f1806f7d11c66ffb57cfd272a7bd2e9dd809d78ba76e", func := "mailcoach/mailcoachlaw14.CursorAcks", spec := "cursorAcks", unfollowed := true, recurses := true, plainKeys := false, apart := false, narrowed := true }
def CursorAcksUptoSaid : Prop := cursorAcksUptoRow.holds Try.pinned (OpenSpec.upto cursorAcksSpec)

/-- 'mailcoachlaw14.CursorNever', WHERE WHAT IT READS IS OF BULK AT MOST 1048576: true; the input reads as it did. -/
def cursorNeverUptoRow : OpenClaim := { program := "ytinfnpbglapjhaa", sum := "44409414f75175325653f1806f7d11c66ffb57cfd272a7bd2e9dd809d78ba76e", func := "mailcoach/mailcoachlaw14.CursorNever", spec := "cursorNever", unfollowed := true, recurses := true, plainKeys := false, apart := false, narrowed := true }
def CursorNeverUptoSaid : Prop := cursorNeverUptoRow.holds Try.pinned (OpenSpec.upto cursorNeverSpec)

/-- 'mailcoachlaw14.CursorNexts', WHERE WHAT IT READS IS OF BULK AT MOST 1048576: true; the input reads as it did. -/
def cursorNextsUptoRow : OpenClaim := { program := "ytinfnpbglapjhaa", sum := "44409414f75175325653f1806f7d11c66ffb57cfd272a7bd2e9dd809d78ba76e", func := "mailcoach/mailcoachlaw14.CursorNexts", spec := "cursorNexts", unfollowed := true, recurses := true, plainKeys := false, apart := false, narrowed := true }
def CursorNextsUptoSaid : Prop := cursorNextsUptoRow.holds Try.pinned (OpenSpec.upto cursorNextsSpec)

/-- 'mailcoachlaw14.CursorOrder', WHERE WHAT IT READS IS OF BULK AT MOST 1048576: true; the input reads as it did. -/
def cursorOrderUptoRow : OpenClaim := { program := "ytinfnpbglapjhaa", sum := "44409414f75175325653f1806f7d11c66ffb57cfd272a7bd2e9dd809d78ba76e", func := "mailcoach/mailcoachlaw14.CursorOrder", spec := "cursorOrder", unfollowed := true, recurses := true, plainKeys := false, apart := false, narrowed := true }
def CursorOrderUptoSaid : Prop := cursorOrderUptoRow.holds Try.pinned (OpenSpec.upto cursorOrderSpec)

/-- 'mailcoachlaw14.CursorSwap', WHERE WHAT IT READS IS OF BULK AT MOST 1048576: true; the input reads as it did. -/
def cursorSwapUptoRow : OpenClaim := { program := "ytinfnpbglapjhaa", sum := "44409414f75175325653f1806f7d11c66ffb57cfd272a7bd2e9dd809d78ba76e", func := "mailcoach/mailcoachlaw14.CursorSwap", spec := "cursorSwap", unfollowed := true, recurses := true, plainKeys := false, apart := false, narrowed := true }
def CursorSwapUptoSaid : Prop := cursorSwapUptoRow.holds Try.pinned (OpenSpec.upto cursorSwapSpec)

/-- 'mailcoachlaw14.CursorChecks', WHERE WHAT IT READS IS OF BULK AT MOST 1048576: true; the input reads as it did. -/
def cursorChecksUptoRow : OpenClaim := { program := "ytinfnpbglapjhaa", sum := "44409414f75175325653f1806f7d11c66ffb57cfd272a7bd2e9dd809d78ba76e", func := "mailcoach/mailcoachlaw14.CursorChecks", spec := "cursorChecks", unfollowed := true, recurses := true, plainKeys := false, apart := false, narrowed := true }
def CursorChecksUptoSaid : Prop := cursorChecksUptoRow.holds Try.pinned (OpenSpec.upto cursorChecksSpec)

end Rows
end Go.Proofs.Ytinfnpbglapjhaa

/-
  No cell of these rows narrows 'for every input' (looked for: loops, veiled, ifaces, maps, wideKeys, modest, calm, conditions, laid).
  DERIVED. THE GIVEN ROWS OF THIS SEAT. 5 by the template 'for every input the law returns true; each argument reads behind the call as it read before'; 0 by the template 'total and deterministic' (their statements: YtkfofdeceicfkaaTotals.lean).
  GIVEN WITH THE SEED: the statements are not yours to turn. If you find one false, say at which input.
  Laid BY PROGRAM, IN A SANDBOX (cutbox-rows.mjs): the forced cells as the released guide's own fill.sh prints them over the translation ec5e8ae3639dabfa… (all of the seat's roots in one cut). By AI agents, Wed Nov 11 2026. No macro, syntax, notation, axiom, sorry.
-/
import Derived.Test.YtkfofdeceicfkaaChecked
import GoSem.Claim
import GoSem.ClaimJoined
import GoSem.ClaimMapViews
import Derived.JoinedTies
import Derived.KernelRfl
namespace Go.Proofs.Ytkfofdeceicfkaa
/- THE CELL 'sum', in the pinned program and in every row, IS THE sha256 OF THE DUMP (.gsa) THAT YtkfofdeceicfkaaProg.lean LOADS. Nothing in Lean hashes anything: it is a label: what it is worth is what the hold of that sum in a sandbox is worth. -/
noncomputable def Try.pinned : Pinned := { name := "ytkfofdeceicfkaa", sum := "ec5e8ae3639dabfad32826629958e2fd745aaa710c068e7c255d9accc307a1f2", checked := Try.checked }
namespace Rows
def none {H : Type} : Left H := { results := [], args := [] }

/-- 'mailcoachlaw11.WriterOrder': WHATEVER THE INPUT: true; the input reads as it did. -/
def writerOrderSpec : ChangeSpec := { name := "writerOrder", fn := fun _ => fun
  | [d1, d2, d3] => { results := [.lit (.bool true)], args := [d1, d2, d3] }
  | _ => none }
def writerOrderRow : OpenClaim := { program := "ytkfofdeceicfkaa", sum := "ec5e8ae3639dabfad32826629958e2fd745aaa710c068e7c255d9accc307a1f2", func := "mailcoach/mailcoachlaw11.WriterOrder", spec := "writerOrder", apart := false }
def WriterOrderSaid : Prop := writerOrderRow.holds Try.pinned (OpenSpec.ofChange writerOrderSpec)

/-- ITS FALSE NEIGHBOUR: 'it returns false'. Refute it at one input. -/
def writerOrderWrong : ChangeSpec := { name := "writerOrder", fn := fun _ => fun
  | [d1, d2, d3] => { results := [.lit (.bool false)], args := [d1, d2, d3] }
  | _ => none }
def WriterOrderWrongFalsely : Prop := writerOrderRow.holds Try.pinned (OpenSpec.ofChange writerOrderWrong)

/-- 'mailcoachlaw11.WriterMany': WHATEVER THE INPUT: true; the input reads as it did. -/
def writerManySpec : ChangeSpec := { name := "writerMany", fn := fun _ => fun
  | [d1, d2] => { results := [.lit (.bool true)], args := [d1, d2] }
  | _ => none }
def writerManyRow : OpenClaim := { program := "ytkfofdeceicfkaa", sum := "ec5e8ae3639dabfad32826629958e2fd745aaa710c068e7c255d9accc307a1f2", func := "mailcoach/mailcoachlaw11.WriterMany", spec := "writerMany", apart := false }
def WriterManySaid : Prop := writerManyRow.holds Try.pinned (OpenSpec.ofChange writerManySpec)

/-- ITS FALSE NEIGHBOUR: 'it returns false'. Refute it at one input. -/
def writerManyWrong : ChangeSpec := { name := "writerMany", fn := fun _ => fun
  | [d1, d2] => { results := [.lit (.bool false)], args := [d1, d2] }
  | _ => none }
def WriterManyWrongFalsely : Prop := writerManyRow.holds Try.pinned (OpenSpec.ofChange writerManyWrong)

/-- 'mailcoachlaw11.WriterReplaces': WHATEVER THE INPUT: true; the input reads as it did. -/
def writerReplacesSpec : ChangeSpec := { name := "writerReplaces", fn := fun _ => fun
  | [d1, d2, d3] => { results := [.lit (.bool true)], args := [d1, d2, d3] }
  | _ => none }
def writerReplacesRow : OpenClaim := { program := "ytkfofdeceicfkaa", sum := "ec5e8ae3639dabfad32826629958e2fd745aaa710c068e7c255d9accc307a1f2", func := "mailcoach/mailcoachlaw11.WriterReplaces", spec := "writerReplaces", apart := false }
def WriterReplacesSaid : Prop := writerReplacesRow.holds Try.pinned (OpenSpec.ofChange writerReplacesSpec)

/-- ITS FALSE NEIGHBOUR: 'it returns false'. Refute it at one input. -/
def writerReplacesWrong : ChangeSpec := { name := "writerReplaces", fn := fun _ => fun
  | [d1, d2, d3] => { results := [.lit (.bool false)], args := [d1, d2, d3] }
  | _ => none }
def WriterReplacesWrongFalsely : Prop := writerReplacesRow.holds Try.pinned (OpenSpec.ofChange writerReplacesWrong)

/-- 'mailcoachlaw11.WriterPlays': WHATEVER THE INPUT: true; the input reads as it did. -/
def writerPlaysSpec : ChangeSpec := { name := "writerPlays", fn := fun _ => fun
  | [d1, d2, d3] => { results := [.lit (.bool true)], args := [d1, d2, d3] }
  | _ => none }
def writerPlaysRow : OpenClaim := { program := "ytkfofdeceicfkaa", sum := "ec5e8ae3639dabfad32826629958e2fd745aaa710c068e7c255d9accc307a1f2", func := "mailcoach/mailcoachlaw11.WriterPlays", spec := "writerPlays", apart := false }
def WriterPlaysSaid : Prop := writerPlaysRow.holds Try.pinned (OpenSpec.ofChange writerPlaysSpec)

/-- ITS FALSE NEIGHBOUR: 'it returns false'. Refute it at one input. -/
def writerPlaysWrong : ChangeSpec := { name := "writerPlays", fn := fun _ => fun
  | [d1, d2, d3] => { results := [.lit (.bool false)], args := [d1, d2, d3] }
  | _ => none }
def WriterPlaysWrongFalsely : Prop := writerPlaysRow.holds Try.pinned (OpenSpec.ofChange writerPlaysWrong)

/-- 'mailcoachlaw11.WriterNil': WHATEVER THE INPUT: true; the input reads as it did. -/
def writerNilSpec : ChangeSpec := { name := "writerNil", fn := fun _ => fun
  | [d] => { results := [.lit (.bool true)], args := [d] }
  | _ => none }
def writerNilRow : OpenClaim := { program := "ytkfofdeceicfkaa", sum := "ec5e8ae3639dabfad32826629958e2fd745aaa710c068e7c255d9accc307a1f2", func := "mailcoach/mailcoachlaw11.WriterNil", spec := "writerNil", apart := false }
def WriterNilSaid : Prop := writerNilRow.holds Try.pinned (OpenSpec.ofChange writerNilSpec)

/-- ITS FALSE NEIGHBOUR: 'it returns false'. Refute it at one input. -/
def writerNilWrong : ChangeSpec := { name := "writerNil", fn := fun _ => fun
  | [d] => { results := [.lit (.bool false)], args := [d] }
  | _ => none }
def WriterNilWrongFalsely : Prop := writerNilRow.holds Try.pinned (OpenSpec.ofChange writerNilWrong)

/- THE SECOND FORM. 'bulk': how many values and letters a reading holds, each counted each time it is reached (what is shared counts as often as it is met; a slice's spare places count too). A statement '..UptoSaid' is the law's where the arguments, and the package variables that the reading takes, are together of bulk at most 1048576: NARROWER than '..Said'. Prove '..Said' where nothing that the law and all that it calls make is longer than what came in: it says more and counts as full. Else prove '..UptoSaid'. A law counts once. -/
mutual
def uptoBulk {H : Type} : DataW H → Nat
  | .lit (.string bytes) => bytes.length + 1
  | .lit _ => 1
  | .nil => 1
  | .ptr d => uptoBulk d + 1
  | .slice elems spare => uptoBulkAll elems + uptoBulkAll spare + 1
  | .agg parts => uptoBulkAll parts + 1
  | .iface _ d => uptoBulk d + 1
  | .map entries => uptoBulkEntries entries + 1
  | .held _ => 1
def uptoBulkAll {H : Type} : List (DataW H) → Nat
  | [] => 0
  | d :: r => uptoBulk d + uptoBulkAll r
def uptoBulkEntries {H : Type} : List (Lit × DataW H) → Nat
  | [] => 0
  | x :: r => uptoBulkEntry x + uptoBulkEntries r
def uptoBulkEntry {H : Type} : Lit × DataW H → Nat
  | (.string bytes, d) => bytes.length + uptoBulk d + 1
  | (_, d) => uptoBulk d + 1
 end
def uptoSmall : (H : Type) → List (DataW H) → Bool := fun _ ds => decide (uptoBulkAll ds ≤ 1048576)
def OpenSpec.upto (s : _root_.Go.ChangeSpec) : _root_.Go.OpenSpec := { _root_.Go.OpenSpec.ofChange s with cond := some uptoSmall }

/-- 'mailcoachlaw11.WriterOrder', WHERE WHAT IT READS IS OF BULK AT MOST 1048576: true; the input reads as it did. -/
def writerOrderUptoRow : OpenClaim := { program := "ytkfofdeceicfkaa", sum := "ec5e8ae3639dabfad32826629958e2fd745aaa710c068e7c255d9accc307a1f2", func := "mailcoach/mailcoachlaw11.WriterOrder", spec := "writerOrder", apart := false, narrowed := true }
def WriterOrderUptoSaid : Prop := writerOrderUptoRow.holds Try.pinned (OpenSpec.upto writerOrderSpec)

/-- 'mailcoachlaw11.WriterMany', WHERE WHAT IT READS IS OF BULK AT MOST 1048576: true; the input reads as it did. -/
def writerManyUptoRow : OpenClaim := { program := "ytkfofdeceicfkaa", sum := "ec5e8ae3639dabfad32826629958e2fd745aaa710c068e7c255d9accc307a1f2", func := "mailcoach/mailcoachlaw11.WriterMany", spec := "writerMany", apart := false, narrowed := true }
def WriterManyUptoSaid : Prop := writerManyUptoRow.holds Try.pinned (OpenSpec.upto writerManySpec)

/-- 'mailcoachlaw11.WriterReplaces', WHERE WHAT IT READS IS OF BULK AT MOST 1048576: true; the input reads as it did. -/
def writerReplacesUptoRow : OpenClaim := { program := "ytkfofdeceicfkaa", sum := "ec5e8ae3639dabfad32826629958e2fd745aaa710c068e7c255d9accc307a1f2", func := "mailcoach/mailcoachlaw11.WriterReplaces", spec := "writerReplaces", apart := false, narrowed := true }
def WriterReplacesUptoSaid : Prop := writerReplacesUptoRow.holds Try.pinned (OpenSpec.upto writerReplacesSpec)

/-- 'mailcoachlaw11.WriterPlays', WHERE WHAT IT READS IS OF BULK AT MOST 1048576: true; the input reads as it did. -/
def writerPlaysUptoRow : OpenClaim := { program := "ytkfofdeceicfkaa", sum := "ec5e8ae3639dabfad32826629958e2fd745aaa710c068e7c255d9accc307a1f2", func := "mailcoach/mailcoachlaw11.WriterPlays", spec := "writerPlays", apart := false, narrowed := true }
def WriterPlaysUptoSaid : Prop := writerPlaysUptoRow.holds Try.pinned (OpenSpec.upto writerPlaysSpec)

/-- 'mailcoachlaw11.WriterNil', WHERE WHAT IT READS IS OF BULK AT MOST 1048576: true; the input reads as it did. -/
def writerNilUptoRow : OpenClaim := { program := "ytkfofdeceicfkaa", sum := "ec5e8ae3639dabfad32826629958e2fd745aaa710c068e7c255d9accc307a1f2", func := "mailcoach/mailcoachlaw11.WriterNil", spec := "writerNil", apart := false, narrowed := true }
def WriterNilUptoSaid : Prop := writerNilUptoRow.holds Try.pinned (OpenSpec.upto writerNilSpec)

end Rows
end Go.Proofs.Ytkfofdeceicfkaa

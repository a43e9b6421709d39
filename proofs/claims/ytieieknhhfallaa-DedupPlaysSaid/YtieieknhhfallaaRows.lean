/-
  No cell of these rows narrows 'for every input' (looked for: loops, veiled, ifaces, maps, wideKeys, modest, calm, conditions, laid).
  DERIVED. THE GIVEN ROWS OF THIS SEAT. 3 by the template 'for every input the law returns true; each argument reads behind the call as it read before'; 0 by the template 'total and deterministic' (their statements: YtieieknhhfallaaTotals.lean).
  GIVEN WITH THE SEED: the statements are not yours to turn. If you find one false, say at which input.
  Laid BY PROGRAM, IN A SANDBOX (cutbox-rows.mjs): the forced cells as the released guide's own fill.sh prints them over the translation 11d5decbc70145fb… (all of the seat's roots in one cut). By AI agents, Wed Nov 11 2026. No macro, syntax, notation, axiom, sorry.
-/
import Derived.Test.YtieieknhhfallaaChecked
import GoSem.Claim
import GoSem.ClaimJoined
import GoSem.ClaimMapViews
import Derived.JoinedTies
import Derived.KernelRfl
namespace Go.Proofs.Ytieieknhhfallaa
/- THE CELL 'sum', in the pinned program and in every row, IS THE sha256 OF THE DUMP (.gsa) THAT YtieieknhhfallaaProg.lean LOADS. Nothing in Lean hashes anything: it is a label: what it is worth is what the hold of that sum in a sandbox is worth. -/
noncomputable def Try.pinned : Pinned := { name := "ytieieknhhfallaa", sum := "11d5decbc70145fbd3acdd50fbfeccf749047c0b2b11e9a8efe61862d47e994d", checked := Try.checked }
namespace Rows
def none {H : Type} : Left H := { results := [], args := [] }

/-- 'mailcoachlaw15.DedupMany': WHATEVER THE INPUT: true; the input reads as it did. -/
def dedupManySpec : ChangeSpec := { name := "dedupMany", fn := fun _ => fun
  | [d1, d2] => { results := [.lit (.bool true)], args := [d1, d2] }
  | _ => none }
def dedupManyRow : OpenClaim := { program := "ytieieknhhfallaa", sum := "11d5decbc70145fbd3acdd50fbfeccf749047c0b2b11e9a8efe61862d47e994d", func := "mailcoach/mailcoachlaw15.DedupMany", spec := "dedupMany", apart := false }
def DedupManySaid : Prop := dedupManyRow.holds Try.pinned (OpenSpec.ofChange dedupManySpec)

/-- ITS FALSE NEIGHBOUR: 'it returns false'. Refute it at one input. -/
def dedupManyWrong : ChangeSpec := { name := "dedupMany", fn := fun _ => fun
  | [d1, d2] => { results := [.lit (.bool false)], args := [d1, d2] }
  | _ => none }
def DedupManyWrongFalsely : Prop := dedupManyRow.holds Try.pinned (OpenSpec.ofChange dedupManyWrong)

/-- 'mailcoachlaw15.DedupNil': WHATEVER THE INPUT: true; the input reads as it did. -/
def dedupNilSpec : ChangeSpec := { name := "dedupNil", fn := fun _ => fun
  | [d] => { results := [.lit (.bool true)], args := [d] }
  | _ => none }
def dedupNilRow : OpenClaim := { program := "ytieieknhhfallaa", sum := "11d5decbc70145fbd3acdd50fbfeccf749047c0b2b11e9a8efe61862d47e994d", func := "mailcoach/mailcoachlaw15.DedupNil", spec := "dedupNil", unfollowed := true, recurses := true, apart := false }
def DedupNilSaid : Prop := dedupNilRow.holds Try.pinned (OpenSpec.ofChange dedupNilSpec)

/-- ITS FALSE NEIGHBOUR: 'it returns false'. Refute it at one input. -/
def dedupNilWrong : ChangeSpec := { name := "dedupNil", fn := fun _ => fun
  | [d] => { results := [.lit (.bool false)], args := [d] }
  | _ => none }
def DedupNilWrongFalsely : Prop := dedupNilRow.holds Try.pinned (OpenSpec.ofChange dedupNilWrong)

/-- 'mailcoachlaw15.DedupPlays': WHATEVER THE INPUT: true; the input reads as it did. -/
def dedupPlaysSpec : ChangeSpec := { name := "dedupPlays", fn := fun _ => fun
  | [d] => { results := [.lit (.bool true)], args := [d] }
  | _ => none }
def dedupPlaysRow : OpenClaim := { program := "ytieieknhhfallaa", sum := "11d5decbc70145fbd3acdd50fbfeccf749047c0b2b11e9a8efe61862d47e994d", func := "mailcoach/mailcoachlaw15.DedupPlays", spec := "dedupPlays", unfollowed := true, recurses := true, apart := false }
def DedupPlaysSaid : Prop := dedupPlaysRow.holds Try.pinned (OpenSpec.ofChange dedupPlaysSpec)

/-- ITS FALSE NEIGHBOUR: 'it returns false'. Refute it at one input. -/
def dedupPlaysWrong : ChangeSpec := { name := "dedupPlays", fn := fun _ => fun
  | [d] => { results := [.lit (.bool false)], args := [d] }
  | _ => none }
def DedupPlaysWrongFalsely : Prop := dedupPlaysRow.holds Try.pinned (OpenSpec.ofChange dedupPlaysWrong)

/- THE SECOND FORM. 'bulk': how many values and letters a reading holds, each counted each time it is reached (what is shared counts as often as it is met; a slice's spare places count too). A statement '..UptoSaid' is the law's where the arguments, and the package variables that the reading takes, are together of bulk at most 1048576: NARROWER than '..Said'. Prove '..Said' where nothing that the law and all that it calls make is longer than what came in: it says more and counts as full. Else prove '..UptoSaid'. A law counts once. -/
mutual
def uptoBulk {H : Type} : DataW H → Nat
  | .lit (.string bytes) => bytes.length + 1
  | .lit _ => 1
  | .nil => 1
  | .ptr d => uptoBulk d + 1
  | .slice elems spare => uptoBulkAll elems + uptoBulkAll spare + 1
  | .agg parts => uptoBulkAll parts + 1
  | .iface _ d => uptoBulk d + 1
  | .map entries => uptoBulkEntries entries + 1
  | .held _ => 1
def uptoBulkAll {H : Type} : List (DataW H) → Nat
  | [] => 0
  | d :: r => uptoBulk d + uptoBulkAll r
def uptoBulkEntries {H : Type} : List (Lit × DataW H) → Nat
  | [] => 0
  | x :: r => uptoBulkEntry x + uptoBulkEntries r
def uptoBulkEntry {H : Type} : Lit × DataW H → Nat
  | (.string bytes, d) => bytes.length + uptoBulk d + 1
  | (_, d) => uptoBulk d + 1
 end
def uptoSmall : (H : Type) → List (DataW H) → Bool := fun _ ds => decide (uptoBulkAll ds ≤ 1048576)
def OpenSpec.upto (s : _root_.Go.ChangeSpec) : _root_.Go.OpenSpec := { _root_.Go.OpenSpec.ofChange s with cond := some uptoSmall }

/-- 'mailcoachlaw15.DedupMany', WHERE WHAT IT READS IS OF BULK AT MOST 1048576: true; the input reads as it did. -/
def dedupManyUptoRow : OpenClaim := { program := "ytieieknhhfallaa", sum := "11d5decbc70145fbd3acdd50fbfeccf749047c0b2b11e9a8efe61862d47e994d", func := "mailcoach/mailcoachlaw15.DedupMany", spec := "dedupMany", apart := false, narrowed := true }
def DedupManyUptoSaid : Prop := dedupManyUptoRow.holds Try.pinned (OpenSpec.upto dedupManySpec)

/-- 'mailcoachlaw15.DedupNil', WHERE WHAT IT READS IS OF BULK AT MOST 1048576: true; the input reads as it did. -/
def dedupNilUptoRow : OpenClaim := { program := "ytieieknhhfallaa", sum := "11d5decbc70145fbd3acdd50fbfeccf749047c0b2b11e9a8efe61862d47e994d", func := "mailcoach/mailcoachlaw15.DedupNil", spec := "dedupNil", unfollowed := true, recurses := true, apart := false, narrowed := true }
def DedupNilUptoSaid : Prop := dedupNilUptoRow.holds Try.pinned (OpenSpec.upto dedupNilSpec)

/-- 'mailcoachlaw15.DedupPlays', WHERE WHAT IT READS IS OF BULK AT MOST 1048576: true; the input reads as it did. -/
def dedupPlaysUptoRow : OpenClaim := { program := "ytieieknhhfallaa", sum := "11d5decbc70145fbd3acdd50fbfeccf749047c0b2b11e9a8efe61862d47e994d", func := "mailcoach/mailcoachlaw15.DedupPlays", spec := "dedupPlays", unfollowed := true, recurses := true, apart := false, narrowed := true }
def DedupPlaysUptoSaid : Prop := dedupPlaysUptoRow.holds Try.pinned (OpenSpec.upto dedupPlaysSpec)

end Rows
end Go.Proofs.Ytieieknhhfallaa

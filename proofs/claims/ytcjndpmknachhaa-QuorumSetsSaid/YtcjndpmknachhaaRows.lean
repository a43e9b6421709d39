/-
  No cell of these rows narrows 'for every input' (looked for: loops, veiled, ifaces, maps, wideKeys, modest, calm, conditions, laid).
  DERIVED. THE GIVEN ROWS OF THIS SEAT. 5 by the template 'for every input the law returns true; each argument reads behind the call as it read before'; 0 by the template 'total and deterministic' (their statements: YtcjndpmknachhaaTotals.lean).
  GIVEN WITH THE SEED: the statements are not yours to turn. If you find one false, say at which input.
  Laid BY PROGRAM, IN A SANDBOX (cutbox-rows.mjs): the forced cells as the released guide's own fill.sh prints them over the translation 8c73a946702c2999… (all of the seat's roots in one cut). By AI agents, Wed Nov 11 2026. No macro, syntax, notation, axiom, sorry.
-/
import Derived.Test.YtcjndpmknachhaaChecked
import GoSem.Claim
import GoSem.ClaimJoined
import GoSem.ClaimMapViews
import Derived.JoinedTies
import Derived.KernelRfl
namespace Go.Proofs.Ytcjndpmknachhaa
/- THE CELL 'sum', in the pinned program and in every row, IS THE sha256 OF THE DUMP (.gsa) THAT YtcjndpmknachhaaProg.lean LOADS. Nothing in Lean hashes anything: it is a label: what it is worth is what the hold of that sum in a sandbox is worth. -/
noncomputable def Try.pinned : Pinned := { name := "ytcjndpmknachhaa", sum := "8c73a946702c29996a2e251b8f9ed89031e1e225b70c400063d74e21c1afaf05", checked := Try.checked }
namespace Rows
def none {H : Type} : Left H := { results := [], args := [] }

/-- 'mailcoachlaw10.QuorumSpread': WHATEVER THE INPUT: true; the input reads as it did. -/
def quorumSpreadSpec : ChangeSpec := { name := "quorumSpread", fn := fun _ => fun
  | [d1, d2] => { results := [.lit (.bool true)], args := [d1, d2] }
  | _ => none }
def quorumSpreadRow : OpenClaim := { program := "ytcjndpmknachhaa", sum := "8c73a946702c29996a2e251b8f9ed89031e1e225b70c400063d74e21c1afaf05", func := "mailcoach/mailcoachlaw10.QuorumSpread", spec := "quorumSpread", apart := false }
def QuorumSpreadSaid : Prop := quorumSpreadRow.holds Try.pinned (OpenSpec.ofChange quorumSpreadSpec)

/-- ITS FALSE NEIGHBOUR: 'it returns false'. Refute it at one input. -/
def quorumSpreadWrong : ChangeSpec := { name := "quorumSpread", fn := fun _ => fun
  | [d1, d2] => { results := [.lit (.bool false)], args := [d1, d2] }
  | _ => none }
def QuorumSpreadWrongFalsely : Prop := quorumSpreadRow.holds Try.pinned (OpenSpec.ofChange quorumSpreadWrong)

/-- 'mailcoachlaw10.QuorumSets': WHATEVER THE INPUT: true; the input reads as it did. -/
def quorumSetsSpec : ChangeSpec := { name := "quorumSets", fn := fun _ => fun
  | [d1, d2, d3, d4] => { results := [.lit (.bool true)], args := [d1, d2, d3, d4] }
  | _ => none }
def quorumSetsRow : OpenClaim := { program := "ytcjndpmknachhaa", sum := "8c73a946702c29996a2e251b8f9ed89031e1e225b70c400063d74e21c1afaf05", func := "mailcoach/mailcoachlaw10.QuorumSets", spec := "quorumSets", apart := false }
def QuorumSetsSaid : Prop := quorumSetsRow.holds Try.pinned (OpenSpec.ofChange quorumSetsSpec)

/-- ITS FALSE NEIGHBOUR: 'it returns false'. Refute it at one input. -/
def quorumSetsWrong : ChangeSpec := { name := "quorumSets", fn := fun _ => fun
  | [d1, d2, d3, d4] => { results := [.lit (.bool false)], args := [d1, d2, d3, d4] }
  | _ => none }
def QuorumSetsWrongFalsely : Prop := quorumSetsRow.holds Try.pinned (OpenSpec.ofChange quorumSetsWrong)

/-- 'mailcoachlaw10.QuorumMeets': WHATEVER THE INPUT: true; the input reads as it did. -/
def quorumMeetsSpec : ChangeSpec := { name := "quorumMeets", fn := fun _ => fun
  | [d1, d2, d3, d4] => { results := [.lit (.bool true)], args := [d1, d2, d3, d4] }
  | _ => none }
def quorumMeetsRow : OpenClaim := { program := "ytcjndpmknachhaa", sum := "8c73a946702c29996a2e251b8f9ed89031e1e225b70c400063d74e21c1afaf05", func := "mailcoach/mailcoachlaw10.QuorumMeets", spec := "quorumMeets", apart := false }
def QuorumMeetsSaid : Prop := quorumMeetsRow.holds Try.pinned (OpenSpec.ofChange quorumMeetsSpec)

/-- ITS FALSE NEIGHBOUR: 'it returns false'. Refute it at one input. -/
def quorumMeetsWrong : ChangeSpec := { name := "quorumMeets", fn := fun _ => fun
  | [d1, d2, d3, d4] => { results := [.lit (.bool false)], args := [d1, d2, d3, d4] }
  | _ => none }
def QuorumMeetsWrongFalsely : Prop := quorumMeetsRow.holds Try.pinned (OpenSpec.ofChange quorumMeetsWrong)

/-- 'mailcoachlaw10.QuorumOthers': WHATEVER THE INPUT: true; the input reads as it did. -/
def quorumOthersSpec : ChangeSpec := { name := "quorumOthers", fn := fun _ => fun
  | [d1, d2, d3] => { results := [.lit (.bool true)], args := [d1, d2, d3] }
  | _ => none }
def quorumOthersRow : OpenClaim := { program := "ytcjndpmknachhaa", sum := "8c73a946702c29996a2e251b8f9ed89031e1e225b70c400063d74e21c1afaf05", func := "mailcoach/mailcoachlaw10.QuorumOthers", spec := "quorumOthers", apart := false }
def QuorumOthersSaid : Prop := quorumOthersRow.holds Try.pinned (OpenSpec.ofChange quorumOthersSpec)

/-- ITS FALSE NEIGHBOUR: 'it returns false'. Refute it at one input. -/
def quorumOthersWrong : ChangeSpec := { name := "quorumOthers", fn := fun _ => fun
  | [d1, d2, d3] => { results := [.lit (.bool false)], args := [d1, d2, d3] }
  | _ => none }
def QuorumOthersWrongFalsely : Prop := quorumOthersRow.holds Try.pinned (OpenSpec.ofChange quorumOthersWrong)

/-- 'mailcoachlaw10.QuorumMore': WHATEVER THE INPUT: true; the input reads as it did. -/
def quorumMoreSpec : ChangeSpec := { name := "quorumMore", fn := fun _ => fun
  | [d1, d2, d3, d4] => { results := [.lit (.bool true)], args := [d1, d2, d3, d4] }
  | _ => none }
def quorumMoreRow : OpenClaim := { program := "ytcjndpmknachhaa", sum := "8c73a946702c29996a2e251b8f9ed89031e1e225b70c400063d74e21c1afaf05", func := "mailcoach/mailcoachlaw10.QuorumMore", spec := "quorumMore", apart := false }
def QuorumMoreSaid : Prop := quorumMoreRow.holds Try.pinned (OpenSpec.ofChange quorumMoreSpec)

/-- ITS FALSE NEIGHBOUR: 'it returns false'. Refute it at one input. -/
def quorumMoreWrong : ChangeSpec := { name := "quorumMore", fn := fun _ => fun
  | [d1, d2, d3, d4] => { results := [.lit (.bool false)], args := [d1, d2, d3, d4] }
  | _ => none }
def QuorumMoreWrongFalsely : Prop := quorumMoreRow.holds Try.pinned (OpenSpec.ofChange quorumMoreWrong)

/- THE SECOND FORM. 'bulk': how many values and letters a reading holds, each counted each time it is reached (what is shared counts as often as it is met; a slice's spare places count too). A statement '..UptoSaid' is the law's where the arguments, and the package variables that the reading takes, are together of bulk at most 1048576: NARROWER than '..Said'. Prove '..Said' where nothing that the law and all that it calls make is longer than what came in: it says more and counts as full. Else prove '..UptoSaid'. A law counts once. -/
mutual
def uptoBulk {H : Type} : DataW H → Nat
  | .lit (.string bytes) => bytes.length + 1
  | .lit _ => 1
  | .nil => 1
  | .ptr d => uptoBulk d + 1
  | .slice elems spare => uptoBulkAll elems + uptoBulkAll spare + 1
  | .agg parts => uptoBulkAll parts + 1
  | .iface _ d => uptoBulk d + 1
  | .map entries => uptoBulkEntries entries + 1
  | .held _ => 1
def uptoBulkAll {H : Type} : List (DataW H) → Nat
  | [] => 0
  | d :: r => uptoBulk d + uptoBulkAll r
def uptoBulkEntries {H : Type} : List (Lit × DataW H) → Nat
  | [] => 0
  | x :: r => uptoBulkEntry x + uptoBulkEntries r
def uptoBulkEntry {H : Type} : Lit × DataW H → Nat
  | (.string bytes, d) => bytes.length + uptoBulk d + 1
  | (_, d) => uptoBulk d + 1
 end
def uptoSmall : (H : Type) → List (DataW H) → Bool := fun _ ds => decide (uptoBulkAll ds ≤ 1048576)
def OpenSpec.upto (s : _root_.Go.ChangeSpec) : _root_.Go.OpenSpec := { _root_.Go.OpenSpec.ofChange s with cond := some uptoSmall }

/-- 'mailcoachlaw10.QuorumSpread', WHERE WHAT IT READS IS OF BULK AT MOST 1048576: true; the input reads as it did. -/
def quorumSpreadUptoRow : OpenClaim := { program := "ytcjndpmknachhaa", sum := "8c73a946702c29996a2e251b8f9ed89031e1e225b70c400063d74e21c1afaf05", func := "mailcoach/mailcoachlaw10.QuorumSpread", spec := "quorumSpread", apart := false, narrowed := true }
def QuorumSpreadUptoSaid : Prop := quorumSpreadUptoRow.holds Try.pinned (OpenSpec.upto quorumSpreadSpec)

/-- 'mailcoachlaw10.QuorumSets', WHERE WHAT IT READS IS OF BULK AT MOST 1048576: true; the input reads as it did. -/
def quorumSetsUptoRow : OpenClaim := { program := "ytcjndpmknachhaa", sum := "8c73a946702c29996a2e251b8f9ed89031e1e225b70c400063d74e21c1afaf05", func := "mailcoach/mailcoachlaw10.QuorumSets", spec := "quorumSets", apart := false, narrowed := true }
def QuorumSetsUptoSaid : Prop := quorumSetsUptoRow.holds Try.pinned (OpenSpec.upto quorumSetsSpec)

/-- 'mailcoachlaw10.QuorumMeets', WHERE WHAT IT READS IS OF BULK AT MOST 1048576: true; the input reads as it did. -/
def quorumMeetsUptoRow : OpenClaim := { program := "ytcjndpmknachhaa", sum := "8c73a946702c29996a2e251b8f9ed89031e1e225b70c400063d74e21c1afaf05", func := "mailcoach/mailcoachlaw10.QuorumMeets", spec := "quorumMeets", apart := false, narrowed := true }
def QuorumMeetsUptoSaid : Prop := quorumMeetsUptoRow.holds Try.pinned (OpenSpec.upto quorumMeetsSpec)

/-- 'mailcoachlaw10.QuorumOthers', WHERE WHAT IT READS IS OF BULK AT MOST 1048576: true; the input reads as it did. -/
def quorumOthersUptoRow : OpenClaim := { program := "ytcjndpmknachhaa", sum := "8c73a946702c29996a2e251b8f9ed89031e1e225b70c400063d74e21c1afaf05", func := "mailcoach/mailcoachlaw10.QuorumOthers", spec := "quorumOthers", apart := false, narrowed := true }
def QuorumOthersUptoSaid : Prop := quorumOthersUptoRow.holds Try.pinned (OpenSpec.upto quorumOthersSpec)

/-- 'mailcoachlaw10.QuorumMore', WHERE WHAT IT READS IS OF BULK AT MOST 1048576: true; the input reads as it did. -/
def quorumMoreUptoRow : OpenClaim := { program := "ytcjndpmknachhaa", sum := "8c73a946702c29996a2e251b8f9ed89031e1e225b70c400063d74e21c1afaf05", func := "mailcoach/mailcoachlaw10.QuorumMore", spec := "quorumMore", apart := false, narrowed := true }
def QuorumMoreUptoSaid : Prop := quorumMoreUptoRow.holds Try.pinned (OpenSpec.upto quorumMoreSpec)

end Rows
end Go.Proofs.Ytcjndpmknachhaa

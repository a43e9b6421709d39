/-
  No cell of these rows narrows 'for every input' (looked for: loops, veiled, ifaces, maps, wideKeys, modest, calm, conditions, laid).
  DERIVED. THE GIVEN ROWS OF THIS SEAT. 6 by the template 'for every input the law returns true; each argument reads behind the call as it read before'; 0 by the template 'total and deterministic' (their statements: YtehhpcijhclkfaaTotals.lean).
  GIVEN WITH THE SEED: the statements are not yours to turn. If you find one false, say at which input.
  Laid BY PROGRAM, IN A SANDBOX (cutbox-rows.mjs): the forced cells as the released guide's own fill.sh prints them over the translation d82b22ce8adc88e4… (all of the seat's roots in one cut). By AI agents, Wed Nov 11 2026. No macro, syntax, notation, axiom, sorry.
-/
import Derived.Test.YtehhpcijhclkfaaChecked
import GoSem.Claim
import GoSem.ClaimJoined
import GoSem.ClaimMapViews
import Derived.JoinedTies
import Derived.KernelRfl
namespace Go.Proofs.Ytehhpcijhclkfaa
/- THE CELL 'sum', in the pinned program and in every row, IS THE sha256 OF THE DUMP (.gsa) THAT YtehhpcijhclkfaaProg.lean LOADS. Nothing in Lean hashes anything: it is a label: what it is worth is what the hold of that sum in a sandbox is worth. -/
noncomputable def Try.pinned : Pinned := { name := "ytehhpcijhclkfaa", sum := "d82b22ce8adc88e4ac6fe6dc1f44d92b2f534a69fb7a916585a12f9fc66cc5bc", checked := Try.checked }
namespace Rows
def none {H : Type} : Left H := { results := [], args := [] }

/-- 'mailcoachlaw03.RangesAdds': WHATEVER THE INPUT: true; the input reads as it did. -/
def rangesAddsSpec : ChangeSpec := { name := "rangesAdds", fn := fun _ => fun
  | [d1, d2] => { results := [.lit (.bool true)], args := [d1, d2] }
  | _ => none }
def rangesAddsRow : OpenClaim := { program := "ytehhpcijhclkfaa", sum := "d82b22ce8adc88e4ac6fe6dc1f44d92b2f534a69fb7a916585a12f9fc66cc5bc", func := "mailcoach/mailcoachlaw03.RangesAdds", spec := "rangesAdds", unfollowed := true, recurses := true, apart := false }
def RangesAddsSaid : Prop := rangesAddsRow.holds Try.pinned (OpenSpec.ofChange rangesAddsSpec)

/-- ITS FALSE NEIGHBOUR: 'it returns false'. Refute it at one input. -/
def rangesAddsWrong : ChangeSpec := { name := "rangesAdds", fn := fun _ => fun
  | [d1, d2] => { results := [.lit (.bool false)], args := [d1, d2] }
  | _ => none }
def RangesAddsWrongFalsely : Prop := rangesAddsRow.holds Try.pinned (OpenSpec.ofChange rangesAddsWrong)

/-- 'mailcoachlaw03.RangesJoins': WHATEVER THE INPUT: true; the input reads as it did. -/
def rangesJoinsSpec : ChangeSpec := { name := "rangesJoins", fn := fun _ => fun
  | [d1, d2] => { results := [.lit (.bool true)], args := [d1, d2] }
  | _ => none }
def rangesJoinsRow : OpenClaim := { program := "ytehhpcijhclkfaa", sum := "d82b22ce8adc88e4ac6fe6dc1f44d92b2f534a69fb7a916585a12f9fc66cc5bc", func := "mailcoach/mailcoachlaw03.RangesJoins", spec := "rangesJoins", unfollowed := true, recurses := true, apart := false }
def RangesJoinsSaid : Prop := rangesJoinsRow.holds Try.pinned (OpenSpec.ofChange rangesJoinsSpec)

/-- ITS FALSE NEIGHBOUR: 'it returns false'. Refute it at one input. -/
def rangesJoinsWrong : ChangeSpec := { name := "rangesJoins", fn := fun _ => fun
  | [d1, d2] => { results := [.lit (.bool false)], args := [d1, d2] }
  | _ => none }
def RangesJoinsWrongFalsely : Prop := rangesJoinsRow.holds Try.pinned (OpenSpec.ofChange rangesJoinsWrong)

/-- 'mailcoachlaw03.RangesBack': WHATEVER THE INPUT: true; the input reads as it did. -/
def rangesBackSpec : ChangeSpec := { name := "rangesBack", fn := fun _ => fun
  | [d1, d2] => { results := [.lit (.bool true)], args := [d1, d2] }
  | _ => none }
def rangesBackRow : OpenClaim := { program := "ytehhpcijhclkfaa", sum := "d82b22ce8adc88e4ac6fe6dc1f44d92b2f534a69fb7a916585a12f9fc66cc5bc", func := "mailcoach/mailcoachlaw03.RangesBack", spec := "rangesBack", unfollowed := true, recurses := true, apart := false }
def RangesBackSaid : Prop := rangesBackRow.holds Try.pinned (OpenSpec.ofChange rangesBackSpec)

/-- ITS FALSE NEIGHBOUR: 'it returns false'. Refute it at one input. -/
def rangesBackWrong : ChangeSpec := { name := "rangesBack", fn := fun _ => fun
  | [d1, d2] => { results := [.lit (.bool false)], args := [d1, d2] }
  | _ => none }
def RangesBackWrongFalsely : Prop := rangesBackRow.holds Try.pinned (OpenSpec.ofChange rangesBackWrong)

/-- 'mailcoachlaw03.RangesGaps': WHATEVER THE INPUT: true; the input reads as it did. -/
def rangesGapsSpec : ChangeSpec := { name := "rangesGaps", fn := fun _ => fun
  | [d1, d2] => { results := [.lit (.bool true)], args := [d1, d2] }
  | _ => none }
def rangesGapsRow : OpenClaim := { program := "ytehhpcijhclkfaa", sum := "d82b22ce8adc88e4ac6fe6dc1f44d92b2f534a69fb7a916585a12f9fc66cc5bc", func := "mailcoach/mailcoachlaw03.RangesGaps", spec := "rangesGaps", unfollowed := true, recurses := true, apart := false }
def RangesGapsSaid : Prop := rangesGapsRow.holds Try.pinned (OpenSpec.ofChange rangesGapsSpec)

/-- ITS FALSE NEIGHBOUR: 'it returns false'. Refute it at one input. -/
def rangesGapsWrong : ChangeSpec := { name := "rangesGaps", fn := fun _ => fun
  | [d1, d2] => { results := [.lit (.bool false)], args := [d1, d2] }
  | _ => none }
def RangesGapsWrongFalsely : Prop := rangesGapsRow.holds Try.pinned (OpenSpec.ofChange rangesGapsWrong)

/-- 'mailcoachlaw03.RangesAny': WHATEVER THE INPUT: true; the input reads as it did. -/
def rangesAnySpec : ChangeSpec := { name := "rangesAny", fn := fun _ => fun
  | [d1, d2, d3, d4] => { results := [.lit (.bool true)], args := [d1, d2, d3, d4] }
  | _ => none }
def rangesAnyRow : OpenClaim := { program := "ytehhpcijhclkfaa", sum := "d82b22ce8adc88e4ac6fe6dc1f44d92b2f534a69fb7a916585a12f9fc66cc5bc", func := "mailcoach/mailcoachlaw03.RangesAny", spec := "rangesAny", unfollowed := true, recurses := true, apart := false }
def RangesAnySaid : Prop := rangesAnyRow.holds Try.pinned (OpenSpec.ofChange rangesAnySpec)

/-- ITS FALSE NEIGHBOUR: 'it returns false'. Refute it at one input. -/
def rangesAnyWrong : ChangeSpec := { name := "rangesAny", fn := fun _ => fun
  | [d1, d2, d3, d4] => { results := [.lit (.bool false)], args := [d1, d2, d3, d4] }
  | _ => none }
def RangesAnyWrongFalsely : Prop := rangesAnyRow.holds Try.pinned (OpenSpec.ofChange rangesAnyWrong)

/-- 'mailcoachlaw03.RangesChecks': WHATEVER THE INPUT: true; the input reads as it did. -/
def rangesChecksSpec : ChangeSpec := { name := "rangesChecks", fn := fun _ => fun
  | [d1, d2] => { results := [.lit (.bool true)], args := [d1, d2] }
  | _ => none }
def rangesChecksRow : OpenClaim := { program := "ytehhpcijhclkfaa", sum := "d82b22ce8adc88e4ac6fe6dc1f44d92b2f534a69fb7a916585a12f9fc66cc5bc", func := "mailcoach/mailcoachlaw03.RangesChecks", spec := "rangesChecks", unfollowed := true, recurses := true, apart := false }
def RangesChecksSaid : Prop := rangesChecksRow.holds Try.pinned (OpenSpec.ofChange rangesChecksSpec)

/-- ITS FALSE NEIGHBOUR: 'it returns false'. Refute it at one input. -/
def rangesChecksWrong : ChangeSpec := { name := "rangesChecks", fn := fun _ => fun
  | [d1, d2] => { results := [.lit (.bool false)], args := [d1, d2] }
  | _ => none }
def RangesChecksWrongFalsely : Prop := rangesChecksRow.holds Try.pinned (OpenSpec.ofChange rangesChecksWrong)

/- THE SECOND FORM. 'bulk': how many values and letters a reading holds, each counted each time it is reached (what is shared counts as often as it is met; a slice's spare places count too). A statement '..UptoSaid' is the law's where the arguments, and the package variables that the reading takes, are together of bulk at most 1048576: NARROWER than '..Said'. Prove '..Said' where nothing that the law and all that it calls make is longer than what came in: it says more and counts as full. Else prove '..UptoSaid'. A law counts once. -/
mutual
def uptoBulk {H : Type} : DataW H → Nat
  | .lit (.string bytes) => bytes.length + 1
  | .lit _ => 1
  | .nil => 1
  | .ptr d => uptoBulk d + 1
  | .slice elems spare => uptoBulkAll elems + uptoBulkAll spare + 1
  | .agg parts => uptoBulkAll parts + 1
  | .iface _ d => uptoBulk d + 1
  | .map entries => uptoBulkEntries entries + 1
  | .held _ => 1
def uptoBulkAll {H : Type} : List (DataW H) → Nat
  | [] => 0
  | d :: r => uptoBulk d + uptoBulkAll r
def uptoBulkEntries {H : Type} : List (Lit × DataW H) → Nat
  | [] => 0
  | x :: r => uptoBulkEntry x + uptoBulkEntries r
def uptoBulkEntry {H : Type} : Lit × DataW H → Nat
  | (.string bytes, d) => bytes.length + uptoBulk d + 1
  | (_, d) => uptoBulk d + 1
 end
def uptoSmall : (H : Type) → List (DataW H) → Bool := fun _ ds => decide (uptoBulkAll ds ≤ 1048576)
def OpenSpec.upto (s : _root_.Go.ChangeSpec) : _root_.Go.OpenSpec := { _root_.Go.OpenSpec.ofChange s with cond := some uptoSmall }

/-- 'mailcoachlaw03.RangesAdds', WHERE WHAT IT READS IS OF BULK AT MOST 1048576: true; the input reads as it did. -/
def rangesAddsUptoRow : OpenClaim := { program := "ytehhpcijhclkfaa", sum := "d82b22ce8adc88e4ac6fe6dc1f44d92b2f534a69fb7a916585a12f9fc66cc5bc", func := "mailcoach/mailcoachlaw03.RangesAdds", spec := "rangesAdds", unfollowed := true, recurses := true, apart := false, narrowed := true }
def RangesAddsUptoSaid : Prop := rangesAddsUptoRow.holds Try.pinned (OpenSpec.upto rangesAddsSpec)

/-- 'mailcoachlaw03.RangesJoins', WHERE WHAT IT READS IS OF BULK AT MOST 1048576: true; the input reads as it did. -/
def rangesJoinsUptoRow : OpenClaim := { program := "ytehhpcijhclkfaa", sum := "d82b22ce8adc88e4ac6fe6dc1f44d92b2f534a69fb7a916585a12f9fc66cc5bc", func := "mailcoach/mailcoachlaw03.RangesJoins", spec := "rangesJoins", unfollowed := true, recurses := true, apart := false, narrowed := true }
def RangesJoinsUptoSaid : Prop := rangesJoinsUptoRow.holds Try.pinned (OpenSpec.upto rangesJoinsSpec)

/-- 'mailcoachlaw03.RangesBack', WHERE WHAT IT READS IS OF BULK AT MOST 1048576: true; the input reads as it did. -/
def rangesBackUptoRow : OpenClaim := { program := "ytehhpcijhclkfaa", sum := "d82b22ce8adc88e4ac6fe6dc1f44d92b2f534a69fb7a916585a12f9fc66cc5bc", func := "mailcoach/mailcoachlaw03.RangesBack", spec := "rangesBack", unfollowed := true, recurses := true, apart := false, narrowed := true }
def RangesBackUptoSaid : Prop := rangesBackUptoRow.holds Try.pinned (OpenSpec.upto rangesBackSpec)

/-- 'mailcoachlaw03.RangesGaps', WHERE WHAT IT READS IS OF BULK AT MOST 1048576: true; the input reads as it did. -/
def rangesGapsUptoRow : OpenClaim := { program := "ytehhpcijhclkfaa", sum := "d82b22ce8adc88e4ac6fe6dc1f44d92b2f534a69fb7a916585a12f9fc66cc5bc", func := "mailcoach/mailcoachlaw03.RangesGaps", spec := "rangesGaps", unfollowed := true, recurses := true, apart := false, narrowed := true }
def RangesGapsUptoSaid : Prop := rangesGapsUptoRow.holds Try.pinned (OpenSpec.upto rangesGapsSpec)

/-- 'mailcoachlaw03.RangesAny', WHERE WHAT IT READS IS OF BULK AT MOST 1048576: true; the input reads as it did. -/
def rangesAnyUptoRow : OpenClaim := { program := "ytehhpcijhclkfaa", sum := "d82b22ce8adc88e4ac6fe6dc1f44d92b2f534a69fb7a916585a12f9fc66cc5bc", func := "mailcoach/mailcoachlaw03.RangesAny", spec := "rangesAny", unfollowed := true, recurses := true, apart := false, narrowed := true }
def RangesAnyUptoSaid : Prop := rangesAnyUptoRow.holds Try.pinned (OpenSpec.upto rangesAnySpec)

/-- 'mailcoachlaw03.RangesChecks', WHERE WHAT IT READS IS OF BULK AT MOST 1048576: true; the input reads as it did. -/
def rangesChecksUptoRow : OpenClaim := { program := "ytehhpcijhclkfaa", sum := "d82b22ce8adc88e4ac6fe6dc1f44d92b2f534a69fb7a916585a12f9fc66cc5bc", func := "mailcoach/mailcoachlaw03.RangesChecks", spec := "rangesChecks", unfollowed := true, recurses := true, apart := false, narrowed := true }
def RangesChecksUptoSaid : Prop := rangesChecksUptoRow.holds Try.pinned (OpenSpec.upto rangesChecksSpec)

end Rows
end Go.Proofs.Ytehhpcijhclkfaa

/-
  No cell of these rows narrows 'for every input' (looked for: loops, veiled, ifaces, maps, wideKeys, modest, calm, conditions, laid).
  DERIVED. THE GIVEN ROWS OF THIS SEAT. 5 by the template 'for every input the law returns true; each argument reads behind the call as it read before'; 0 by the template 'total and deterministic' (their statements: YtopagbaokokjdaaTotals.lean).
  GIVEN WITH THE SEED: the statements are not yours to turn. If you find one false, say at which input.
  Laid BY PROGRAM, IN A SANDBOX (cutbox-rows.mjs): the forced cells as the released guide's own fill.sh prints them over the translation 3602f23f5fff430e… (all of the seat's roots in one cut). By AI agents, Wed Nov 11 2026. No macro, syntax, notation, axiom, sorry.
-/
import Derived.Test.YtopagbaokokjdaaChecked
import GoSem.Claim
import GoSem.ClaimJoined
import GoSem.ClaimMapViews
import Derived.JoinedTies
import Derived.KernelRfl
namespace Go.Proofs.Ytopagbaokokjdaa
/- THE CELL 'sum', in the pinned program and in every row, IS THE sha256 OF THE DUMP (.gsa) THAT YtopagbaokokjdaaProg.lean LOADS. Nothing in Lean hashes anything: it is a label: what it is worth is what the hold of that sum in a sandbox is worth. -/
noncomputable def Try.pinned : Pinned := { name := "ytopagbaokokjdaa", sum := "3602f23f5fff430e03351479ce38bc12a048edc7fd4525c8791ded2aa75a0b21", checked := Try.checked }
namespace Rows
def none {H : Type} : Left H := { results := [], args := [] }

/-- 'mailcoachlaw12.MenderPlays': WHATEVER THE INPUT: true; the input reads as it did. -/
def menderPlaysSpec : ChangeSpec := { name := "menderPlays", fn := fun _ => fun
  | [d1, d2, d3] => { results := [.lit (.bool true)], args := [d1, d2, d3] }
  | _ => none }
def menderPlaysRow : OpenClaim := { program := "ytopagbaokokjdaa", sum := "3602f23f5fff430e03351479ce38bc12a048edc7fd4525c8791ded2aa75a0b21", func := "mailcoach/mailcoachlaw12.MenderPlays", spec := "menderPlays", unfollowed := true, recurses := true, apart := false }
def MenderPlaysSaid : Prop := menderPlaysRow.holds Try.pinned (OpenSpec.ofChange menderPlaysSpec)

/-- ITS FALSE NEIGHBOUR: 'it returns false'. Refute it at one input. -/
def menderPlaysWrong : ChangeSpec := { name := "menderPlays", fn := fun _ => fun
  | [d1, d2, d3] => { results := [.lit (.bool false)], args := [d1, d2, d3] }
  | _ => none }
def MenderPlaysWrongFalsely : Prop := menderPlaysRow.holds Try.pinned (OpenSpec.ofChange menderPlaysWrong)

/-- 'mailcoachlaw12.MenderOrder': WHATEVER THE INPUT: true; the input reads as it did. -/
def menderOrderSpec : ChangeSpec := { name := "menderOrder", fn := fun _ => fun
  | [d1, d2, d3] => { results := [.lit (.bool true)], args := [d1, d2, d3] }
  | _ => none }
def menderOrderRow : OpenClaim := { program := "ytopagbaokokjdaa", sum := "3602f23f5fff430e03351479ce38bc12a048edc7fd4525c8791ded2aa75a0b21", func := "mailcoach/mailcoachlaw12.MenderOrder", spec := "menderOrder", unfollowed := true, recurses := true, apart := false }
def MenderOrderSaid : Prop := menderOrderRow.holds Try.pinned (OpenSpec.ofChange menderOrderSpec)

/-- ITS FALSE NEIGHBOUR: 'it returns false'. Refute it at one input. -/
def menderOrderWrong : ChangeSpec := { name := "menderOrder", fn := fun _ => fun
  | [d1, d2, d3] => { results := [.lit (.bool false)], args := [d1, d2, d3] }
  | _ => none }
def MenderOrderWrongFalsely : Prop := menderOrderRow.holds Try.pinned (OpenSpec.ofChange menderOrderWrong)

/-- 'mailcoachlaw12.MenderNil': WHATEVER THE INPUT: true; the input reads as it did. -/
def menderNilSpec : ChangeSpec := { name := "menderNil", fn := fun _ => fun
  | [d] => { results := [.lit (.bool true)], args := [d] }
  | _ => none }
def menderNilRow : OpenClaim := { program := "ytopagbaokokjdaa", sum := "3602f23f5fff430e03351479ce38bc12a048edc7fd4525c8791ded2aa75a0b21", func := "mailcoach/mailcoachlaw12.MenderNil", spec := "menderNil", unfollowed := true, recurses := true, apart := false }
def MenderNilSaid : Prop := menderNilRow.holds Try.pinned (OpenSpec.ofChange menderNilSpec)

/-- ITS FALSE NEIGHBOUR: 'it returns false'. Refute it at one input. -/
def menderNilWrong : ChangeSpec := { name := "menderNil", fn := fun _ => fun
  | [d] => { results := [.lit (.bool false)], args := [d] }
  | _ => none }
def MenderNilWrongFalsely : Prop := menderNilRow.holds Try.pinned (OpenSpec.ofChange menderNilWrong)

/-- 'mailcoachlaw12.MenderMore': WHATEVER THE INPUT: true; the input reads as it did. -/
def menderMoreSpec : ChangeSpec := { name := "menderMore", fn := fun _ => fun
  | [d1, d2] => { results := [.lit (.bool true)], args := [d1, d2] }
  | _ => none }
def menderMoreRow : OpenClaim := { program := "ytopagbaokokjdaa", sum := "3602f23f5fff430e03351479ce38bc12a048edc7fd4525c8791ded2aa75a0b21", func := "mailcoach/mailcoachlaw12.MenderMore", spec := "menderMore", unfollowed := true, recurses := true, apart := false }
def MenderMoreSaid : Prop := menderMoreRow.holds Try.pinned (OpenSpec.ofChange menderMoreSpec)

/-- ITS FALSE NEIGHBOUR: 'it returns false'. Refute it at one input. -/
def menderMoreWrong : ChangeSpec := { name := "menderMore", fn := fun _ => fun
  | [d1, d2] => { results := [.lit (.bool false)], args := [d1, d2] }
  | _ => none }
def MenderMoreWrongFalsely : Prop := menderMoreRow.holds Try.pinned (OpenSpec.ofChange menderMoreWrong)

/-- 'mailcoachlaw12.MenderKeeps': WHATEVER THE INPUT: true; the input reads as it did. -/
def menderKeepsSpec : ChangeSpec := { name := "menderKeeps", fn := fun _ => fun
  | [d1, d2] => { results := [.lit (.bool true)], args := [d1, d2] }
  | _ => none }
def menderKeepsRow : OpenClaim := { program := "ytopagbaokokjdaa", sum := "3602f23f5fff430e03351479ce38bc12a048edc7fd4525c8791ded2aa75a0b21", func := "mailcoach/mailcoachlaw12.MenderKeeps", spec := "menderKeeps", unfollowed := true, recurses := true, apart := false }
def MenderKeepsSaid : Prop := menderKeepsRow.holds Try.pinned (OpenSpec.ofChange menderKeepsSpec)

/-- ITS FALSE NEIGHBOUR: 'it returns false'. Refute it at one input. -/
def menderKeepsWrong : ChangeSpec := { name := "menderKeeps", fn := fun _ => fun
  | [d1, d2] => { results := [.lit (.bool false)], args := [d1, d2] }
  | _ => none }
def MenderKeepsWrongFalsely : Prop := menderKeepsRow.holds Try.pinned (OpenSpec.ofChange menderKeepsWrong)

/- THE SECOND FORM. 'bulk': how many values and letters a reading holds, each counted each time it is reached (what is shared counts as often as it is met; a slice's spare places count too). A statement '..UptoSaid' is the law's where the arguments, and the package variables that the reading takes, are together of bulk at most 1048576: NARROWER than '..Said'. Prove '..Said' where nothing that the law and all that it calls make is longer than what came in: it says more and counts as full. Else prove '..UptoSaid'. A law counts once. -/
mutual
def uptoBulk {H : Type} : DataW H → Nat
  | .lit (.string bytes) => bytes.length + 1
  | .lit _ => 1
  | .nil => 1
  | .ptr d => uptoBulk d + 1
  | .slice elems spare => uptoBulkAll elems + uptoBulkAll spare + 1
  | .agg parts => uptoBulkAll parts + 1
  | .iface _ d => uptoBulk d + 1
  | .map entries => uptoBulkEntries entries + 1
  | .held _ => 1
def uptoBulkAll {H : Type} : List (DataW H) → Nat
  | [] => 0
  | d :: r => uptoBulk d + uptoBulkAll r
def uptoBulkEntries {H : Type} : List (Lit × DataW H) → Nat
  | [] => 0
  | x :: r => uptoBulkEntry x + uptoBulkEntries r
def uptoBulkEntry {H : Type} : Lit × DataW H → Nat
  | (.string bytes, d) => bytes.length + uptoBulk d + 1
  | (_, d) => uptoBulk d + 1
 end
def uptoSmall : (H : Type) → List (DataW H) → Bool := fun _ ds => decide (uptoBulkAll ds ≤ 1048576)
def OpenSpec.upto (s : _root_.Go.ChangeSpec) : _root_.Go.OpenSpec := { _root_.Go.OpenSpec.ofChange s with cond := some uptoSmall }

/-- 'mailcoachlaw12.MenderPlays', WHERE WHAT IT READS IS OF BULK AT MOST 1048576: true; the input reads as it did. -/
def menderPlaysUptoRow : OpenClaim := { program := "ytopagbaokokjdaa", sum := "3602f23f5fff430e03351479ce38bc12a048edc7fd4525c8791ded2aa75a0b21", func := "mailcoach/mailcoachlaw12.MenderPlays", spec := "menderPlays", unfollowed := true, recurses := true, apart := false, narrowed := true }
def MenderPlaysUptoSaid : Prop := menderPlaysUptoRow.holds Try.pinned (OpenSpec.upto menderPlaysSpec)

/-- 'mailcoachlaw12.MenderOrder', WHERE WHAT IT READS IS OF BULK AT MOST 1048576: true; the input reads as it did. -/
def menderOrderUptoRow : OpenClaim := { program := "ytopagbaokokjdaa", sum := "3602f23f5fff430e03351479ce38bc12a048edc7fd4525c8791ded2aa75a0b21", func := "mailcoach/mailcoachlaw12.MenderOrder", spec := "menderOrder", unfollowed := true, recurses := true, apart := false, narrowed := true }
def MenderOrderUptoSaid : Prop := menderOrderUptoRow.holds Try.pinned (OpenSpec.upto menderOrderSpec)

/-- 'mailcoachlaw12.MenderNil', WHERE WHAT IT READS IS OF BULK AT MOST 1048576: true; the input reads as it did. -/
def menderNilUptoRow : OpenClaim := { program := "ytopagbaokokjdaa", sum := "3602f23f5fff430e03351479ce38bc12a048edc7fd4525c8791ded2aa75a0b21", func := "mailcoach/mailcoachlaw12.MenderNil", spec := "menderNil", unfollowed := true, recurses := true, apart := false, narrowed := true }
def MenderNilUptoSaid : Prop := menderNilUptoRow.holds Try.pinned (OpenSpec.upto menderNilSpec)

/-- 'mailcoachlaw12.MenderMore', WHERE WHAT IT READS IS OF BULK AT MOST 1048576: true; the input reads as it did. -/
def menderMoreUptoRow : OpenClaim := { program := "ytopagbaokokjdaa", sum := "3602f23f5fff430e03351479ce38bc12a048edc7fd4525c8791ded2aa75a0b21", func := "mailcoach/mailcoachlaw12.MenderMore", spec := "menderMore", unfollowed := true, recurses := true, apart := false, narrowed := true }
def MenderMoreUptoSaid : Prop := menderMoreUptoRow.holds Try.pinned (OpenSpec.upto menderMoreSpec)

/-- 'mailcoachlaw12.MenderKeeps', WHERE WHAT IT READS IS OF BULK AT MOST 1048576: true; the input reads as it did. -/
def menderKeepsUptoRow : OpenClaim := { program := "ytopagbaokokjdaa", sum := "3602f23f5fff430e03351479ce38bc12a048edc7fd4525c8791ded2aa75a0b21", func := "mailcoach/mailcoachlaw12.MenderKeeps", spec := "menderKeeps", unfollowed := true, recurses := true, apart := false, narrowed := true }
def MenderKeepsUptoSaid : Prop := menderKeepsUptoRow.holds Try.pinned (OpenSpec.upto menderKeepsSpec)

end Rows
end Go.Proofs.Ytopagbaokokjdaa

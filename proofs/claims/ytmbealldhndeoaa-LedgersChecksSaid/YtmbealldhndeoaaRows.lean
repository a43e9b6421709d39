/-
  No cell of these rows narrows 'for every input' (looked for: loops, veiled, ifaces, maps, wideKeys, modest, calm, conditions, laid).
  DERIVED. THE GIVEN ROWS OF THIS SEAT. 6 by the template 'for every input the law returns true; each argument reads behind the call as it read before'; 0 by the template 'total and deterministic' (their statements: YtmbealldhndeoaaTotals.lean).
  GIVEN WITH THE SEED: the statements are not yours to turn. If you find one false, say at which input.
  Laid BY PROGRAM, IN A SANDBOX (cutbox-rows.mjs): the forced cells as the released guide's own fill.sh prints them over the translation ad551527b0ffa335… (all of the seat's roots in one cut). By AI agents, Wed Nov 11 2026. No macro, syntax, notation, axiom, sorry.
-/
import Derived.Test.YtmbealldhndeoaaChecked
import GoSem.Claim
import GoSem.ClaimJoined
import GoSem.ClaimMapViews
import Derived.JoinedTies
import Derived.KernelRfl
namespace Go.Proofs.Ytmbealldhndeoaa
/- THE CELL 'sum', in the pinned program and in every row, IS THE sha256 OF THE DUMP (.gsa) THAT YtmbealldhndeoaaProg.lean LOADS. Nothing in Lean hashes anything: it is a label: what it is worth is what the hold of that sum in a sandbox is worth. -/
noncomputable def Try.pinned : Pinned := { name := "ytmbealldhndeoaa", sum := "ad551527b0ffa335ea78ea9f99eb0a8a823f9cb76ce01d8ddbc699066bcc4446", checked := Try.checked }
namespace Rows
def none {H : Type} : Left H := { results := [], args := [] }

/-- 'mailcoachlaw13.LedgersChecks': WHATEVER THE INPUT: true; the input reads as it did. -/
def ledgersChecksSpec : ChangeSpec := { name := "ledgersChecks", fn := fun _ => fun
  | [d1, d2, d3, d4, d5] => { results := [.lit (.bool true)], args := [d1, d2, d3, d4, d5] }
  | _ => none }
def ledgersChecksRow : OpenClaim := { program := "ytmbealldhndeoaa", sum := "ad551527b0ffa335ea78ea9f99eb0a8a823f9cb76ce01d8ddbc699066bcc4446", func := "mailcoach/mailcoachlaw13.LedgersChecks", spec := "ledgersChecks", apart := false }
def LedgersChecksSaid : Prop := ledgersChecksRow.holds Try.pinned (OpenSpec.ofChange ledgersChecksSpec)

/-- ITS FALSE NEIGHBOUR: 'it returns false'. Refute it at one input. -/
def ledgersChecksWrong : ChangeSpec := { name := "ledgersChecks", fn := fun _ => fun
  | [d1, d2, d3, d4, d5] => { results := [.lit (.bool false)], args := [d1, d2, d3, d4, d5] }
  | _ => none }
def LedgersChecksWrongFalsely : Prop := ledgersChecksRow.holds Try.pinned (OpenSpec.ofChange ledgersChecksWrong)

/-- 'mailcoachlaw13.LedgersBetween': WHATEVER THE INPUT: true; the input reads as it did. -/
def ledgersBetweenSpec : ChangeSpec := { name := "ledgersBetween", fn := fun _ => fun
  | [d1, d2, d3, d4, d5] => { results := [.lit (.bool true)], args := [d1, d2, d3, d4, d5] }
  | _ => none }
def ledgersBetweenRow : OpenClaim := { program := "ytmbealldhndeoaa", sum := "ad551527b0ffa335ea78ea9f99eb0a8a823f9cb76ce01d8ddbc699066bcc4446", func := "mailcoach/mailcoachlaw13.LedgersBetween", spec := "ledgersBetween", apart := false }
def LedgersBetweenSaid : Prop := ledgersBetweenRow.holds Try.pinned (OpenSpec.ofChange ledgersBetweenSpec)

/-- ITS FALSE NEIGHBOUR: 'it returns false'. Refute it at one input. -/
def ledgersBetweenWrong : ChangeSpec := { name := "ledgersBetween", fn := fun _ => fun
  | [d1, d2, d3, d4, d5] => { results := [.lit (.bool false)], args := [d1, d2, d3, d4, d5] }
  | _ => none }
def LedgersBetweenWrongFalsely : Prop := ledgersBetweenRow.holds Try.pinned (OpenSpec.ofChange ledgersBetweenWrong)

/-- 'mailcoachlaw13.LedgersWalks': WHATEVER THE INPUT: true; the input reads as it did. -/
def ledgersWalksSpec : ChangeSpec := { name := "ledgersWalks", fn := fun _ => fun
  | [d1, d2, d3] => { results := [.lit (.bool true)], args := [d1, d2, d3] }
  | _ => none }
def ledgersWalksRow : OpenClaim := { program := "ytmbealldhndeoaa", sum := "ad551527b0ffa335ea78ea9f99eb0a8a823f9cb76ce01d8ddbc699066bcc4446", func := "mailcoach/mailcoachlaw13.LedgersWalks", spec := "ledgersWalks", apart := false }
def LedgersWalksSaid : Prop := ledgersWalksRow.holds Try.pinned (OpenSpec.ofChange ledgersWalksSpec)

/-- ITS FALSE NEIGHBOUR: 'it returns false'. Refute it at one input. -/
def ledgersWalksWrong : ChangeSpec := { name := "ledgersWalks", fn := fun _ => fun
  | [d1, d2, d3] => { results := [.lit (.bool false)], args := [d1, d2, d3] }
  | _ => none }
def LedgersWalksWrongFalsely : Prop := ledgersWalksRow.holds Try.pinned (OpenSpec.ofChange ledgersWalksWrong)

/-- 'mailcoachlaw13.LedgersTrims': WHATEVER THE INPUT: true; the input reads as it did. -/
def ledgersTrimsSpec : ChangeSpec := { name := "ledgersTrims", fn := fun _ => fun
  | [d1, d2, d3] => { results := [.lit (.bool true)], args := [d1, d2, d3] }
  | _ => none }
def ledgersTrimsRow : OpenClaim := { program := "ytmbealldhndeoaa", sum := "ad551527b0ffa335ea78ea9f99eb0a8a823f9cb76ce01d8ddbc699066bcc4446", func := "mailcoach/mailcoachlaw13.LedgersTrims", spec := "ledgersTrims", apart := false }
def LedgersTrimsSaid : Prop := ledgersTrimsRow.holds Try.pinned (OpenSpec.ofChange ledgersTrimsSpec)

/-- ITS FALSE NEIGHBOUR: 'it returns false'. Refute it at one input. -/
def ledgersTrimsWrong : ChangeSpec := { name := "ledgersTrims", fn := fun _ => fun
  | [d1, d2, d3] => { results := [.lit (.bool false)], args := [d1, d2, d3] }
  | _ => none }
def LedgersTrimsWrongFalsely : Prop := ledgersTrimsRow.holds Try.pinned (OpenSpec.ofChange ledgersTrimsWrong)

/-- 'mailcoachlaw13.LedgersPlaces': WHATEVER THE INPUT: true; the input reads as it did. -/
def ledgersPlacesSpec : ChangeSpec := { name := "ledgersPlaces", fn := fun _ => fun
  | [d1, d2, d3, d4, d5, d6] => { results := [.lit (.bool true)], args := [d1, d2, d3, d4, d5, d6] }
  | _ => none }
def ledgersPlacesRow : OpenClaim := { program := "ytmbealldhndeoaa", sum := "ad551527b0ffa335ea78ea9f99eb0a8a823f9cb76ce01d8ddbc699066bcc4446", func := "mailcoach/mailcoachlaw13.LedgersPlaces", spec := "ledgersPlaces", apart := false }
def LedgersPlacesSaid : Prop := ledgersPlacesRow.holds Try.pinned (OpenSpec.ofChange ledgersPlacesSpec)

/-- ITS FALSE NEIGHBOUR: 'it returns false'. Refute it at one input. -/
def ledgersPlacesWrong : ChangeSpec := { name := "ledgersPlaces", fn := fun _ => fun
  | [d1, d2, d3, d4, d5, d6] => { results := [.lit (.bool false)], args := [d1, d2, d3, d4, d5, d6] }
  | _ => none }
def LedgersPlacesWrongFalsely : Prop := ledgersPlacesRow.holds Try.pinned (OpenSpec.ofChange ledgersPlacesWrong)

/-- 'mailcoachlaw13.LedgersGrow': WHATEVER THE INPUT: true; the input reads as it did. -/
def ledgersGrowSpec : ChangeSpec := { name := "ledgersGrow", fn := fun _ => fun
  | [d1, d2] => { results := [.lit (.bool true)], args := [d1, d2] }
  | _ => none }
def ledgersGrowRow : OpenClaim := { program := "ytmbealldhndeoaa", sum := "ad551527b0ffa335ea78ea9f99eb0a8a823f9cb76ce01d8ddbc699066bcc4446", func := "mailcoach/mailcoachlaw13.LedgersGrow", spec := "ledgersGrow", apart := false }
def LedgersGrowSaid : Prop := ledgersGrowRow.holds Try.pinned (OpenSpec.ofChange ledgersGrowSpec)

/-- ITS FALSE NEIGHBOUR: 'it returns false'. Refute it at one input. -/
def ledgersGrowWrong : ChangeSpec := { name := "ledgersGrow", fn := fun _ => fun
  | [d1, d2] => { results := [.lit (.bool false)], args := [d1, d2] }
  | _ => none }
def LedgersGrowWrongFalsely : Prop := ledgersGrowRow.holds Try.pinned (OpenSpec.ofChange ledgersGrowWrong)

/- THE SECOND FORM. 'bulk': how many values and letters a reading holds, each counted each time it is reached (what is shared counts as often as it is met; a slice's spare places count too). A statement '..UptoSaid' is the law's where the arguments, and the package variables that the reading takes, are together of bulk at most 1048576: NARROWER than '..Said'. Prove '..Said' where nothing that the law and all that it calls make is longer than what came in: it says more and counts as full. Else prove '..UptoSaid'. A law counts once. -/
mutual
def uptoBulk {H : Type} : DataW H → Nat
  | .lit (.string bytes) => bytes.length + 1
  | .lit _ => 1
  | .nil => 1
  | .ptr d => uptoBulk d + 1
  | .slice elems spare => uptoBulkAll elems + uptoBulkAll spare + 1
  | .agg parts => uptoBulkAll parts + 1
  | .iface _ d => uptoBulk d + 1
  | .map entries => uptoBulkEntries entries + 1
  | .held _ => 1
def uptoBulkAll {H : Type} : List (DataW H) → Nat
  | [] => 0
  | d :: r => uptoBulk d + uptoBulkAll r
def uptoBulkEntries {H : Type} : List (Lit × DataW H) → Nat
  | [] => 0
  | x :: r => uptoBulkEntry x + uptoBulkEntries r
def uptoBulkEntry {H : Type} : Lit × DataW H → Nat
  | (.string bytes, d) => bytes.length + uptoBulk d + 1
  | (_, d) => uptoBulk d + 1
 end
def uptoSmall : (H : Type) → List (DataW H) → Bool := fun _ ds => decide (uptoBulkAll ds ≤ 1048576)
def OpenSpec.upto (s : _root_.Go.ChangeSpec) : _root_.Go.OpenSpec := { _root_.Go.OpenSpec.ofChange s with cond := some uptoSmall }

/-- 'mailcoachlaw13.LedgersChecks', WHERE WHAT IT READS IS OF BULK AT MOST 1048576: true; the input reads as it did. -/
def ledgersChecksUptoRow : OpenClaim := { program := "ytmbealldhndeoaa", sum := "ad551527b0ffa335ea78ea9f99eb0a8a823f9cb76ce01d8ddbc699066bcc4446", func := "mailcoach/mailcoachlaw13.LedgersChecks", spec := "ledgersChecks", apart := false, narrowed := true }
def LedgersChecksUptoSaid : Prop := ledgersChecksUptoRow.holds Try.pinned (OpenSpec.upto ledgersChecksSpec)

/-- 'mailcoachlaw13.LedgersBetween', WHERE WHAT IT READS IS OF BULK AT MOST 1048576: true; the input reads as it did. -/
def ledgersBetweenUptoRow : OpenClaim := { program := "ytmbealldhndeoaa", sum := "ad551527b0ffa335ea78ea9f99eb0a8a823f9cb76ce01d8ddbc699066bcc4446", func := "mailcoach/mailcoachlaw13.LedgersBetween", spec := "ledgersBetween", apart := false, narrowed := true }
def LedgersBetweenUptoSaid : Prop := ledgersBetweenUptoRow.holds Try.pinned (OpenSpec.upto ledgersBetweenSpec)

/-- 'mailcoachlaw13.LedgersWalks', WHERE WHAT IT READS IS OF BULK AT MOST 1048576: true; the input reads as it did. -/
def ledgersWalksUptoRow : OpenClaim := { program := "ytmbealldhndeoaa", sum := "ad551527b0ffa335ea78ea9f99eb0a8a823f9cb76ce01d8ddbc699066bcc4446", func := "mailcoach/mailcoachlaw13.LedgersWalks", spec := "ledgersWalks", apart := false, narrowed := true }
def LedgersWalksUptoSaid : Prop := ledgersWalksUptoRow.holds Try.pinned (OpenSpec.upto ledgersWalksSpec)

/-- 'mailcoachlaw13.LedgersTrims', WHERE WHAT IT READS IS OF BULK AT MOST 1048576: true; the input reads as it did. -/
def ledgersTrimsUptoRow : OpenClaim := { program := "ytmbealldhndeoaa", sum := "ad551527b0ffa335ea78ea9f99eb0a8a823f9cb76ce01d8ddbc699066bcc4446", func := "mailcoach/mailcoachlaw13.LedgersTrims", spec := "ledgersTrims", apart := false, narrowed := true }
def LedgersTrimsUptoSaid : Prop := ledgersTrimsUptoRow.holds Try.pinned (OpenSpec.upto ledgersTrimsSpec)

/-- 'mailcoachlaw13.LedgersPlaces', WHERE WHAT IT READS IS OF BULK AT MOST 1048576: true; the input reads as it did. -/
def ledgersPlacesUptoRow : OpenClaim := { program := "ytmbealldhndeoaa", sum := "ad551527b0ffa335ea78ea9f99eb0a8a823f9cb76ce01d8ddbc699066bcc4446", func := "mailcoach/mailcoachlaw13.LedgersPlaces", spec := "ledgersPlaces", apart := false, narrowed := true }
def LedgersPlacesUptoSaid : Prop := ledgersPlacesUptoRow.holds Try.pinned (OpenSpec.upto ledgersPlacesSpec)

/-- 'mailcoachlaw13.LedgersGrow', WHERE WHAT IT READS IS OF BULK AT MOST 1048576: true; the input reads as it did. -/
def ledgersGrowUptoRow : OpenClaim := { program := "ytmbealldhndeoaa", sum := "ad551527b0ffa335ea78ea9f99eb0a8a823f9cb76ce01d8ddbc699066bcc4446", func := "mailcoach/mailcoachlaw13.LedgersGrow", spec := "ledgersGrow", apart := false, narrowed := true }
def LedgersGrowUptoSaid : Prop := ledgersGrowUptoRow.holds Try.pinned (OpenSpec.upto ledgersGrowSpec)

end Rows
end Go.Proofs.Ytmbealldhndeoaa

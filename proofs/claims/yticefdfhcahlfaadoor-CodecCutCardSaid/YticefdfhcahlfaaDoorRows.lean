/-
  NARROWER THAN 'FOR EVERY INPUT', by the rows' own cells (each row's printed sentence says how): CodecTopics: laid · CodecNotes: laid · CodecApart: laid · CodecEntries: laid · CodecBack: laid · CodecOne: laid · CodecCut: laid.
  DERIVED. THE GIVEN ROWS OF THIS SEAT. 7 by the template 'for every input the law returns true; each argument reads behind the call as it read before'; 0 by the template 'total and deterministic' (their statements: YticefdfhcahlfaaDoorTotals.lean).
  GIVEN WITH THE SEED: the statements are not yours to turn. If you find one false, say at which input.
  Laid BY PROGRAM, IN A SANDBOX (cutbox-rows.mjs): the forced cells as the released guide's own fill.sh prints them over the translation 67143f65313a6103… (all of the seat's roots in one cut). By AI agents, Wed Nov 11 2026. No macro, syntax, notation, axiom, sorry.
-/
import Derived.Test.YticefdfhcahlfaaDoorChecked
import GoSem.PinnedTables
import GoSem.Claim
import GoSem.ClaimJoined
import GoSem.ClaimMapViews
import Derived.JoinedTies
import Derived.KernelRfl
namespace Go.Proofs.YticefdfhcahlfaaDoor
/- THE CELL 'sum', in the pinned program and in every row, IS THE sha256 OF THE DUMP (.gsa) THAT YticefdfhcahlfaaDoorProg.lean LOADS. Nothing in Lean hashes anything: it is a label: what it is worth is what the hold of that sum in a sandbox is worth. -/
noncomputable def Tryd.pinned : Pinned := { name := "yticefdfhcahlfaadoor", sum := "67143f65313a6103f4da0bc89b3cb748c16395ff60c8aeb3890871d9a20d69af", checked := Tryd.checked }
namespace Rows
def none {H : Type} : Left H := { results := [], args := [] }

/- WHAT THE LISTED PACKAGE-LEVEL VARIABLES READ AS WHEN THE CALL BEGINS. Each datum BY PROGRAM (the guide's laid-datum.mjs) off the statement by which the dump's own 'gosem.cut.vars' lays the variable. In a bare row this is a premise. The card (YticefdfhcahlfaaDoorCards.lean) ties it to the program's text. -/
def laid_unicode_utf8_acceptRanges {H : Type} : DataW H := .agg [.agg [.lit (.int .u8 128), .lit (.int .u8 191)], .agg [.lit (.int .u8 160), .lit (.int .u8 191)], .agg [.lit (.int .u8 128), .lit (.int .u8 159)], .agg [.lit (.int .u8 144), .lit (.int .u8 191)], .agg [.lit (.int .u8 128), .lit (.int .u8 143)], .agg [.lit (.int .u8 0), .lit (.int .u8 0)], .agg [.lit (.int .u8 0), .lit (.int .u8 0)], .agg [.lit (.int .u8 0), .lit (.int .u8 0)], .agg [.lit (.int .u8 0), .lit (.int .u8 0)], .agg [.lit (.int .u8 0), .lit (.int .u8 0)], .agg [.lit (.int .u8 0), .lit (.int .u8 0)], .agg [.lit (.int .u8 0), .lit (.int .u8 0)], .agg [.lit (.int .u8 0), .lit (.int .u8 0)], .agg [.lit (.int .u8 0), .lit (.int .u8 0)], .agg [.lit (.int .u8 0), .lit (.int .u8 0)], .agg [.lit (.int .u8 0), .lit (.int .u8 0)]]
/-- One of Go's own tables, pinned by name: the form's constant. -/
def laid_unicode_utf8_first : DataW Unit := Go.Pinned.utf8First

/-- 'mailcoachlaw21.CodecTopics': WHATEVER THE INPUT: true; the input reads as it did. -/
def codecTopicsSpec : ChangeSpec := { name := "codecTopics", fn := fun _ => fun
  | [d1, d2, d3, d4, d5] => { results := [.lit (.bool true)], args := [d1, d2, d3, d4, d5] }
  | _ => none }
def codecTopicsRow : OpenClaim := { program := "yticefdfhcahlfaadoor", sum := "67143f65313a6103f4da0bc89b3cb748c16395ff60c8aeb3890871d9a20d69af", func := "mailcoach/mailcoachlaw21.CodecTopics", spec := "codecTopics", unfollowed := true, recurses := true, named := ["unicode/utf8.first", "unicode/utf8.acceptRanges"], apart := false, laid := [("unicode/utf8.acceptRanges", laid_unicode_utf8_acceptRanges), ("unicode/utf8.first", laid_unicode_utf8_first)] }
def CodecTopicsSaid : Prop := codecTopicsRow.holds Tryd.pinned (OpenSpec.ofChange codecTopicsSpec)

/-- ITS FALSE NEIGHBOUR: 'it returns false'. Refute it at one input. -/
def codecTopicsWrong : ChangeSpec := { name := "codecTopics", fn := fun _ => fun
  | [d1, d2, d3, d4, d5] => { results := [.lit (.bool false)], args := [d1, d2, d3, d4, d5] }
  | _ => none }
def CodecTopicsWrongFalsely : Prop := codecTopicsRow.holds Tryd.pinned (OpenSpec.ofChange codecTopicsWrong)

/-- 'mailcoachlaw21.CodecNotes': WHATEVER THE INPUT: true; the input reads as it did. -/
def codecNotesSpec : ChangeSpec := { name := "codecNotes", fn := fun _ => fun
  | [d1, d2, d3, d4, d5] => { results := [.lit (.bool true)], args := [d1, d2, d3, d4, d5] }
  | _ => none }
def codecNotesRow : OpenClaim := { program := "yticefdfhcahlfaadoor", sum := "67143f65313a6103f4da0bc89b3cb748c16395ff60c8aeb3890871d9a20d69af", func := "mailcoach/mailcoachlaw21.CodecNotes", spec := "codecNotes", unfollowed := true, recurses := true, named := ["unicode/utf8.first", "unicode/utf8.acceptRanges"], apart := false, laid := [("unicode/utf8.acceptRanges", laid_unicode_utf8_acceptRanges), ("unicode/utf8.first", laid_unicode_utf8_first)] }
def CodecNotesSaid : Prop := codecNotesRow.holds Tryd.pinned (OpenSpec.ofChange codecNotesSpec)

/-- ITS FALSE NEIGHBOUR: 'it returns false'. Refute it at one input. -/
def codecNotesWrong : ChangeSpec := { name := "codecNotes", fn := fun _ => fun
  | [d1, d2, d3, d4, d5] => { results := [.lit (.bool false)], args := [d1, d2, d3, d4, d5] }
  | _ => none }
def CodecNotesWrongFalsely : Prop := codecNotesRow.holds Tryd.pinned (OpenSpec.ofChange codecNotesWrong)

/-- 'mailcoachlaw21.CodecApart': WHATEVER THE INPUT: true; the input reads as it did. -/
def codecApartSpec : ChangeSpec := { name := "codecApart", fn := fun _ => fun
  | [d1, d2, d3] => { results := [.lit (.bool true)], args := [d1, d2, d3] }
  | _ => none }
def codecApartRow : OpenClaim := { program := "yticefdfhcahlfaadoor", sum := "67143f65313a6103f4da0bc89b3cb748c16395ff60c8aeb3890871d9a20d69af", func := "mailcoach/mailcoachlaw21.CodecApart", spec := "codecApart", unfollowed := true, recurses := true, named := ["unicode/utf8.first", "unicode/utf8.acceptRanges"], apart := false, laid := [("unicode/utf8.acceptRanges", laid_unicode_utf8_acceptRanges), ("unicode/utf8.first", laid_unicode_utf8_first)] }
def CodecApartSaid : Prop := codecApartRow.holds Tryd.pinned (OpenSpec.ofChange codecApartSpec)

/-- ITS FALSE NEIGHBOUR: 'it returns false'. Refute it at one input. -/
def codecApartWrong : ChangeSpec := { name := "codecApart", fn := fun _ => fun
  | [d1, d2, d3] => { results := [.lit (.bool false)], args := [d1, d2, d3] }
  | _ => none }
def CodecApartWrongFalsely : Prop := codecApartRow.holds Tryd.pinned (OpenSpec.ofChange codecApartWrong)

/-- 'mailcoachlaw21.CodecEntries': WHATEVER THE INPUT: true; the input reads as it did. -/
def codecEntriesSpec : ChangeSpec := { name := "codecEntries", fn := fun _ => fun
  | [d1, d2] => { results := [.lit (.bool true)], args := [d1, d2] }
  | _ => none }
def codecEntriesRow : OpenClaim := { program := "yticefdfhcahlfaadoor", sum := "67143f65313a6103f4da0bc89b3cb748c16395ff60c8aeb3890871d9a20d69af", func := "mailcoach/mailcoachlaw21.CodecEntries", spec := "codecEntries", unfollowed := true, recurses := true, named := ["unicode/utf8.first", "unicode/utf8.acceptRanges"], apart := false, laid := [("unicode/utf8.acceptRanges", laid_unicode_utf8_acceptRanges), ("unicode/utf8.first", laid_unicode_utf8_first)] }
def CodecEntriesSaid : Prop := codecEntriesRow.holds Tryd.pinned (OpenSpec.ofChange codecEntriesSpec)

/-- ITS FALSE NEIGHBOUR: 'it returns false'. Refute it at one input. -/
def codecEntriesWrong : ChangeSpec := { name := "codecEntries", fn := fun _ => fun
  | [d1, d2] => { results := [.lit (.bool false)], args := [d1, d2] }
  | _ => none }
def CodecEntriesWrongFalsely : Prop := codecEntriesRow.holds Tryd.pinned (OpenSpec.ofChange codecEntriesWrong)

/-- 'mailcoachlaw21.CodecBack': WHATEVER THE INPUT: true; the input reads as it did. -/
def codecBackSpec : ChangeSpec := { name := "codecBack", fn := fun _ => fun
  | [d1, d2, d3] => { results := [.lit (.bool true)], args := [d1, d2, d3] }
  | _ => none }
def codecBackRow : OpenClaim := { program := "yticefdfhcahlfaadoor", sum := "67143f65313a6103f4da0bc89b3cb748c16395ff60c8aeb3890871d9a20d69af", func := "mailcoach/mailcoachlaw21.CodecBack", spec := "codecBack", unfollowed := true, recurses := true, named := ["unicode/utf8.first", "unicode/utf8.acceptRanges"], apart := false, laid := [("unicode/utf8.acceptRanges", laid_unicode_utf8_acceptRanges), ("unicode/utf8.first", laid_unicode_utf8_first)] }
def CodecBackSaid : Prop := codecBackRow.holds Tryd.pinned (OpenSpec.ofChange codecBackSpec)

/-- ITS FALSE NEIGHBOUR: 'it returns false'. Refute it at one input. -/
def codecBackWrong : ChangeSpec := { name := "codecBack", fn := fun _ => fun
  | [d1, d2, d3] => { results := [.lit (.bool false)], args := [d1, d2, d3] }
  | _ => none }
def CodecBackWrongFalsely : Prop := codecBackRow.holds Tryd.pinned (OpenSpec.ofChange codecBackWrong)

/-- 'mailcoachlaw21.CodecOne': WHATEVER THE INPUT: true; the input reads as it did. -/
def codecOneSpec : ChangeSpec := { name := "codecOne", fn := fun _ => fun
  | [d] => { results := [.lit (.bool true)], args := [d] }
  | _ => none }
def codecOneRow : OpenClaim := { program := "yticefdfhcahlfaadoor", sum := "67143f65313a6103f4da0bc89b3cb748c16395ff60c8aeb3890871d9a20d69af", func := "mailcoach/mailcoachlaw21.CodecOne", spec := "codecOne", unfollowed := true, recurses := true, named := ["unicode/utf8.first", "unicode/utf8.acceptRanges"], apart := false, laid := [("unicode/utf8.acceptRanges", laid_unicode_utf8_acceptRanges), ("unicode/utf8.first", laid_unicode_utf8_first)] }
def CodecOneSaid : Prop := codecOneRow.holds Tryd.pinned (OpenSpec.ofChange codecOneSpec)

/-- ITS FALSE NEIGHBOUR: 'it returns false'. Refute it at one input. -/
def codecOneWrong : ChangeSpec := { name := "codecOne", fn := fun _ => fun
  | [d] => { results := [.lit (.bool false)], args := [d] }
  | _ => none }
def CodecOneWrongFalsely : Prop := codecOneRow.holds Tryd.pinned (OpenSpec.ofChange codecOneWrong)

/-- 'mailcoachlaw21.CodecCut': WHATEVER THE INPUT: true; the input reads as it did. -/
def codecCutSpec : ChangeSpec := { name := "codecCut", fn := fun _ => fun
  | [d1, d2, d3, d4, d5] => { results := [.lit (.bool true)], args := [d1, d2, d3, d4, d5] }
  | _ => none }
def codecCutRow : OpenClaim := { program := "yticefdfhcahlfaadoor", sum := "67143f65313a6103f4da0bc89b3cb748c16395ff60c8aeb3890871d9a20d69af", func := "mailcoach/mailcoachlaw21.CodecCut", spec := "codecCut", unfollowed := true, recurses := true, named := ["unicode/utf8.first", "unicode/utf8.acceptRanges"], apart := false, laid := [("unicode/utf8.acceptRanges", laid_unicode_utf8_acceptRanges), ("unicode/utf8.first", laid_unicode_utf8_first)] }
def CodecCutSaid : Prop := codecCutRow.holds Tryd.pinned (OpenSpec.ofChange codecCutSpec)

/-- ITS FALSE NEIGHBOUR: 'it returns false'. Refute it at one input. -/
def codecCutWrong : ChangeSpec := { name := "codecCut", fn := fun _ => fun
  | [d1, d2, d3, d4, d5] => { results := [.lit (.bool false)], args := [d1, d2, d3, d4, d5] }
  | _ => none }
def CodecCutWrongFalsely : Prop := codecCutRow.holds Tryd.pinned (OpenSpec.ofChange codecCutWrong)

/- THE SECOND FORM. 'bulk': how many values and letters a reading holds, each counted each time it is reached (what is shared counts as often as it is met; a slice's spare places count too). A statement '..UptoSaid' is the law's where the arguments, and the package variables that the reading takes, are together of bulk at most 1048576: NARROWER than '..Said'. Prove '..Said' where nothing that the law and all that it calls make is longer than what came in: it says more and counts as full. Else prove '..UptoSaid'. A law counts once. -/
mutual
def uptoBulk {H : Type} : DataW H → Nat
  | .lit (.string bytes) => bytes.length + 1
  | .lit _ => 1
  | .nil => 1
  | .ptr d => uptoBulk d + 1
  | .slice elems spare => uptoBulkAll elems + uptoBulkAll spare + 1
  | .agg parts => uptoBulkAll parts + 1
  | .iface _ d => uptoBulk d + 1
  | .map entries => uptoBulkEntries entries + 1
  | .held _ => 1
def uptoBulkAll {H : Type} : List (DataW H) → Nat
  | [] => 0
  | d :: r => uptoBulk d + uptoBulkAll r
def uptoBulkEntries {H : Type} : List (Lit × DataW H) → Nat
  | [] => 0
  | x :: r => uptoBulkEntry x + uptoBulkEntries r
def uptoBulkEntry {H : Type} : Lit × DataW H → Nat
  | (.string bytes, d) => bytes.length + uptoBulk d + 1
  | (_, d) => uptoBulk d + 1
 end
def uptoSmall : (H : Type) → List (DataW H) → Bool := fun _ ds => decide (uptoBulkAll ds ≤ 1048576)
def OpenSpec.upto (s : _root_.Go.ChangeSpec) : _root_.Go.OpenSpec := { _root_.Go.OpenSpec.ofChange s with cond := some uptoSmall }

/-- 'mailcoachlaw21.CodecTopics', WHERE WHAT IT READS IS OF BULK AT MOST 1048576: true; the input reads as it did. -/
def codecTopicsUptoRow : OpenClaim := { program := "yticefdfhcahlfaadoor", sum := "67143f65313a6103f4da0bc89b3cb748c16395ff60c8aeb3890871d9a20d69af", func := "mailcoach/mailcoachlaw21.CodecTopics", spec := "codecTopics", unfollowed := true, recurses := true, named := ["unicode/utf8.first", "unicode/utf8.acceptRanges"], apart := false, laid := [("unicode/utf8.acceptRanges", laid_unicode_utf8_acceptRanges), ("unicode/utf8.first", laid_unicode_utf8_first)], narrowed := true }
def CodecTopicsUptoSaid : Prop := codecTopicsUptoRow.holds Tryd.pinned (OpenSpec.upto codecTopicsSpec)

/-- 'mailcoachlaw21.CodecNotes', WHERE WHAT IT READS IS OF BULK AT MOST 1048576: true; the input reads as it did. -/
def codecNotesUptoRow : OpenClaim := { program := "yticefdfhcahlfaadoor", sum := "67143f65313a6103f4da0bc89b3cb748c16395ff60c8aeb3890871d9a20d69af", func := "mailcoach/mailcoachlaw21.CodecNotes", spec := "codecNotes", unfollowed := true, recurses := true, named := ["unicode/utf8.first", "unicode/utf8.acceptRanges"], apart := false, laid := [("unicode/utf8.acceptRanges", laid_unicode_utf8_acceptRanges), ("unicode/utf8.first", laid_unicode_utf8_first)], narrowed := true }
def CodecNotesUptoSaid : Prop := codecNotesUptoRow.holds Tryd.pinned (OpenSpec.upto codecNotesSpec)

/-- 'mailcoachlaw21.CodecApart', WHERE WHAT IT READS IS OF BULK AT MOST 1048576: true; the input reads as it did. -/
def codecApartUptoRow : OpenClaim := { program := "yticefdfhcahlfaadoor", sum := "67143f65313a6103f4da0bc89b3cb748c16395ff60c8aeb3890871d9a20d69af", func := "mailcoach/mailcoachlaw21.CodecApart", spec := "codecApart", unfollowed := true, recurses := true, named := ["unicode/utf8.first", "unicode/utf8.acceptRanges"], apart := false, laid := [("unicode/utf8.acceptRanges", laid_unicode_utf8_acceptRanges), ("unicode/utf8.first", laid_unicode_utf8_first)], narrowed := true }
def CodecApartUptoSaid : Prop := codecApartUptoRow.holds Tryd.pinned (OpenSpec.upto codecApartSpec)

/-- 'mailcoachlaw21.CodecEntries', WHERE WHAT IT READS IS OF BULK AT MOST 1048576: true; the input reads as it did. -/
def codecEntriesUptoRow : OpenClaim := { program := "yticefdfhcahlfaadoor", sum := "67143f65313a6103f4da0bc89b3cb748c16395ff60c8aeb3890871d9a20d69af", func := "mailcoach/mailcoachlaw21.CodecEntries", spec := "codecEntries", unfollowed := true, recurses := true, named := ["unicode/utf8.first", "unicode/utf8.acceptRanges"], apart := false, laid := [("unicode/utf8.acceptRanges", laid_unicode_utf8_acceptRanges), ("unicode/utf8.first", laid_unicode_utf8_first)], narrowed := true }
def CodecEntriesUptoSaid : Prop := codecEntriesUptoRow.holds Tryd.pinned (OpenSpec.upto codecEntriesSpec)

/-- 'mailcoachlaw21.CodecBack', WHERE WHAT IT READS IS OF BULK AT MOST 1048576: true; the input reads as it did. -/
def codecBackUptoRow : OpenClaim := { program := "yticefdfhcahlfaadoor", sum := "67143f65313a6103f4da0bc89b3cb748c16395ff60c8aeb3890871d9a20d69af", func := "mailcoach/mailcoachlaw21.CodecBack", spec := "codecBack", unfollowed := true, recurses := true, named := ["unicode/utf8.first", "unicode/utf8.acceptRanges"], apart := false, laid := [("unicode/utf8.acceptRanges", laid_unicode_utf8_acceptRanges), ("unicode/utf8.first", laid_unicode_utf8_first)], narrowed := true }
def CodecBackUptoSaid : Prop := codecBackUptoRow.holds Tryd.pinned (OpenSpec.upto codecBackSpec)

/-- 'mailcoachlaw21.CodecOne', WHERE WHAT IT READS IS OF BULK AT MOST 1048576: true; the input reads as it did. -/
def codecOneUptoRow : OpenClaim := { program := "yticefdfhcahlfaadoor", sum := "67143f65313a6103f4da0bc89b3cb748c16395ff60c8aeb3890871d9a20d69af", func := "mailcoach/mailcoachlaw21.CodecOne", spec := "codecOne", unfollowed := true, recurses := true, named := ["unicode/utf8.first", "unicode/utf8.acceptRanges"], apart := false, laid := [("unicode/utf8.acceptRanges", laid_unicode_utf8_acceptRanges), ("unicode/utf8.first", laid_unicode_utf8_first)], narrowed := true }
def CodecOneUptoSaid : Prop := codecOneUptoRow.holds Tryd.pinned (OpenSpec.upto codecOneSpec)

/-- 'mailcoachlaw21.CodecCut', WHERE WHAT IT READS IS OF BULK AT MOST 1048576: true; the input reads as it did. -/
def codecCutUptoRow : OpenClaim := { program := "yticefdfhcahlfaadoor", sum := "67143f65313a6103f4da0bc89b3cb748c16395ff60c8aeb3890871d9a20d69af", func := "mailcoach/mailcoachlaw21.CodecCut", spec := "codecCut", unfollowed := true, recurses := true, named := ["unicode/utf8.first", "unicode/utf8.acceptRanges"], apart := false, laid := [("unicode/utf8.acceptRanges", laid_unicode_utf8_acceptRanges), ("unicode/utf8.first", laid_unicode_utf8_first)], narrowed := true }
def CodecCutUptoSaid : Prop := codecCutUptoRow.holds Tryd.pinned (OpenSpec.upto codecCutSpec)

end Rows
end Go.Proofs.YticefdfhcahlfaaDoor

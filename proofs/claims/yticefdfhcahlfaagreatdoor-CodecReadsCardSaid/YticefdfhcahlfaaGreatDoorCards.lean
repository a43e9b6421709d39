/-
  DERIVED. GIVEN WITH THE SEED: THE CARDS: each row of YticefdfhcahlfaaGreatDoorRows.lean that lists a variable, with what it lists TIED to the program's text (the seventh form; the later family's looks); each row that meets fmt, with fmt's text TOLD by the authors' own Lean function (tested against real Go, not proved from fmt's source: count such statements apart). THE CARD IS WHAT COUNTS. Prove the row's statement (the work); the ties are given (YticefdfhcahlfaaGreatDoorTie.lean); close each card by the builder's one call (the guide's Derived/Test/ToyasCard.lean, 'card_holds'). Laid BY PROGRAM, IN A SANDBOX (cutbox-door.mjs). By AI agents, Wed Nov 11 2026. No macro, syntax, notation, axiom, sorry.
-/
import Derived.Test.YticefdfhcahlfaaGreatDoorRows
import GoSem.ClaimSeven
namespace Go.Proofs.YticefdfhcahlfaaGreatDoor
namespace Rows

/-- THE TIED CARD OF 'mailcoachlaw21.CodecReads'. -/
def codecReadsCard : Claim7 := { stood := { row := codecReadsRow, standIns := [], harness := (true, "a3b568774b0ef2f2dcd6768c7fd558c7acc1c5c0c690bc4fed3017d4566be82f"), looks := true }, kinds := [], alts := [], laidByText := true, laidKinds := [.data, .pinned], laidTests := true, laidLooks := .later }
def CodecReadsCardSaid : Prop := Claim7.holds Tryz.pinned (.plain (OpenSpec.ofChange codecReadsSpec)) codecReadsCard

/-- THE SECOND FORM's CARD OF 'mailcoachlaw21.CodecReads'. -/
def codecReadsUptoCard : Claim7 := { stood := { row := codecReadsUptoRow, standIns := [], harness := (true, "a3b568774b0ef2f2dcd6768c7fd558c7acc1c5c0c690bc4fed3017d4566be82f"), looks := true }, kinds := [], alts := [], laidByText := true, laidKinds := [.data, .pinned], laidTests := true, laidLooks := .later }
def CodecReadsUptoCardSaid : Prop := Claim7.holds Tryz.pinned (.plain (OpenSpec.upto codecReadsSpec)) codecReadsUptoCard
end Rows
end Go.Proofs.YticefdfhcahlfaaGreatDoor

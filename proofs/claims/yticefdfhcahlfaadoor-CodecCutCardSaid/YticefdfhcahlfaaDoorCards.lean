/-
  DERIVED. GIVEN WITH THE SEED: THE CARDS: each row of YticefdfhcahlfaaDoorRows.lean that lists a variable, with what it lists TIED to the program's text (the seventh form; the later family's looks); each row that meets fmt, with fmt's text TOLD by the authors' own Lean function (tested against real Go, not proved from fmt's source: count such statements apart). THE CARD IS WHAT COUNTS. Prove the row's statement (the work); the ties are given (YticefdfhcahlfaaDoorTie.lean); close each card by the builder's one call (the guide's Derived/Test/ToyasCard.lean, 'card_holds'). Laid BY PROGRAM, IN A SANDBOX (cutbox-door.mjs). By AI agents, Wed Nov 11 2026. No macro, syntax, notation, axiom, sorry.
-/
import Derived.Test.YticefdfhcahlfaaDoorRows
import GoSem.ClaimSeven
namespace Go.Proofs.YticefdfhcahlfaaDoor
namespace Rows

/-- THE TIED CARD OF 'mailcoachlaw21.CodecTopics'. -/
def codecTopicsCard : Claim7 := { stood := { row := codecTopicsRow, standIns := [], harness := (true, "d49cad22786d8aa932283ccbc2970b2300f50d8e0008d235154d55d3d7bdf533"), looks := true }, kinds := [], alts := [], laidByText := true, laidKinds := [.data, .pinned], laidTests := true, laidLooks := .later }
def CodecTopicsCardSaid : Prop := Claim7.holds Tryd.pinned (.plain (OpenSpec.ofChange codecTopicsSpec)) codecTopicsCard

/-- THE TIED CARD OF 'mailcoachlaw21.CodecNotes'. -/
def codecNotesCard : Claim7 := { stood := { row := codecNotesRow, standIns := [], harness := (true, "d49cad22786d8aa932283ccbc2970b2300f50d8e0008d235154d55d3d7bdf533"), looks := true }, kinds := [], alts := [], laidByText := true, laidKinds := [.data, .pinned], laidTests := true, laidLooks := .later }
def CodecNotesCardSaid : Prop := Claim7.holds Tryd.pinned (.plain (OpenSpec.ofChange codecNotesSpec)) codecNotesCard

/-- THE TIED CARD OF 'mailcoachlaw21.CodecApart'. -/
def codecApartCard : Claim7 := { stood := { row := codecApartRow, standIns := [], harness := (true, "d49cad22786d8aa932283ccbc2970b2300f50d8e0008d235154d55d3d7bdf533"), looks := true }, kinds := [], alts := [], laidByText := true, laidKinds := [.data, .pinned], laidTests := true, laidLooks := .later }
def CodecApartCardSaid : Prop := Claim7.holds Tryd.pinned (.plain (OpenSpec.ofChange codecApartSpec)) codecApartCard

/-- THE TIED CARD OF 'mailcoachlaw21.CodecEntries'. -/
def codecEntriesCard : Claim7 := { stood := { row := codecEntriesRow, standIns := [], harness := (true, "d49cad22786d8aa932283ccbc2970b2300f50d8e0008d235154d55d3d7bdf533"), looks := true }, kinds := [], alts := [], laidByText := true, laidKinds := [.data, .pinned], laidTests := true, laidLooks := .later }
def CodecEntriesCardSaid : Prop := Claim7.holds Tryd.pinned (.plain (OpenSpec.ofChange codecEntriesSpec)) codecEntriesCard

/-- THE TIED CARD OF 'mailcoachlaw21.CodecBack'. -/
def codecBackCard : Claim7 := { stood := { row := codecBackRow, standIns := [], harness := (true, "d49cad22786d8aa932283ccbc2970b2300f50d8e0008d235154d55d3d7bdf533"), looks := true }, kinds := [], alts := [], laidByText := true, laidKinds := [.data, .pinned], laidTests := true, laidLooks := .later }
def CodecBackCardSaid : Prop := Claim7.holds Tryd.pinned (.plain (OpenSpec.ofChange codecBackSpec)) codecBackCard

/-- THE TIED CARD OF 'mailcoachlaw21.CodecOne'. -/
def codecOneCard : Claim7 := { stood := { row := codecOneRow, standIns := [], harness := (true, "d49cad22786d8aa932283ccbc2970b2300f50d8e0008d235154d55d3d7bdf533"), looks := true }, kinds := [], alts := [], laidByText := true, laidKinds := [.data, .pinned], laidTests := true, laidLooks := .later }
def CodecOneCardSaid : Prop := Claim7.holds Tryd.pinned (.plain (OpenSpec.ofChange codecOneSpec)) codecOneCard

/-- THE TIED CARD OF 'mailcoachlaw21.CodecCut'. -/
def codecCutCard : Claim7 := { stood := { row := codecCutRow, standIns := [], harness := (true, "d49cad22786d8aa932283ccbc2970b2300f50d8e0008d235154d55d3d7bdf533"), looks := true }, kinds := [], alts := [], laidByText := true, laidKinds := [.data, .pinned], laidTests := true, laidLooks := .later }
def CodecCutCardSaid : Prop := Claim7.holds Tryd.pinned (.plain (OpenSpec.ofChange codecCutSpec)) codecCutCard

/-- THE SECOND FORM's CARD OF 'mailcoachlaw21.CodecTopics'. -/
def codecTopicsUptoCard : Claim7 := { stood := { row := codecTopicsUptoRow, standIns := [], harness := (true, "d49cad22786d8aa932283ccbc2970b2300f50d8e0008d235154d55d3d7bdf533"), looks := true }, kinds := [], alts := [], laidByText := true, laidKinds := [.data, .pinned], laidTests := true, laidLooks := .later }
def CodecTopicsUptoCardSaid : Prop := Claim7.holds Tryd.pinned (.plain (OpenSpec.upto codecTopicsSpec)) codecTopicsUptoCard

/-- THE SECOND FORM's CARD OF 'mailcoachlaw21.CodecNotes'. -/
def codecNotesUptoCard : Claim7 := { stood := { row := codecNotesUptoRow, standIns := [], harness := (true, "d49cad22786d8aa932283ccbc2970b2300f50d8e0008d235154d55d3d7bdf533"), looks := true }, kinds := [], alts := [], laidByText := true, laidKinds := [.data, .pinned], laidTests := true, laidLooks := .later }
def CodecNotesUptoCardSaid : Prop := Claim7.holds Tryd.pinned (.plain (OpenSpec.upto codecNotesSpec)) codecNotesUptoCard

/-- THE SECOND FORM's CARD OF 'mailcoachlaw21.CodecApart'. -/
def codecApartUptoCard : Claim7 := { stood := { row := codecApartUptoRow, standIns := [], harness := (true, "d49cad22786d8aa932283ccbc2970b2300f50d8e0008d235154d55d3d7bdf533"), looks := true }, kinds := [], alts := [], laidByText := true, laidKinds := [.data, .pinned], laidTests := true, laidLooks := .later }
def CodecApartUptoCardSaid : Prop := Claim7.holds Tryd.pinned (.plain (OpenSpec.upto codecApartSpec)) codecApartUptoCard

/-- THE SECOND FORM's CARD OF 'mailcoachlaw21.CodecEntries'. -/
def codecEntriesUptoCard : Claim7 := { stood := { row := codecEntriesUptoRow, standIns := [], harness := (true, "d49cad22786d8aa932283ccbc2970b2300f50d8e0008d235154d55d3d7bdf533"), looks := true }, kinds := [], alts := [], laidByText := true, laidKinds := [.data, .pinned], laidTests := true, laidLooks := .later }
def CodecEntriesUptoCardSaid : Prop := Claim7.holds Tryd.pinned (.plain (OpenSpec.upto codecEntriesSpec)) codecEntriesUptoCard

/-- THE SECOND FORM's CARD OF 'mailcoachlaw21.CodecBack'. -/
def codecBackUptoCard : Claim7 := { stood := { row := codecBackUptoRow, standIns := [], harness := (true, "d49cad22786d8aa932283ccbc2970b2300f50d8e0008d235154d55d3d7bdf533"), looks := true }, kinds := [], alts := [], laidByText := true, laidKinds := [.data, .pinned], laidTests := true, laidLooks := .later }
def CodecBackUptoCardSaid : Prop := Claim7.holds Tryd.pinned (.plain (OpenSpec.upto codecBackSpec)) codecBackUptoCard

/-- THE SECOND FORM's CARD OF 'mailcoachlaw21.CodecOne'. -/
def codecOneUptoCard : Claim7 := { stood := { row := codecOneUptoRow, standIns := [], harness := (true, "d49cad22786d8aa932283ccbc2970b2300f50d8e0008d235154d55d3d7bdf533"), looks := true }, kinds := [], alts := [], laidByText := true, laidKinds := [.data, .pinned], laidTests := true, laidLooks := .later }
def CodecOneUptoCardSaid : Prop := Claim7.holds Tryd.pinned (.plain (OpenSpec.upto codecOneSpec)) codecOneUptoCard

/-- THE SECOND FORM's CARD OF 'mailcoachlaw21.CodecCut'. -/
def codecCutUptoCard : Claim7 := { stood := { row := codecCutUptoRow, standIns := [], harness := (true, "d49cad22786d8aa932283ccbc2970b2300f50d8e0008d235154d55d3d7bdf533"), looks := true }, kinds := [], alts := [], laidByText := true, laidKinds := [.data, .pinned], laidTests := true, laidLooks := .later }
def CodecCutUptoCardSaid : Prop := Claim7.holds Tryd.pinned (.plain (OpenSpec.upto codecCutSpec)) codecCutUptoCard
end Rows
end Go.Proofs.YticefdfhcahlfaaDoor

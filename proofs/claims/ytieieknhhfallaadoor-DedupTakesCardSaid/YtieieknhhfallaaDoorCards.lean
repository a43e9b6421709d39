/-
  DERIVED. GIVEN WITH THE SEED: THE CARDS: each row of YtieieknhhfallaaDoorRows.lean that lists a variable, with what it lists TIED to the program's text (the seventh form; the later family's looks); each row that meets fmt, with fmt's text TOLD by the authors' own Lean function (tested against real Go, not proved from fmt's source: count such statements apart). THE CARD IS WHAT COUNTS. Prove the row's statement (the work); the ties are given (YtieieknhhfallaaDoorTie.lean); close each card by the builder's one call (the guide's Derived/Test/ToyasCard.lean, 'card_holds'). Laid BY PROGRAM, IN A SANDBOX (cutbox-door.mjs). By AI agents, Wed Nov 11 2026. No macro, syntax, notation, axiom, sorry.
-/
import Derived.Test.YtieieknhhfallaaDoorRows
import GoSem.ClaimSeven
namespace Go.Proofs.YtieieknhhfallaaDoor
namespace Rows

/-- THE TIED CARD OF 'mailcoachlaw15.DedupTakes'. -/
def dedupTakesCard : Claim7 := { stood := { row := dedupTakesRow, standIns := [], harness := (true, "95cbcf1ca0ced1acfbae4c2ac7d64bbfce58471b759de945a1137a37a0688670"), looks := true }, kinds := [], alts := [], laidByText := true, laidKinds := [.data, .pinned], laidTests := true, laidLooks := .later }
def DedupTakesCardSaid : Prop := Claim7.holds Tryd.pinned (.plain (OpenSpec.ofChange dedupTakesSpec)) dedupTakesCard

/-- THE TIED CARD OF 'mailcoachlaw15.DedupOnce'. -/
def dedupOnceCard : Claim7 := { stood := { row := dedupOnceRow, standIns := [], harness := (true, "95cbcf1ca0ced1acfbae4c2ac7d64bbfce58471b759de945a1137a37a0688670"), looks := true }, kinds := [], alts := [], laidByText := true, laidKinds := [.data, .pinned], laidTests := true, laidLooks := .later }
def DedupOnceCardSaid : Prop := Claim7.holds Tryd.pinned (.plain (OpenSpec.ofChange dedupOnceSpec)) dedupOnceCard

/-- THE TIED CARD OF 'mailcoachlaw15.DedupBack'. -/
def dedupBackCard : Claim7 := { stood := { row := dedupBackRow, standIns := [], harness := (true, "95cbcf1ca0ced1acfbae4c2ac7d64bbfce58471b759de945a1137a37a0688670"), looks := true }, kinds := [], alts := [], laidByText := true, laidKinds := [.data, .pinned], laidTests := true, laidLooks := .later }
def DedupBackCardSaid : Prop := Claim7.holds Tryd.pinned (.plain (OpenSpec.ofChange dedupBackSpec)) dedupBackCard

/-- THE SECOND FORM's CARD OF 'mailcoachlaw15.DedupTakes'. -/
def dedupTakesUptoCard : Claim7 := { stood := { row := dedupTakesUptoRow, standIns := [], harness := (true, "95cbcf1ca0ced1acfbae4c2ac7d64bbfce58471b759de945a1137a37a0688670"), looks := true }, kinds := [], alts := [], laidByText := true, laidKinds := [.data, .pinned], laidTests := true, laidLooks := .later }
def DedupTakesUptoCardSaid : Prop := Claim7.holds Tryd.pinned (.plain (OpenSpec.upto dedupTakesSpec)) dedupTakesUptoCard

/-- THE SECOND FORM's CARD OF 'mailcoachlaw15.DedupOnce'. -/
def dedupOnceUptoCard : Claim7 := { stood := { row := dedupOnceUptoRow, standIns := [], harness := (true, "95cbcf1ca0ced1acfbae4c2ac7d64bbfce58471b759de945a1137a37a0688670"), looks := true }, kinds := [], alts := [], laidByText := true, laidKinds := [.data, .pinned], laidTests := true, laidLooks := .later }
def DedupOnceUptoCardSaid : Prop := Claim7.holds Tryd.pinned (.plain (OpenSpec.upto dedupOnceSpec)) dedupOnceUptoCard

/-- THE SECOND FORM's CARD OF 'mailcoachlaw15.DedupBack'. -/
def dedupBackUptoCard : Claim7 := { stood := { row := dedupBackUptoRow, standIns := [], harness := (true, "95cbcf1ca0ced1acfbae4c2ac7d64bbfce58471b759de945a1137a37a0688670"), looks := true }, kinds := [], alts := [], laidByText := true, laidKinds := [.data, .pinned], laidTests := true, laidLooks := .later }
def DedupBackUptoCardSaid : Prop := Claim7.holds Tryd.pinned (.plain (OpenSpec.upto dedupBackSpec)) dedupBackUptoCard
end Rows
end Go.Proofs.YtieieknhhfallaaDoor

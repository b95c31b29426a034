/-
  DERIVED. GIVEN WITH THE SEED: THE CARDS: each row of YtajbhfmdmajpmaaGreatDoorRows.lean that lists a variable, with what it lists TIED to the program's text (the seventh form; the later family's looks); each row that meets fmt, with fmt's text TOLD by the authors' own Lean function (tested against real Go, not proved from fmt's source: count such statements apart). THE CARD IS WHAT COUNTS. Prove the row's statement (the work); the ties are given (YtajbhfmdmajpmaaGreatDoorTie.lean); close each card by the builder's one call (the guide's Derived/Test/ToyasCard.lean, 'card_holds'). Laid BY PROGRAM, IN A SANDBOX (cutbox-door.mjs). By AI agents, Wed Nov 11 2026. No macro, syntax, notation, axiom, sorry.
-/
import Derived.Test.YtajbhfmdmajpmaaGreatDoorRows
import GoSem.ClaimSeven
namespace Go.Proofs.YtajbhfmdmajpmaaGreatDoor
namespace Rows

/-- THE TIED CARD OF 'captionerlaw32.DisplayScreens'. -/
def displayScreensCard : Claim7 := { stood := { row := displayScreensRow, standIns := [], harness := (true, "4b7b15a1e72452d9bfbeaa776bdfe6a547757fd8b0fbffc0b32d0c2a247c7d02"), looks := false }, kinds := [], alts := [], laidByText := true, laidKinds := [.data, .pinned], laidTests := true, laidLooks := .later }
def DisplayScreensCardSaid : Prop := Claim7.holds Tryz.pinned (.plain (OpenSpec.ofChange displayScreensSpec)) displayScreensCard

/-- THE TIED CARD OF 'captionerlaw32.DisplayShows'. -/
def displayShowsCard : Claim7 := { stood := { row := displayShowsRow, standIns := [], harness := (true, "4b7b15a1e72452d9bfbeaa776bdfe6a547757fd8b0fbffc0b32d0c2a247c7d02"), looks := false }, kinds := [], alts := [], laidByText := true, laidKinds := [.data, .pinned], laidTests := true, laidLooks := .later }
def DisplayShowsCardSaid : Prop := Claim7.holds Tryz.pinned (.plain (OpenSpec.ofChange displayShowsSpec)) displayShowsCard

/-- THE TIED CARD OF 'captionerlaw32.DisplayOverlaps'. -/
def displayOverlapsCard : Claim7 := { stood := { row := displayOverlapsRow, standIns := [], harness := (true, "4b7b15a1e72452d9bfbeaa776bdfe6a547757fd8b0fbffc0b32d0c2a247c7d02"), looks := false }, kinds := [], alts := [], laidByText := true, laidKinds := [.data, .pinned], laidTests := true, laidLooks := .later }
def DisplayOverlapsCardSaid : Prop := Claim7.holds Tryz.pinned (.plain (OpenSpec.ofChange displayOverlapsSpec)) displayOverlapsCard

/-- THE TIED CARD OF 'captionerlaw32.DisplayAlone'. -/
def displayAloneCard : Claim7 := { stood := { row := displayAloneRow, standIns := [], harness := (true, "4b7b15a1e72452d9bfbeaa776bdfe6a547757fd8b0fbffc0b32d0c2a247c7d02"), looks := false }, kinds := [], alts := [], laidByText := true, laidKinds := [.data, .pinned], laidTests := true, laidLooks := .later }
def DisplayAloneCardSaid : Prop := Claim7.holds Tryz.pinned (.plain (OpenSpec.ofChange displayAloneSpec)) displayAloneCard

/-- THE TIED CARD OF 'captionerlaw32.DisplaySeen'. -/
def displaySeenCard : Claim7 := { stood := { row := displaySeenRow, standIns := [], harness := (true, "4b7b15a1e72452d9bfbeaa776bdfe6a547757fd8b0fbffc0b32d0c2a247c7d02"), looks := false }, kinds := [], alts := [], laidByText := true, laidKinds := [.data, .pinned], laidTests := true, laidLooks := .later }
def DisplaySeenCardSaid : Prop := Claim7.holds Tryz.pinned (.plain (OpenSpec.ofChange displaySeenSpec)) displaySeenCard

/-- THE TIED CARD OF 'captionerlaw32.DisplayChecks'. -/
def displayChecksCard : Claim7 := { stood := { row := displayChecksRow, standIns := [], harness := (true, "4b7b15a1e72452d9bfbeaa776bdfe6a547757fd8b0fbffc0b32d0c2a247c7d02"), looks := false }, kinds := [], alts := [], laidByText := true, laidKinds := [.data, .pinned], laidTests := true, laidLooks := .later }
def DisplayChecksCardSaid : Prop := Claim7.holds Tryz.pinned (.plain (OpenSpec.ofChange displayChecksSpec)) displayChecksCard

/-- THE TIED CARD OF 'captionerlaw32.DisplayChanges'. -/
def displayChangesCard : Claim7 := { stood := { row := displayChangesRow, standIns := [], harness := (true, "4b7b15a1e72452d9bfbeaa776bdfe6a547757fd8b0fbffc0b32d0c2a247c7d02"), looks := false }, kinds := [], alts := [], laidByText := true, laidKinds := [.data, .pinned], laidTests := true, laidLooks := .later }
def DisplayChangesCardSaid : Prop := Claim7.holds Tryz.pinned (.plain (OpenSpec.ofChange displayChangesSpec)) displayChangesCard

/-- THE TIED CARD OF 'captionerlaw32.DisplayPlaces'. -/
def displayPlacesCard : Claim7 := { stood := { row := displayPlacesRow, standIns := [], harness := (true, "4b7b15a1e72452d9bfbeaa776bdfe6a547757fd8b0fbffc0b32d0c2a247c7d02"), looks := false }, kinds := [], alts := [], laidByText := true, laidKinds := [.data, .pinned], laidTests := true, laidLooks := .later }
def DisplayPlacesCardSaid : Prop := Claim7.holds Tryz.pinned (.plain (OpenSpec.ofChange displayPlacesSpec)) displayPlacesCard

/-- THE TIED CARD OF 'captionerlaw32.DisplayPlains'. -/
def displayPlainsCard : Claim7 := { stood := { row := displayPlainsRow, standIns := [], harness := (true, "4b7b15a1e72452d9bfbeaa776bdfe6a547757fd8b0fbffc0b32d0c2a247c7d02"), looks := false }, kinds := [], alts := [], laidByText := true, laidKinds := [.data, .pinned], laidTests := true, laidLooks := .later }
def DisplayPlainsCardSaid : Prop := Claim7.holds Tryz.pinned (.plain (OpenSpec.ofChange displayPlainsSpec)) displayPlainsCard

/-- THE SECOND FORM's CARD OF 'captionerlaw32.DisplayScreens'. -/
def displayScreensUptoCard : Claim7 := { stood := { row := displayScreensUptoRow, standIns := [], harness := (true, "4b7b15a1e72452d9bfbeaa776bdfe6a547757fd8b0fbffc0b32d0c2a247c7d02"), looks := false }, kinds := [], alts := [], laidByText := true, laidKinds := [.data, .pinned], laidTests := true, laidLooks := .later }
def DisplayScreensUptoCardSaid : Prop := Claim7.holds Tryz.pinned (.plain (OpenSpec.upto displayScreensSpec)) displayScreensUptoCard

/-- THE SECOND FORM's CARD OF 'captionerlaw32.DisplayShows'. -/
def displayShowsUptoCard : Claim7 := { stood := { row := displayShowsUptoRow, standIns := [], harness := (true, "4b7b15a1e72452d9bfbeaa776bdfe6a547757fd8b0fbffc0b32d0c2a247c7d02"), looks := false }, kinds := [], alts := [], laidByText := true, laidKinds := [.data, .pinned], laidTests := true, laidLooks := .later }
def DisplayShowsUptoCardSaid : Prop := Claim7.holds Tryz.pinned (.plain (OpenSpec.upto displayShowsSpec)) displayShowsUptoCard

/-- THE SECOND FORM's CARD OF 'captionerlaw32.DisplayOverlaps'. -/
def displayOverlapsUptoCard : Claim7 := { stood := { row := displayOverlapsUptoRow, standIns := [], harness := (true, "4b7b15a1e72452d9bfbeaa776bdfe6a547757fd8b0fbffc0b32d0c2a247c7d02"), looks := false }, kinds := [], alts := [], laidByText := true, laidKinds := [.data, .pinned], laidTests := true, laidLooks := .later }
def DisplayOverlapsUptoCardSaid : Prop := Claim7.holds Tryz.pinned (.plain (OpenSpec.upto displayOverlapsSpec)) displayOverlapsUptoCard

/-- THE SECOND FORM's CARD OF 'captionerlaw32.DisplayAlone'. -/
def displayAloneUptoCard : Claim7 := { stood := { row := displayAloneUptoRow, standIns := [], harness := (true, "4b7b15a1e72452d9bfbeaa776bdfe6a547757fd8b0fbffc0b32d0c2a247c7d02"), looks := false }, kinds := [], alts := [], laidByText := true, laidKinds := [.data, .pinned], laidTests := true, laidLooks := .later }
def DisplayAloneUptoCardSaid : Prop := Claim7.holds Tryz.pinned (.plain (OpenSpec.upto displayAloneSpec)) displayAloneUptoCard

/-- THE SECOND FORM's CARD OF 'captionerlaw32.DisplaySeen'. -/
def displaySeenUptoCard : Claim7 := { stood := { row := displaySeenUptoRow, standIns := [], harness := (true, "4b7b15a1e72452d9bfbeaa776bdfe6a547757fd8b0fbffc0b32d0c2a247c7d02"), looks := false }, kinds := [], alts := [], laidByText := true, laidKinds := [.data, .pinned], laidTests := true, laidLooks := .later }
def DisplaySeenUptoCardSaid : Prop := Claim7.holds Tryz.pinned (.plain (OpenSpec.upto displaySeenSpec)) displaySeenUptoCard

/-- THE SECOND FORM's CARD OF 'captionerlaw32.DisplayChecks'. -/
def displayChecksUptoCard : Claim7 := { stood := { row := displayChecksUptoRow, standIns := [], harness := (true, "4b7b15a1e72452d9bfbeaa776bdfe6a547757fd8b0fbffc0b32d0c2a247c7d02"), looks := false }, kinds := [], alts := [], laidByText := true, laidKinds := [.data, .pinned], laidTests := true, laidLooks := .later }
def DisplayChecksUptoCardSaid : Prop := Claim7.holds Tryz.pinned (.plain (OpenSpec.upto displayChecksSpec)) displayChecksUptoCard

/-- THE SECOND FORM's CARD OF 'captionerlaw32.DisplayChanges'. -/
def displayChangesUptoCard : Claim7 := { stood := { row := displayChangesUptoRow, standIns := [], harness := (true, "4b7b15a1e72452d9bfbeaa776bdfe6a547757fd8b0fbffc0b32d0c2a247c7d02"), looks := false }, kinds := [], alts := [], laidByText := true, laidKinds := [.data, .pinned], laidTests := true, laidLooks := .later }
def DisplayChangesUptoCardSaid : Prop := Claim7.holds Tryz.pinned (.plain (OpenSpec.upto displayChangesSpec)) displayChangesUptoCard

/-- THE SECOND FORM's CARD OF 'captionerlaw32.DisplayPlaces'. -/
def displayPlacesUptoCard : Claim7 := { stood := { row := displayPlacesUptoRow, standIns := [], harness := (true, "4b7b15a1e72452d9bfbeaa776bdfe6a547757fd8b0fbffc0b32d0c2a247c7d02"), looks := false }, kinds := [], alts := [], laidByText := true, laidKinds := [.data, .pinned], laidTests := true, laidLooks := .later }
def DisplayPlacesUptoCardSaid : Prop := Claim7.holds Tryz.pinned (.plain (OpenSpec.upto displayPlacesSpec)) displayPlacesUptoCard

/-- THE SECOND FORM's CARD OF 'captionerlaw32.DisplayPlains'. -/
def displayPlainsUptoCard : Claim7 := { stood := { row := displayPlainsUptoRow, standIns := [], harness := (true, "4b7b15a1e72452d9bfbeaa776bdfe6a547757fd8b0fbffc0b32d0c2a247c7d02"), looks := false }, kinds := [], alts := [], laidByText := true, laidKinds := [.data, .pinned], laidTests := true, laidLooks := .later }
def DisplayPlainsUptoCardSaid : Prop := Claim7.holds Tryz.pinned (.plain (OpenSpec.upto displayPlainsSpec)) displayPlainsUptoCard
end Rows
end Go.Proofs.YtajbhfmdmajpmaaGreatDoor

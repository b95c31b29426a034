/-
  DERIVED. GIVEN WITH THE SEED: THE CARDS: each row of YtablhmobekmflaaGreatDoorRows.lean that lists a variable, with what it lists TIED to the program's text (the seventh form; the later family's looks); each row that meets fmt, with fmt's text TOLD by the authors' own Lean function (tested against real Go, not proved from fmt's source: count such statements apart). THE CARD IS WHAT COUNTS. Prove the row's statement (the work); the ties are given (YtablhmobekmflaaGreatDoorTie.lean); close each card by the builder's one call (the guide's Derived/Test/ToyasCard.lean, 'card_holds'). Laid BY PROGRAM, IN A SANDBOX (cutbox-door.mjs). By AI agents, Wed Nov 11 2026. No macro, syntax, notation, axiom, sorry.
-/
import Derived.Test.YtablhmobekmflaaGreatDoorRows
import GoSem.ClaimSeven
namespace Go.Proofs.YtablhmobekmflaaGreatDoor
namespace Rows

/-- THE TIED CARD OF 'captionerlaw45.ReelPieces'. -/
def reelPiecesCard : Claim7 := { stood := { row := reelPiecesRow, standIns := [], harness := (true, "c956158003677a253010e7c11995d3dd5ec996287a32d171fa0a931f90870ea6"), looks := false }, kinds := [], alts := [], laidByText := true, laidKinds := [.data, .pinned], laidTests := true, laidLooks := .later }
def ReelPiecesCardSaid : Prop := Claim7.holds Tryz.pinned (.plain (OpenSpec.ofChange reelPiecesSpec)) reelPiecesCard

/-- THE TIED CARD OF 'captionerlaw46.ConformChecks'. -/
def conformChecksCard : Claim7 := { stood := { row := conformChecksRow, standIns := [], harness := (true, "c956158003677a253010e7c11995d3dd5ec996287a32d171fa0a931f90870ea6"), looks := false }, kinds := [], alts := [], laidByText := true, laidKinds := [.data, .data, .data, .data, .pinned], laidTests := true, laidLooks := .later }
def ConformChecksCardSaid : Prop := Claim7.holds Tryz.pinned (.plain (OpenSpec.ofChange conformChecksSpec)) conformChecksCard

/-- THE TIED CARD OF 'captionerlaw46.ConformTells'. -/
def conformTellsCard : Claim7 := { stood := { row := conformTellsRow, standIns := [], harness := (true, "c956158003677a253010e7c11995d3dd5ec996287a32d171fa0a931f90870ea6"), looks := false }, kinds := [], alts := [], laidByText := true, laidKinds := [.data, .data, .data, .data, .pinned], laidTests := true, laidLooks := .later }
def ConformTellsCardSaid : Prop := Claim7.holds Tryz.pinned (.plain (OpenSpec.ofChange conformTellsSpec)) conformTellsCard

/-- THE TIED CARD OF 'captionerlaw46.ConformTexts'. -/
def conformTextsCard : Claim7 := { stood := { row := conformTextsRow, standIns := [], harness := (true, "c956158003677a253010e7c11995d3dd5ec996287a32d171fa0a931f90870ea6"), looks := false }, kinds := [], alts := [], laidByText := true, laidKinds := [.data, .data, .data, .data, .pinned], laidTests := true, laidLooks := .later }
def ConformTextsCardSaid : Prop := Claim7.holds Tryz.pinned (.plain (OpenSpec.ofChange conformTextsSpec)) conformTextsCard

/-- THE TIED CARD OF 'captionerlaw46.ConformValid'. -/
def conformValidCard : Claim7 := { stood := { row := conformValidRow, standIns := [], harness := (true, "c956158003677a253010e7c11995d3dd5ec996287a32d171fa0a931f90870ea6"), looks := false }, kinds := [], alts := [], laidByText := true, laidKinds := [.data, .data, .data, .data, .pinned], laidTests := true, laidLooks := .later }
def ConformValidCardSaid : Prop := Claim7.holds Tryz.pinned (.plain (OpenSpec.ofChange conformValidSpec)) conformValidCard

/-- THE TIED CARD OF 'captionerlaw46.ConformIdentity'. -/
def conformIdentityCard : Claim7 := { stood := { row := conformIdentityRow, standIns := [], harness := (true, "c956158003677a253010e7c11995d3dd5ec996287a32d171fa0a931f90870ea6"), looks := false }, kinds := [], alts := [], laidByText := true, laidKinds := [.data, .data, .data, .data, .pinned], laidTests := true, laidLooks := .later }
def ConformIdentityCardSaid : Prop := Claim7.holds Tryz.pinned (.plain (OpenSpec.ofChange conformIdentitySpec)) conformIdentityCard

/-- THE TIED CARD OF 'captionerlaw46.ConformSeen'. -/
def conformSeenCard : Claim7 := { stood := { row := conformSeenRow, standIns := [], harness := (true, "c956158003677a253010e7c11995d3dd5ec996287a32d171fa0a931f90870ea6"), looks := false }, kinds := [], alts := [], laidByText := true, laidKinds := [.data, .data, .data, .data, .pinned], laidTests := true, laidLooks := .later }
def ConformSeenCardSaid : Prop := Claim7.holds Tryz.pinned (.plain (OpenSpec.ofChange conformSeenSpec)) conformSeenCard

/-- THE TIED CARD OF 'captionerlaw46.ConformMaps'. -/
def conformMapsCard : Claim7 := { stood := { row := conformMapsRow, standIns := [], harness := (true, "c956158003677a253010e7c11995d3dd5ec996287a32d171fa0a931f90870ea6"), looks := false }, kinds := [], alts := [], laidByText := true, laidKinds := [.data, .data, .data, .data, .pinned], laidTests := true, laidLooks := .later }
def ConformMapsCardSaid : Prop := Claim7.holds Tryz.pinned (.plain (OpenSpec.ofChange conformMapsSpec)) conformMapsCard

/-- THE SECOND FORM's CARD OF 'captionerlaw45.ReelPieces'. -/
def reelPiecesUptoCard : Claim7 := { stood := { row := reelPiecesUptoRow, standIns := [], harness := (true, "c956158003677a253010e7c11995d3dd5ec996287a32d171fa0a931f90870ea6"), looks := false }, kinds := [], alts := [], laidByText := true, laidKinds := [.data, .pinned], laidTests := true, laidLooks := .later }
def ReelPiecesUptoCardSaid : Prop := Claim7.holds Tryz.pinned (.plain (OpenSpec.upto reelPiecesSpec)) reelPiecesUptoCard

/-- THE SECOND FORM's CARD OF 'captionerlaw46.ConformChecks'. -/
def conformChecksUptoCard : Claim7 := { stood := { row := conformChecksUptoRow, standIns := [], harness := (true, "c956158003677a253010e7c11995d3dd5ec996287a32d171fa0a931f90870ea6"), looks := false }, kinds := [], alts := [], laidByText := true, laidKinds := [.data, .data, .data, .data, .pinned], laidTests := true, laidLooks := .later }
def ConformChecksUptoCardSaid : Prop := Claim7.holds Tryz.pinned (.plain (OpenSpec.upto conformChecksSpec)) conformChecksUptoCard

/-- THE SECOND FORM's CARD OF 'captionerlaw46.ConformTells'. -/
def conformTellsUptoCard : Claim7 := { stood := { row := conformTellsUptoRow, standIns := [], harness := (true, "c956158003677a253010e7c11995d3dd5ec996287a32d171fa0a931f90870ea6"), looks := false }, kinds := [], alts := [], laidByText := true, laidKinds := [.data, .data, .data, .data, .pinned], laidTests := true, laidLooks := .later }
def ConformTellsUptoCardSaid : Prop := Claim7.holds Tryz.pinned (.plain (OpenSpec.upto conformTellsSpec)) conformTellsUptoCard

/-- THE SECOND FORM's CARD OF 'captionerlaw46.ConformTexts'. -/
def conformTextsUptoCard : Claim7 := { stood := { row := conformTextsUptoRow, standIns := [], harness := (true, "c956158003677a253010e7c11995d3dd5ec996287a32d171fa0a931f90870ea6"), looks := false }, kinds := [], alts := [], laidByText := true, laidKinds := [.data, .data, .data, .data, .pinned], laidTests := true, laidLooks := .later }
def ConformTextsUptoCardSaid : Prop := Claim7.holds Tryz.pinned (.plain (OpenSpec.upto conformTextsSpec)) conformTextsUptoCard

/-- THE SECOND FORM's CARD OF 'captionerlaw46.ConformValid'. -/
def conformValidUptoCard : Claim7 := { stood := { row := conformValidUptoRow, standIns := [], harness := (true, "c956158003677a253010e7c11995d3dd5ec996287a32d171fa0a931f90870ea6"), looks := false }, kinds := [], alts := [], laidByText := true, laidKinds := [.data, .data, .data, .data, .pinned], laidTests := true, laidLooks := .later }
def ConformValidUptoCardSaid : Prop := Claim7.holds Tryz.pinned (.plain (OpenSpec.upto conformValidSpec)) conformValidUptoCard

/-- THE SECOND FORM's CARD OF 'captionerlaw46.ConformIdentity'. -/
def conformIdentityUptoCard : Claim7 := { stood := { row := conformIdentityUptoRow, standIns := [], harness := (true, "c956158003677a253010e7c11995d3dd5ec996287a32d171fa0a931f90870ea6"), looks := false }, kinds := [], alts := [], laidByText := true, laidKinds := [.data, .data, .data, .data, .pinned], laidTests := true, laidLooks := .later }
def ConformIdentityUptoCardSaid : Prop := Claim7.holds Tryz.pinned (.plain (OpenSpec.upto conformIdentitySpec)) conformIdentityUptoCard

/-- THE SECOND FORM's CARD OF 'captionerlaw46.ConformSeen'. -/
def conformSeenUptoCard : Claim7 := { stood := { row := conformSeenUptoRow, standIns := [], harness := (true, "c956158003677a253010e7c11995d3dd5ec996287a32d171fa0a931f90870ea6"), looks := false }, kinds := [], alts := [], laidByText := true, laidKinds := [.data, .data, .data, .data, .pinned], laidTests := true, laidLooks := .later }
def ConformSeenUptoCardSaid : Prop := Claim7.holds Tryz.pinned (.plain (OpenSpec.upto conformSeenSpec)) conformSeenUptoCard

/-- THE SECOND FORM's CARD OF 'captionerlaw46.ConformMaps'. -/
def conformMapsUptoCard : Claim7 := { stood := { row := conformMapsUptoRow, standIns := [], harness := (true, "c956158003677a253010e7c11995d3dd5ec996287a32d171fa0a931f90870ea6"), looks := false }, kinds := [], alts := [], laidByText := true, laidKinds := [.data, .data, .data, .data, .pinned], laidTests := true, laidLooks := .later }
def ConformMapsUptoCardSaid : Prop := Claim7.holds Tryz.pinned (.plain (OpenSpec.upto conformMapsSpec)) conformMapsUptoCard
end Rows
end Go.Proofs.YtablhmobekmflaaGreatDoor

/-
  DERIVED. GIVEN WITH THE SEED: THE CARDS: each row of YtffianmhojiomaaDoorRows.lean that lists a variable, with what it lists TIED to the program's text (the seventh form; the later family's looks); each row that meets fmt, with fmt's text TOLD by the authors' own Lean function (tested against real Go, not proved from fmt's source: count such statements apart). THE CARD IS WHAT COUNTS. Prove the row's statement (the work); the ties are given (YtffianmhojiomaaDoorTie.lean); close each card by the builder's one call (the guide's Derived/Test/ToyasCard.lean, 'card_holds'). Laid BY PROGRAM, IN A SANDBOX (cutbox-door.mjs). By AI agents, Wed Nov 11 2026. No macro, syntax, notation, axiom, sorry.
-/
import Derived.Test.YtffianmhojiomaaDoorRows
import GoSem.ClaimSeven
namespace Go.Proofs.YtffianmhojiomaaDoor
namespace Rows

/-- THE TIED CARD OF 'captionerlaw45.ReelFrames'. -/
def reelFramesCard : Claim7 := { stood := { row := reelFramesRow, standIns := [], harness := (true, "f2e97f99ca0aec337bfe4833736650ffaf423f3bea0760adbf01c02976101dbe"), looks := false }, kinds := [], alts := [], laidByText := true, laidKinds := [.data, .pinned], laidTests := true, laidLooks := .later }
def ReelFramesCardSaid : Prop := Claim7.holds Tryd.pinned (.plain (OpenSpec.ofChange reelFramesSpec)) reelFramesCard

/-- THE TIED CARD OF 'captionerlaw45.ReelSwaps'. -/
def reelSwapsCard : Claim7 := { stood := { row := reelSwapsRow, standIns := [], harness := (true, "f2e97f99ca0aec337bfe4833736650ffaf423f3bea0760adbf01c02976101dbe"), looks := false }, kinds := [], alts := [], laidByText := true, laidKinds := [.data, .pinned], laidTests := true, laidLooks := .later }
def ReelSwapsCardSaid : Prop := Claim7.holds Tryd.pinned (.plain (OpenSpec.ofChange reelSwapsSpec)) reelSwapsCard

/-- THE TIED CARD OF 'captionerlaw45.ReelIdentity'. -/
def reelIdentityCard : Claim7 := { stood := { row := reelIdentityRow, standIns := [], harness := (true, "f2e97f99ca0aec337bfe4833736650ffaf423f3bea0760adbf01c02976101dbe"), looks := false }, kinds := [], alts := [], laidByText := true, laidKinds := [.data, .pinned], laidTests := true, laidLooks := .later }
def ReelIdentityCardSaid : Prop := Claim7.holds Tryd.pinned (.plain (OpenSpec.ofChange reelIdentitySpec)) reelIdentityCard

/-- THE TIED CARD OF 'captionerlaw45.ReelJoins'. -/
def reelJoinsCard : Claim7 := { stood := { row := reelJoinsRow, standIns := [], harness := (true, "f2e97f99ca0aec337bfe4833736650ffaf423f3bea0760adbf01c02976101dbe"), looks := false }, kinds := [], alts := [], laidByText := true, laidKinds := [.data, .pinned], laidTests := true, laidLooks := .later }
def ReelJoinsCardSaid : Prop := Claim7.holds Tryd.pinned (.plain (OpenSpec.ofChange reelJoinsSpec)) reelJoinsCard

/-- THE TIED CARD OF 'captionerlaw45.ReelJoined'. -/
def reelJoinedCard : Claim7 := { stood := { row := reelJoinedRow, standIns := [], harness := (true, "f2e97f99ca0aec337bfe4833736650ffaf423f3bea0760adbf01c02976101dbe"), looks := false }, kinds := [], alts := [], laidByText := true, laidKinds := [.data, .pinned], laidTests := true, laidLooks := .later }
def ReelJoinedCardSaid : Prop := Claim7.holds Tryd.pinned (.plain (OpenSpec.ofChange reelJoinedSpec)) reelJoinedCard

/-- THE TIED CARD OF 'captionerlaw45.ReelMaps'. -/
def reelMapsCard : Claim7 := { stood := { row := reelMapsRow, standIns := [], harness := (true, "f2e97f99ca0aec337bfe4833736650ffaf423f3bea0760adbf01c02976101dbe"), looks := false }, kinds := [], alts := [], laidByText := true, laidKinds := [.data, .pinned], laidTests := true, laidLooks := .later }
def ReelMapsCardSaid : Prop := Claim7.holds Tryd.pinned (.plain (OpenSpec.ofChange reelMapsSpec)) reelMapsCard

/-- THE SECOND FORM's CARD OF 'captionerlaw45.ReelFrames'. -/
def reelFramesUptoCard : Claim7 := { stood := { row := reelFramesUptoRow, standIns := [], harness := (true, "f2e97f99ca0aec337bfe4833736650ffaf423f3bea0760adbf01c02976101dbe"), looks := false }, kinds := [], alts := [], laidByText := true, laidKinds := [.data, .pinned], laidTests := true, laidLooks := .later }
def ReelFramesUptoCardSaid : Prop := Claim7.holds Tryd.pinned (.plain (OpenSpec.upto reelFramesSpec)) reelFramesUptoCard

/-- THE SECOND FORM's CARD OF 'captionerlaw45.ReelSwaps'. -/
def reelSwapsUptoCard : Claim7 := { stood := { row := reelSwapsUptoRow, standIns := [], harness := (true, "f2e97f99ca0aec337bfe4833736650ffaf423f3bea0760adbf01c02976101dbe"), looks := false }, kinds := [], alts := [], laidByText := true, laidKinds := [.data, .pinned], laidTests := true, laidLooks := .later }
def ReelSwapsUptoCardSaid : Prop := Claim7.holds Tryd.pinned (.plain (OpenSpec.upto reelSwapsSpec)) reelSwapsUptoCard

/-- THE SECOND FORM's CARD OF 'captionerlaw45.ReelIdentity'. -/
def reelIdentityUptoCard : Claim7 := { stood := { row := reelIdentityUptoRow, standIns := [], harness := (true, "f2e97f99ca0aec337bfe4833736650ffaf423f3bea0760adbf01c02976101dbe"), looks := false }, kinds := [], alts := [], laidByText := true, laidKinds := [.data, .pinned], laidTests := true, laidLooks := .later }
def ReelIdentityUptoCardSaid : Prop := Claim7.holds Tryd.pinned (.plain (OpenSpec.upto reelIdentitySpec)) reelIdentityUptoCard

/-- THE SECOND FORM's CARD OF 'captionerlaw45.ReelJoins'. -/
def reelJoinsUptoCard : Claim7 := { stood := { row := reelJoinsUptoRow, standIns := [], harness := (true, "f2e97f99ca0aec337bfe4833736650ffaf423f3bea0760adbf01c02976101dbe"), looks := false }, kinds := [], alts := [], laidByText := true, laidKinds := [.data, .pinned], laidTests := true, laidLooks := .later }
def ReelJoinsUptoCardSaid : Prop := Claim7.holds Tryd.pinned (.plain (OpenSpec.upto reelJoinsSpec)) reelJoinsUptoCard

/-- THE SECOND FORM's CARD OF 'captionerlaw45.ReelJoined'. -/
def reelJoinedUptoCard : Claim7 := { stood := { row := reelJoinedUptoRow, standIns := [], harness := (true, "f2e97f99ca0aec337bfe4833736650ffaf423f3bea0760adbf01c02976101dbe"), looks := false }, kinds := [], alts := [], laidByText := true, laidKinds := [.data, .pinned], laidTests := true, laidLooks := .later }
def ReelJoinedUptoCardSaid : Prop := Claim7.holds Tryd.pinned (.plain (OpenSpec.upto reelJoinedSpec)) reelJoinedUptoCard

/-- THE SECOND FORM's CARD OF 'captionerlaw45.ReelMaps'. -/
def reelMapsUptoCard : Claim7 := { stood := { row := reelMapsUptoRow, standIns := [], harness := (true, "f2e97f99ca0aec337bfe4833736650ffaf423f3bea0760adbf01c02976101dbe"), looks := false }, kinds := [], alts := [], laidByText := true, laidKinds := [.data, .pinned], laidTests := true, laidLooks := .later }
def ReelMapsUptoCardSaid : Prop := Claim7.holds Tryd.pinned (.plain (OpenSpec.upto reelMapsSpec)) reelMapsUptoCard
end Rows
end Go.Proofs.YtffianmhojiomaaDoor

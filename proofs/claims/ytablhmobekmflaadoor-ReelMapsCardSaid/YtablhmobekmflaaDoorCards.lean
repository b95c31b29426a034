/-
  DERIVED. GIVEN WITH THE SEED: THE CARDS: each row of YtablhmobekmflaaDoorRows.lean that lists a variable, with what it lists TIED to the program's text (the seventh form; the later family's looks); each row that meets fmt, with fmt's text TOLD by the authors' own Lean function (tested against real Go, not proved from fmt's source: count such statements apart). THE CARD IS WHAT COUNTS. Prove the row's statement (the work); the ties are given (YtablhmobekmflaaDoorTie.lean); close each card by the builder's one call (the guide's Derived/Test/ToyasCard.lean, 'card_holds'). Laid BY PROGRAM, IN A SANDBOX (cutbox-door.mjs). By AI agents, Wed Nov 11 2026. No macro, syntax, notation, axiom, sorry.
-/
import Derived.Test.YtablhmobekmflaaDoorRows
import GoSem.ClaimSeven
namespace Go.Proofs.YtablhmobekmflaaDoor
namespace Rows

/-- THE TIED CARD OF 'captionerlaw45.ReelMaps'. -/
def reelMapsCard : Claim7 := { stood := { row := reelMapsRow, standIns := [], harness := (true, "eb5f5a4d516acf48d1d1391109fa4c9aa286a88354fb90f81d0944ce6e833fae"), looks := false }, kinds := [], alts := [], laidByText := true, laidKinds := [.data, .pinned], laidTests := true, laidLooks := .later }
def ReelMapsCardSaid : Prop := Claim7.holds Tryd.pinned (.plain (OpenSpec.ofChange reelMapsSpec)) reelMapsCard

/-- THE SECOND FORM's CARD OF 'captionerlaw45.ReelMaps'. -/
def reelMapsUptoCard : Claim7 := { stood := { row := reelMapsUptoRow, standIns := [], harness := (true, "eb5f5a4d516acf48d1d1391109fa4c9aa286a88354fb90f81d0944ce6e833fae"), looks := false }, kinds := [], alts := [], laidByText := true, laidKinds := [.data, .pinned], laidTests := true, laidLooks := .later }
def ReelMapsUptoCardSaid : Prop := Claim7.holds Tryd.pinned (.plain (OpenSpec.upto reelMapsSpec)) reelMapsUptoCard
end Rows
end Go.Proofs.YtablhmobekmflaaDoor

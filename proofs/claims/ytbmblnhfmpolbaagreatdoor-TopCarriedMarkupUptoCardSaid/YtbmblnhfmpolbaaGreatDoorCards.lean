/-
  DERIVED. GIVEN WITH THE SEED: THE CARDS: each row of YtbmblnhfmpolbaaGreatDoorRows.lean that lists a variable, with what it lists TIED to the program's text (the seventh form; the later family's looks); each row that meets fmt, with fmt's text TOLD by the authors' own Lean function (tested against real Go, not proved from fmt's source: count such statements apart). THE CARD IS WHAT COUNTS. Prove the row's statement (the work); the ties are given (YtbmblnhfmpolbaaGreatDoorTie.lean); close each card by the builder's one call (the guide's Derived/Test/ToyasCard.lean, 'card_holds'). Laid BY PROGRAM, IN A SANDBOX (cutbox-door.mjs). By AI agents, Wed Nov 11 2026. No macro, syntax, notation, axiom, sorry.
-/
import Derived.Test.YtbmblnhfmpolbaaGreatDoorRows
import GoSem.ClaimSeven
namespace Go.Proofs.YtbmblnhfmpolbaaGreatDoor
namespace Rows

/-- THE TIED CARD OF 'captionertop.TopCarriedMarkup'. -/
def topCarriedMarkupCard : Claim7 := { stood := { row := topCarriedMarkupRow, standIns := [], harness := (true, "c0c8878f0a6de6cac413cbd6ab84c2c037b74d677b3de88d45641780b5963eac"), looks := true }, kinds := [], alts := [], laidByText := true, laidKinds := [.data, .data, .data, .data, .sentinel, .sentinel, .data, .widerDeep, .widerDeep, .pinned], laidTests := true, laidLooks := .later }
def TopCarriedMarkupCardSaid : Prop := Claim7.holds Tryz.pinned (.plain (OpenSpec.ofChange topCarriedMarkupSpec)) topCarriedMarkupCard

/-- THE SECOND FORM's CARD OF 'captionertop.TopCarriedMarkup'. -/
def topCarriedMarkupUptoCard : Claim7 := { stood := { row := topCarriedMarkupUptoRow, standIns := [], harness := (true, "c0c8878f0a6de6cac413cbd6ab84c2c037b74d677b3de88d45641780b5963eac"), looks := true }, kinds := [], alts := [], laidByText := true, laidKinds := [.data, .data, .data, .data, .sentinel, .sentinel, .data, .widerDeep, .widerDeep, .pinned], laidTests := true, laidLooks := .later }
def TopCarriedMarkupUptoCardSaid : Prop := Claim7.holds Tryz.pinned (.plain (OpenSpec.upto topCarriedMarkupSpec)) topCarriedMarkupUptoCard
end Rows
end Go.Proofs.YtbmblnhfmpolbaaGreatDoor

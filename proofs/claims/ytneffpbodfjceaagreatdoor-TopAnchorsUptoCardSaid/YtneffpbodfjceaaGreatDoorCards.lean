/-
  DERIVED. GIVEN WITH THE SEED: THE CARDS: each row of YtneffpbodfjceaaGreatDoorRows.lean that lists a variable, with what it lists TIED to the program's text (the seventh form; the later family's looks); each row that meets fmt, with fmt's text TOLD by the authors' own Lean function (tested against real Go, not proved from fmt's source: count such statements apart). THE CARD IS WHAT COUNTS. Prove the row's statement (the work); the ties are given (YtneffpbodfjceaaGreatDoorTie.lean); close each card by the builder's one call (the guide's Derived/Test/ToyasCard.lean, 'card_holds'). Laid BY PROGRAM, IN A SANDBOX (cutbox-door.mjs). By AI agents, Wed Nov 11 2026. No macro, syntax, notation, axiom, sorry.
-/
import Derived.Test.YtneffpbodfjceaaGreatDoorRows
import GoSem.ClaimSeven
namespace Go.Proofs.YtneffpbodfjceaaGreatDoor
namespace Rows

/-- THE TIED CARD OF 'captionertop.TopAnchors'. -/
def topAnchorsCard : Claim7 := { stood := { row := topAnchorsRow, standIns := [], harness := (true, "545ccc4809f1c9dc9bad8c61a5953a8914af62e3550ff1be2e05857d1a1bacba"), looks := true }, kinds := [], alts := [], laidByText := true, laidKinds := [.data, .data, .data, .data, .sentinel, .sentinel, .pinned], laidTests := true, laidLooks := .later }
def TopAnchorsCardSaid : Prop := Claim7.holds Tryz.pinned (.plain (OpenSpec.ofChange topAnchorsSpec)) topAnchorsCard

/-- THE SECOND FORM's CARD OF 'captionertop.TopAnchors'. -/
def topAnchorsUptoCard : Claim7 := { stood := { row := topAnchorsUptoRow, standIns := [], harness := (true, "545ccc4809f1c9dc9bad8c61a5953a8914af62e3550ff1be2e05857d1a1bacba"), looks := true }, kinds := [], alts := [], laidByText := true, laidKinds := [.data, .data, .data, .data, .sentinel, .sentinel, .pinned], laidTests := true, laidLooks := .later }
def TopAnchorsUptoCardSaid : Prop := Claim7.holds Tryz.pinned (.plain (OpenSpec.upto topAnchorsSpec)) topAnchorsUptoCard
end Rows
end Go.Proofs.YtneffpbodfjceaaGreatDoor

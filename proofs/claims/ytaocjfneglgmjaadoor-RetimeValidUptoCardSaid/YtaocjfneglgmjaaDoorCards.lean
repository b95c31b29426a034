/-
  DERIVED. GIVEN WITH THE SEED: THE CARDS: each row of YtaocjfneglgmjaaDoorRows.lean that lists a variable, with what it lists TIED to the program's text (the seventh form; the later family's looks); each row that meets fmt, with fmt's text TOLD by the authors' own Lean function (tested against real Go, not proved from fmt's source: count such statements apart). THE CARD IS WHAT COUNTS. Prove the row's statement (the work); the ties are given (YtaocjfneglgmjaaDoorTie.lean); close each card by the builder's one call (the guide's Derived/Test/ToyasCard.lean, 'card_holds'). Laid BY PROGRAM, IN A SANDBOX (cutbox-door.mjs). By AI agents, Wed Nov 11 2026. No macro, syntax, notation, axiom, sorry.
-/
import Derived.Test.YtaocjfneglgmjaaDoorRows
import GoSem.ClaimSeven
namespace Go.Proofs.YtaocjfneglgmjaaDoor
namespace Rows

/-- THE TIED CARD OF 'captionerlaw47.RetimeSpans'. -/
def retimeSpansCard : Claim7 := { stood := { row := retimeSpansRow, standIns := [], harness := (true, "68f3b8698678dece2e11c41919f747ce9dc5c6260738e7ee73f9a047c2f59d5b"), looks := false }, kinds := [], alts := [], laidByText := true, laidKinds := [.data, .pinned], laidTests := true, laidLooks := .later }
def RetimeSpansCardSaid : Prop := Claim7.holds Tryd.pinned (.plain (OpenSpec.ofChange retimeSpansSpec)) retimeSpansCard

/-- THE TIED CARD OF 'captionerlaw47.RetimeDrifts'. -/
def retimeDriftsCard : Claim7 := { stood := { row := retimeDriftsRow, standIns := [], harness := (true, "68f3b8698678dece2e11c41919f747ce9dc5c6260738e7ee73f9a047c2f59d5b"), looks := false }, kinds := [], alts := [], laidByText := true, laidKinds := [.data, .pinned], laidTests := true, laidLooks := .later }
def RetimeDriftsCardSaid : Prop := Claim7.holds Tryd.pinned (.plain (OpenSpec.ofChange retimeDriftsSpec)) retimeDriftsCard

/-- THE TIED CARD OF 'captionerlaw47.RetimeBack'. -/
def retimeBackCard : Claim7 := { stood := { row := retimeBackRow, standIns := [], harness := (true, "68f3b8698678dece2e11c41919f747ce9dc5c6260738e7ee73f9a047c2f59d5b"), looks := false }, kinds := [], alts := [], laidByText := true, laidKinds := [.data, .pinned], laidTests := true, laidLooks := .later }
def RetimeBackCardSaid : Prop := Claim7.holds Tryd.pinned (.plain (OpenSpec.ofChange retimeBackSpec)) retimeBackCard

/-- THE TIED CARD OF 'captionerlaw47.RetimeWorst'. -/
def retimeWorstCard : Claim7 := { stood := { row := retimeWorstRow, standIns := [], harness := (true, "68f3b8698678dece2e11c41919f747ce9dc5c6260738e7ee73f9a047c2f59d5b"), looks := false }, kinds := [], alts := [], laidByText := true, laidKinds := [.data, .pinned], laidTests := true, laidLooks := .later }
def RetimeWorstCardSaid : Prop := Claim7.holds Tryd.pinned (.plain (OpenSpec.ofChange retimeWorstSpec)) retimeWorstCard

/-- THE TIED CARD OF 'captionerlaw47.RetimeBounds'. -/
def retimeBoundsCard : Claim7 := { stood := { row := retimeBoundsRow, standIns := [], harness := (true, "68f3b8698678dece2e11c41919f747ce9dc5c6260738e7ee73f9a047c2f59d5b"), looks := false }, kinds := [], alts := [], laidByText := true, laidKinds := [.data, .pinned], laidTests := true, laidLooks := .later }
def RetimeBoundsCardSaid : Prop := Claim7.holds Tryd.pinned (.plain (OpenSpec.ofChange retimeBoundsSpec)) retimeBoundsCard

/-- THE TIED CARD OF 'captionerlaw47.RetimeValid'. -/
def retimeValidCard : Claim7 := { stood := { row := retimeValidRow, standIns := [], harness := (true, "68f3b8698678dece2e11c41919f747ce9dc5c6260738e7ee73f9a047c2f59d5b"), looks := false }, kinds := [], alts := [], laidByText := true, laidKinds := [.data, .pinned], laidTests := true, laidLooks := .later }
def RetimeValidCardSaid : Prop := Claim7.holds Tryd.pinned (.plain (OpenSpec.ofChange retimeValidSpec)) retimeValidCard

/-- THE SECOND FORM's CARD OF 'captionerlaw47.RetimeSpans'. -/
def retimeSpansUptoCard : Claim7 := { stood := { row := retimeSpansUptoRow, standIns := [], harness := (true, "68f3b8698678dece2e11c41919f747ce9dc5c6260738e7ee73f9a047c2f59d5b"), looks := false }, kinds := [], alts := [], laidByText := true, laidKinds := [.data, .pinned], laidTests := true, laidLooks := .later }
def RetimeSpansUptoCardSaid : Prop := Claim7.holds Tryd.pinned (.plain (OpenSpec.upto retimeSpansSpec)) retimeSpansUptoCard

/-- THE SECOND FORM's CARD OF 'captionerlaw47.RetimeDrifts'. -/
def retimeDriftsUptoCard : Claim7 := { stood := { row := retimeDriftsUptoRow, standIns := [], harness := (true, "68f3b8698678dece2e11c41919f747ce9dc5c6260738e7ee73f9a047c2f59d5b"), looks := false }, kinds := [], alts := [], laidByText := true, laidKinds := [.data, .pinned], laidTests := true, laidLooks := .later }
def RetimeDriftsUptoCardSaid : Prop := Claim7.holds Tryd.pinned (.plain (OpenSpec.upto retimeDriftsSpec)) retimeDriftsUptoCard

/-- THE SECOND FORM's CARD OF 'captionerlaw47.RetimeBack'. -/
def retimeBackUptoCard : Claim7 := { stood := { row := retimeBackUptoRow, standIns := [], harness := (true, "68f3b8698678dece2e11c41919f747ce9dc5c6260738e7ee73f9a047c2f59d5b"), looks := false }, kinds := [], alts := [], laidByText := true, laidKinds := [.data, .pinned], laidTests := true, laidLooks := .later }
def RetimeBackUptoCardSaid : Prop := Claim7.holds Tryd.pinned (.plain (OpenSpec.upto retimeBackSpec)) retimeBackUptoCard

/-- THE SECOND FORM's CARD OF 'captionerlaw47.RetimeWorst'. -/
def retimeWorstUptoCard : Claim7 := { stood := { row := retimeWorstUptoRow, standIns := [], harness := (true, "68f3b8698678dece2e11c41919f747ce9dc5c6260738e7ee73f9a047c2f59d5b"), looks := false }, kinds := [], alts := [], laidByText := true, laidKinds := [.data, .pinned], laidTests := true, laidLooks := .later }
def RetimeWorstUptoCardSaid : Prop := Claim7.holds Tryd.pinned (.plain (OpenSpec.upto retimeWorstSpec)) retimeWorstUptoCard

/-- THE SECOND FORM's CARD OF 'captionerlaw47.RetimeBounds'. -/
def retimeBoundsUptoCard : Claim7 := { stood := { row := retimeBoundsUptoRow, standIns := [], harness := (true, "68f3b8698678dece2e11c41919f747ce9dc5c6260738e7ee73f9a047c2f59d5b"), looks := false }, kinds := [], alts := [], laidByText := true, laidKinds := [.data, .pinned], laidTests := true, laidLooks := .later }
def RetimeBoundsUptoCardSaid : Prop := Claim7.holds Tryd.pinned (.plain (OpenSpec.upto retimeBoundsSpec)) retimeBoundsUptoCard

/-- THE SECOND FORM's CARD OF 'captionerlaw47.RetimeValid'. -/
def retimeValidUptoCard : Claim7 := { stood := { row := retimeValidUptoRow, standIns := [], harness := (true, "68f3b8698678dece2e11c41919f747ce9dc5c6260738e7ee73f9a047c2f59d5b"), looks := false }, kinds := [], alts := [], laidByText := true, laidKinds := [.data, .pinned], laidTests := true, laidLooks := .later }
def RetimeValidUptoCardSaid : Prop := Claim7.holds Tryd.pinned (.plain (OpenSpec.upto retimeValidSpec)) retimeValidUptoCard
end Rows
end Go.Proofs.YtaocjfneglgmjaaDoor

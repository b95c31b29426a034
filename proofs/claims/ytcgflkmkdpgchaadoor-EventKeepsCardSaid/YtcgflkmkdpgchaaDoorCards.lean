/-
  DERIVED. GIVEN WITH THE SEED: THE CARDS: each row of YtcgflkmkdpgchaaDoorRows.lean that lists a variable, with what it lists TIED to the program's text (the seventh form; the later family's looks); each row that meets fmt, with fmt's text TOLD by the authors' own Lean function (tested against real Go, not proved from fmt's source: count such statements apart). THE CARD IS WHAT COUNTS. Prove the row's statement (the work); the ties are given (YtcgflkmkdpgchaaDoorTie.lean); close each card by the builder's one call (the guide's Derived/Test/ToyasCard.lean, 'card_holds'). Laid BY PROGRAM, IN A SANDBOX (cutbox-door.mjs). By AI agents, Wed Nov 11 2026. No macro, syntax, notation, axiom, sorry.
-/
import Derived.Test.YtcgflkmkdpgchaaDoorRows
import GoSem.ClaimSeven
namespace Go.Proofs.YtcgflkmkdpgchaaDoor
namespace Rows

/-- THE TIED CARD OF 'captionerlaw11.EventSplits'. -/
def eventSplitsCard : Claim7 := { stood := { row := eventSplitsRow, standIns := [], harness := (true, "400cd4c8280b0a0ff675f3a2c124cc6af11b5b60e498e99bfc57f8744e6529a7"), looks := false }, kinds := [], alts := [], laidByText := true, laidKinds := [.data, .pinned], laidTests := true, laidLooks := .later }
def EventSplitsCardSaid : Prop := Claim7.holds Tryd.pinned (.plain (OpenSpec.ofChange eventSplitsSpec)) eventSplitsCard

/-- THE TIED CARD OF 'captionerlaw11.EventOrders'. -/
def eventOrdersCard : Claim7 := { stood := { row := eventOrdersRow, standIns := [], harness := (true, "400cd4c8280b0a0ff675f3a2c124cc6af11b5b60e498e99bfc57f8744e6529a7"), looks := false }, kinds := [], alts := [], laidByText := true, laidKinds := [.data, .pinned], laidTests := true, laidLooks := .later }
def EventOrdersCardSaid : Prop := Claim7.holds Tryd.pinned (.plain (OpenSpec.ofChange eventOrdersSpec)) eventOrdersCard

/-- THE TIED CARD OF 'captionerlaw11.EventKeeps'. -/
def eventKeepsCard : Claim7 := { stood := { row := eventKeepsRow, standIns := [], harness := (true, "400cd4c8280b0a0ff675f3a2c124cc6af11b5b60e498e99bfc57f8744e6529a7"), looks := false }, kinds := [], alts := [], laidByText := true, laidKinds := [.data, .pinned], laidTests := true, laidLooks := .later }
def EventKeepsCardSaid : Prop := Claim7.holds Tryd.pinned (.plain (OpenSpec.ofChange eventKeepsSpec)) eventKeepsCard

/-- THE TIED CARD OF 'captionerlaw11.EventJoins'. -/
def eventJoinsCard : Claim7 := { stood := { row := eventJoinsRow, standIns := [], harness := (true, "400cd4c8280b0a0ff675f3a2c124cc6af11b5b60e498e99bfc57f8744e6529a7"), looks := false }, kinds := [], alts := [], laidByText := true, laidKinds := [.data, .pinned], laidTests := true, laidLooks := .later }
def EventJoinsCardSaid : Prop := Claim7.holds Tryd.pinned (.plain (OpenSpec.ofChange eventJoinsSpec)) eventJoinsCard

/-- THE TIED CARD OF 'captionerlaw11.EventReturns'. -/
def eventReturnsCard : Claim7 := { stood := { row := eventReturnsRow, standIns := [], harness := (true, "400cd4c8280b0a0ff675f3a2c124cc6af11b5b60e498e99bfc57f8744e6529a7"), looks := false }, kinds := [], alts := [], laidByText := true, laidKinds := [.data, .pinned], laidTests := true, laidLooks := .later }
def EventReturnsCardSaid : Prop := Claim7.holds Tryd.pinned (.plain (OpenSpec.ofChange eventReturnsSpec)) eventReturnsCard

/-- THE SECOND FORM's CARD OF 'captionerlaw11.EventSplits'. -/
def eventSplitsUptoCard : Claim7 := { stood := { row := eventSplitsUptoRow, standIns := [], harness := (true, "400cd4c8280b0a0ff675f3a2c124cc6af11b5b60e498e99bfc57f8744e6529a7"), looks := false }, kinds := [], alts := [], laidByText := true, laidKinds := [.data, .pinned], laidTests := true, laidLooks := .later }
def EventSplitsUptoCardSaid : Prop := Claim7.holds Tryd.pinned (.plain (OpenSpec.upto eventSplitsSpec)) eventSplitsUptoCard

/-- THE SECOND FORM's CARD OF 'captionerlaw11.EventOrders'. -/
def eventOrdersUptoCard : Claim7 := { stood := { row := eventOrdersUptoRow, standIns := [], harness := (true, "400cd4c8280b0a0ff675f3a2c124cc6af11b5b60e498e99bfc57f8744e6529a7"), looks := false }, kinds := [], alts := [], laidByText := true, laidKinds := [.data, .pinned], laidTests := true, laidLooks := .later }
def EventOrdersUptoCardSaid : Prop := Claim7.holds Tryd.pinned (.plain (OpenSpec.upto eventOrdersSpec)) eventOrdersUptoCard

/-- THE SECOND FORM's CARD OF 'captionerlaw11.EventKeeps'. -/
def eventKeepsUptoCard : Claim7 := { stood := { row := eventKeepsUptoRow, standIns := [], harness := (true, "400cd4c8280b0a0ff675f3a2c124cc6af11b5b60e498e99bfc57f8744e6529a7"), looks := false }, kinds := [], alts := [], laidByText := true, laidKinds := [.data, .pinned], laidTests := true, laidLooks := .later }
def EventKeepsUptoCardSaid : Prop := Claim7.holds Tryd.pinned (.plain (OpenSpec.upto eventKeepsSpec)) eventKeepsUptoCard

/-- THE SECOND FORM's CARD OF 'captionerlaw11.EventJoins'. -/
def eventJoinsUptoCard : Claim7 := { stood := { row := eventJoinsUptoRow, standIns := [], harness := (true, "400cd4c8280b0a0ff675f3a2c124cc6af11b5b60e498e99bfc57f8744e6529a7"), looks := false }, kinds := [], alts := [], laidByText := true, laidKinds := [.data, .pinned], laidTests := true, laidLooks := .later }
def EventJoinsUptoCardSaid : Prop := Claim7.holds Tryd.pinned (.plain (OpenSpec.upto eventJoinsSpec)) eventJoinsUptoCard

/-- THE SECOND FORM's CARD OF 'captionerlaw11.EventReturns'. -/
def eventReturnsUptoCard : Claim7 := { stood := { row := eventReturnsUptoRow, standIns := [], harness := (true, "400cd4c8280b0a0ff675f3a2c124cc6af11b5b60e498e99bfc57f8744e6529a7"), looks := false }, kinds := [], alts := [], laidByText := true, laidKinds := [.data, .pinned], laidTests := true, laidLooks := .later }
def EventReturnsUptoCardSaid : Prop := Claim7.holds Tryd.pinned (.plain (OpenSpec.upto eventReturnsSpec)) eventReturnsUptoCard
end Rows
end Go.Proofs.YtcgflkmkdpgchaaDoor

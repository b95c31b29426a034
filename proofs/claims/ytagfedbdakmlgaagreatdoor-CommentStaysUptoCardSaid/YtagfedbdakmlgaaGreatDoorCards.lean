/-
  DERIVED. GIVEN WITH THE SEED: THE CARDS: each row of YtagfedbdakmlgaaGreatDoorRows.lean that lists a variable, with what it lists TIED to the program's text (the seventh form; the later family's looks); each row that meets fmt, with fmt's text TOLD by the authors' own Lean function (tested against real Go, not proved from fmt's source: count such statements apart). THE CARD IS WHAT COUNTS. Prove the row's statement (the work); the ties are given (YtagfedbdakmlgaaGreatDoorTie.lean); close each card by the builder's one call (the guide's Derived/Test/ToyasCard.lean, 'card_holds'). Laid BY PROGRAM, IN A SANDBOX (cutbox-door.mjs). By AI agents, Wed Nov 11 2026. No macro, syntax, notation, axiom, sorry.
-/
import Derived.Test.YtagfedbdakmlgaaGreatDoorRows
import GoSem.ClaimSeven
namespace Go.Proofs.YtagfedbdakmlgaaGreatDoor
namespace Rows

/-- THE TIED CARD OF 'captionerlaw14.CommentAdds'. -/
def commentAddsCard : Claim7 := { stood := { row := commentAddsRow, standIns := [], harness := (true, "c48ea6cdb426c19da406805e41854500cbc5db70be9688c2739c92d9321bd681"), looks := false }, kinds := [], alts := [], laidByText := true, laidKinds := [.data, .pinned], laidTests := true, laidLooks := .later }
def CommentAddsCardSaid : Prop := Claim7.holds Tryz.pinned (.plain (OpenSpec.ofChange commentAddsSpec)) commentAddsCard

/-- THE TIED CARD OF 'captionerlaw47.RetimeDocuments'. -/
def retimeDocumentsCard : Claim7 := { stood := { row := retimeDocumentsRow, standIns := [], harness := (true, "c48ea6cdb426c19da406805e41854500cbc5db70be9688c2739c92d9321bd681"), looks := false }, kinds := [], alts := [], laidByText := true, laidKinds := [.data, .pinned], laidTests := true, laidLooks := .later }
def RetimeDocumentsCardSaid : Prop := Claim7.holds Tryz.pinned (.plain (OpenSpec.ofChange retimeDocumentsSpec)) retimeDocumentsCard

/-- THE TIED CARD OF 'captionerlaw14.CommentCloses'. -/
def commentClosesCard : Claim7 := { stood := { row := commentClosesRow, standIns := [], harness := (true, "c48ea6cdb426c19da406805e41854500cbc5db70be9688c2739c92d9321bd681"), looks := false }, kinds := [], alts := [], laidByText := true, laidKinds := [.data, .pinned], laidTests := true, laidLooks := .later }
def CommentClosesCardSaid : Prop := Claim7.holds Tryz.pinned (.plain (OpenSpec.ofChange commentClosesSpec)) commentClosesCard

/-- THE TIED CARD OF 'captionerlaw12.DocumentMoves'. -/
def documentMovesCard : Claim7 := { stood := { row := documentMovesRow, standIns := [], harness := (true, "c48ea6cdb426c19da406805e41854500cbc5db70be9688c2739c92d9321bd681"), looks := false }, kinds := [], alts := [], laidByText := true, laidKinds := [.data, .pinned], laidTests := true, laidLooks := .later }
def DocumentMovesCardSaid : Prop := Claim7.holds Tryz.pinned (.plain (OpenSpec.ofChange documentMovesSpec)) documentMovesCard

/-- THE TIED CARD OF 'captionerlaw12.DocumentChecks'. -/
def documentChecksCard : Claim7 := { stood := { row := documentChecksRow, standIns := [], harness := (true, "c48ea6cdb426c19da406805e41854500cbc5db70be9688c2739c92d9321bd681"), looks := false }, kinds := [], alts := [], laidByText := true, laidKinds := [.data, .pinned], laidTests := true, laidLooks := .later }
def DocumentChecksCardSaid : Prop := Claim7.holds Tryz.pinned (.plain (OpenSpec.ofChange documentChecksSpec)) documentChecksCard

/-- THE TIED CARD OF 'captionerlaw12.DocumentInserts'. -/
def documentInsertsCard : Claim7 := { stood := { row := documentInsertsRow, standIns := [], harness := (true, "c48ea6cdb426c19da406805e41854500cbc5db70be9688c2739c92d9321bd681"), looks := false }, kinds := [], alts := [], laidByText := true, laidKinds := [.data, .pinned], laidTests := true, laidLooks := .later }
def DocumentInsertsCardSaid : Prop := Claim7.holds Tryz.pinned (.plain (OpenSpec.ofChange documentInsertsSpec)) documentInsertsCard

/-- THE TIED CARD OF 'captionerlaw14.CommentLists'. -/
def commentListsCard : Claim7 := { stood := { row := commentListsRow, standIns := [], harness := (true, "c48ea6cdb426c19da406805e41854500cbc5db70be9688c2739c92d9321bd681"), looks := false }, kinds := [], alts := [], laidByText := true, laidKinds := [.data, .pinned], laidTests := true, laidLooks := .later }
def CommentListsCardSaid : Prop := Claim7.holds Tryz.pinned (.plain (OpenSpec.ofChange commentListsSpec)) commentListsCard

/-- THE TIED CARD OF 'captionerlaw14.CommentStays'. -/
def commentStaysCard : Claim7 := { stood := { row := commentStaysRow, standIns := [], harness := (true, "c48ea6cdb426c19da406805e41854500cbc5db70be9688c2739c92d9321bd681"), looks := false }, kinds := [], alts := [], laidByText := true, laidKinds := [.data, .pinned], laidTests := true, laidLooks := .later }
def CommentStaysCardSaid : Prop := Claim7.holds Tryz.pinned (.plain (OpenSpec.ofChange commentStaysSpec)) commentStaysCard

/-- THE SECOND FORM's CARD OF 'captionerlaw14.CommentAdds'. -/
def commentAddsUptoCard : Claim7 := { stood := { row := commentAddsUptoRow, standIns := [], harness := (true, "c48ea6cdb426c19da406805e41854500cbc5db70be9688c2739c92d9321bd681"), looks := false }, kinds := [], alts := [], laidByText := true, laidKinds := [.data, .pinned], laidTests := true, laidLooks := .later }
def CommentAddsUptoCardSaid : Prop := Claim7.holds Tryz.pinned (.plain (OpenSpec.upto commentAddsSpec)) commentAddsUptoCard

/-- THE SECOND FORM's CARD OF 'captionerlaw47.RetimeDocuments'. -/
def retimeDocumentsUptoCard : Claim7 := { stood := { row := retimeDocumentsUptoRow, standIns := [], harness := (true, "c48ea6cdb426c19da406805e41854500cbc5db70be9688c2739c92d9321bd681"), looks := false }, kinds := [], alts := [], laidByText := true, laidKinds := [.data, .pinned], laidTests := true, laidLooks := .later }
def RetimeDocumentsUptoCardSaid : Prop := Claim7.holds Tryz.pinned (.plain (OpenSpec.upto retimeDocumentsSpec)) retimeDocumentsUptoCard

/-- THE SECOND FORM's CARD OF 'captionerlaw14.CommentCloses'. -/
def commentClosesUptoCard : Claim7 := { stood := { row := commentClosesUptoRow, standIns := [], harness := (true, "c48ea6cdb426c19da406805e41854500cbc5db70be9688c2739c92d9321bd681"), looks := false }, kinds := [], alts := [], laidByText := true, laidKinds := [.data, .pinned], laidTests := true, laidLooks := .later }
def CommentClosesUptoCardSaid : Prop := Claim7.holds Tryz.pinned (.plain (OpenSpec.upto commentClosesSpec)) commentClosesUptoCard

/-- THE SECOND FORM's CARD OF 'captionerlaw12.DocumentMoves'. -/
def documentMovesUptoCard : Claim7 := { stood := { row := documentMovesUptoRow, standIns := [], harness := (true, "c48ea6cdb426c19da406805e41854500cbc5db70be9688c2739c92d9321bd681"), looks := false }, kinds := [], alts := [], laidByText := true, laidKinds := [.data, .pinned], laidTests := true, laidLooks := .later }
def DocumentMovesUptoCardSaid : Prop := Claim7.holds Tryz.pinned (.plain (OpenSpec.upto documentMovesSpec)) documentMovesUptoCard

/-- THE SECOND FORM's CARD OF 'captionerlaw12.DocumentChecks'. -/
def documentChecksUptoCard : Claim7 := { stood := { row := documentChecksUptoRow, standIns := [], harness := (true, "c48ea6cdb426c19da406805e41854500cbc5db70be9688c2739c92d9321bd681"), looks := false }, kinds := [], alts := [], laidByText := true, laidKinds := [.data, .pinned], laidTests := true, laidLooks := .later }
def DocumentChecksUptoCardSaid : Prop := Claim7.holds Tryz.pinned (.plain (OpenSpec.upto documentChecksSpec)) documentChecksUptoCard

/-- THE SECOND FORM's CARD OF 'captionerlaw12.DocumentInserts'. -/
def documentInsertsUptoCard : Claim7 := { stood := { row := documentInsertsUptoRow, standIns := [], harness := (true, "c48ea6cdb426c19da406805e41854500cbc5db70be9688c2739c92d9321bd681"), looks := false }, kinds := [], alts := [], laidByText := true, laidKinds := [.data, .pinned], laidTests := true, laidLooks := .later }
def DocumentInsertsUptoCardSaid : Prop := Claim7.holds Tryz.pinned (.plain (OpenSpec.upto documentInsertsSpec)) documentInsertsUptoCard

/-- THE SECOND FORM's CARD OF 'captionerlaw14.CommentLists'. -/
def commentListsUptoCard : Claim7 := { stood := { row := commentListsUptoRow, standIns := [], harness := (true, "c48ea6cdb426c19da406805e41854500cbc5db70be9688c2739c92d9321bd681"), looks := false }, kinds := [], alts := [], laidByText := true, laidKinds := [.data, .pinned], laidTests := true, laidLooks := .later }
def CommentListsUptoCardSaid : Prop := Claim7.holds Tryz.pinned (.plain (OpenSpec.upto commentListsSpec)) commentListsUptoCard

/-- THE SECOND FORM's CARD OF 'captionerlaw14.CommentStays'. -/
def commentStaysUptoCard : Claim7 := { stood := { row := commentStaysUptoRow, standIns := [], harness := (true, "c48ea6cdb426c19da406805e41854500cbc5db70be9688c2739c92d9321bd681"), looks := false }, kinds := [], alts := [], laidByText := true, laidKinds := [.data, .pinned], laidTests := true, laidLooks := .later }
def CommentStaysUptoCardSaid : Prop := Claim7.holds Tryz.pinned (.plain (OpenSpec.upto commentStaysSpec)) commentStaysUptoCard
end Rows
end Go.Proofs.YtagfedbdakmlgaaGreatDoor

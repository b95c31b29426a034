/-
  DERIVED. GIVEN WITH THE SEED: THE CARDS: each row of YtagfedbdakmlgaaDoorRows.lean that lists a variable, with what it lists TIED to the program's text (the seventh form; the later family's looks); each row that meets fmt, with fmt's text TOLD by the authors' own Lean function (tested against real Go, not proved from fmt's source: count such statements apart). THE CARD IS WHAT COUNTS. Prove the row's statement (the work); the ties are given (YtagfedbdakmlgaaDoorTie.lean); close each card by the builder's one call (the guide's Derived/Test/ToyasCard.lean, 'card_holds'). Laid BY PROGRAM, IN A SANDBOX (cutbox-door.mjs). By AI agents, Wed Nov 11 2026. No macro, syntax, notation, axiom, sorry.
-/
import Derived.Test.YtagfedbdakmlgaaDoorRows
import GoSem.ClaimSeven
namespace Go.Proofs.YtagfedbdakmlgaaDoor
namespace Rows

/-- THE TIED CARD OF 'captionerlaw14.CommentMoves'. -/
def commentMovesCard : Claim7 := { stood := { row := commentMovesRow, standIns := [], harness := (true, "39e09099ded9a91771a90f219cba153b8c3ac022150cf0fc018490ea31da3c89"), looks := false }, kinds := [], alts := [], laidByText := true, laidKinds := [.data, .pinned], laidTests := true, laidLooks := .later }
def CommentMovesCardSaid : Prop := Claim7.holds Tryd.pinned (.plain (OpenSpec.ofChange commentMovesSpec)) commentMovesCard

/-- THE TIED CARD OF 'captionerlaw12.DocumentFollows'. -/
def documentFollowsCard : Claim7 := { stood := { row := documentFollowsRow, standIns := [], harness := (true, "39e09099ded9a91771a90f219cba153b8c3ac022150cf0fc018490ea31da3c89"), looks := false }, kinds := [], alts := [], laidByText := true, laidKinds := [.data, .pinned], laidTests := true, laidLooks := .later }
def DocumentFollowsCardSaid : Prop := Claim7.holds Tryd.pinned (.plain (OpenSpec.ofChange documentFollowsSpec)) documentFollowsCard

/-- THE TIED CARD OF 'captionerlaw12.DocumentKeeps'. -/
def documentKeepsCard : Claim7 := { stood := { row := documentKeepsRow, standIns := [], harness := (true, "39e09099ded9a91771a90f219cba153b8c3ac022150cf0fc018490ea31da3c89"), looks := false }, kinds := [], alts := [], laidByText := true, laidKinds := [.data, .pinned], laidTests := true, laidLooks := .later }
def DocumentKeepsCardSaid : Prop := Claim7.holds Tryd.pinned (.plain (OpenSpec.ofChange documentKeepsSpec)) documentKeepsCard

/-- THE TIED CARD OF 'captionerlaw12.DocumentValid'. -/
def documentValidCard : Claim7 := { stood := { row := documentValidRow, standIns := [], harness := (true, "39e09099ded9a91771a90f219cba153b8c3ac022150cf0fc018490ea31da3c89"), looks := false }, kinds := [], alts := [], laidByText := true, laidKinds := [.data, .pinned], laidTests := true, laidLooks := .later }
def DocumentValidCardSaid : Prop := Claim7.holds Tryd.pinned (.plain (OpenSpec.ofChange documentValidSpec)) documentValidCard

/-- THE SECOND FORM's CARD OF 'captionerlaw14.CommentMoves'. -/
def commentMovesUptoCard : Claim7 := { stood := { row := commentMovesUptoRow, standIns := [], harness := (true, "39e09099ded9a91771a90f219cba153b8c3ac022150cf0fc018490ea31da3c89"), looks := false }, kinds := [], alts := [], laidByText := true, laidKinds := [.data, .pinned], laidTests := true, laidLooks := .later }
def CommentMovesUptoCardSaid : Prop := Claim7.holds Tryd.pinned (.plain (OpenSpec.upto commentMovesSpec)) commentMovesUptoCard

/-- THE SECOND FORM's CARD OF 'captionerlaw12.DocumentFollows'. -/
def documentFollowsUptoCard : Claim7 := { stood := { row := documentFollowsUptoRow, standIns := [], harness := (true, "39e09099ded9a91771a90f219cba153b8c3ac022150cf0fc018490ea31da3c89"), looks := false }, kinds := [], alts := [], laidByText := true, laidKinds := [.data, .pinned], laidTests := true, laidLooks := .later }
def DocumentFollowsUptoCardSaid : Prop := Claim7.holds Tryd.pinned (.plain (OpenSpec.upto documentFollowsSpec)) documentFollowsUptoCard

/-- THE SECOND FORM's CARD OF 'captionerlaw12.DocumentKeeps'. -/
def documentKeepsUptoCard : Claim7 := { stood := { row := documentKeepsUptoRow, standIns := [], harness := (true, "39e09099ded9a91771a90f219cba153b8c3ac022150cf0fc018490ea31da3c89"), looks := false }, kinds := [], alts := [], laidByText := true, laidKinds := [.data, .pinned], laidTests := true, laidLooks := .later }
def DocumentKeepsUptoCardSaid : Prop := Claim7.holds Tryd.pinned (.plain (OpenSpec.upto documentKeepsSpec)) documentKeepsUptoCard

/-- THE SECOND FORM's CARD OF 'captionerlaw12.DocumentValid'. -/
def documentValidUptoCard : Claim7 := { stood := { row := documentValidUptoRow, standIns := [], harness := (true, "39e09099ded9a91771a90f219cba153b8c3ac022150cf0fc018490ea31da3c89"), looks := false }, kinds := [], alts := [], laidByText := true, laidKinds := [.data, .pinned], laidTests := true, laidLooks := .later }
def DocumentValidUptoCardSaid : Prop := Claim7.holds Tryd.pinned (.plain (OpenSpec.upto documentValidSpec)) documentValidUptoCard
end Rows
end Go.Proofs.YtagfedbdakmlgaaDoor

/-
  NARROWER THAN 'FOR EVERY INPUT', by the rows' own cells (each row's printed sentence says how): CommentAdds: laid · RetimeDocuments: laid · CommentCloses: laid · DocumentMoves: laid · DocumentChecks: laid · DocumentInserts: laid · CommentLists: laid · CommentStays: laid.
  DERIVED. THE GIVEN ROWS OF THIS SEAT. 8 by the template 'for every input the law returns true; each argument reads behind the call as it read before'; 0 by the template 'total and deterministic' (their statements: YtagfedbdakmlgaaGreatDoorTotals.lean).
  GIVEN WITH THE SEED: the statements are not yours to turn. If you find one false, say at which input.
  Laid BY PROGRAM, IN A SANDBOX (cutbox-rows.mjs): the forced cells as the released guide's own fill.sh prints them over the translation bf8be2c8c4a9db54… (all of the seat's roots in one cut). By AI agents, Wed Nov 11 2026. No macro, syntax, notation, axiom, sorry.
-/
import Derived.Test.YtagfedbdakmlgaaGreatDoorChecked
import GoSem.PinnedTables
import GoSem.Claim
import GoSem.ClaimJoined
import GoSem.ClaimMapViews
import Derived.JoinedTies
import Derived.KernelRfl
namespace Go.Proofs.YtagfedbdakmlgaaGreatDoor
/- THE CELL 'sum', in the pinned program and in every row, IS THE sha256 OF THE DUMP (.gsa) THAT YtagfedbdakmlgaaGreatDoorProg.lean LOADS. Nothing in Lean hashes anything: it is a label: what it is worth is what the hold of that sum in a sandbox is worth. -/
noncomputable def Tryz.pinned : Pinned := { name := "ytagfedbdakmlgaagreatdoor", sum := "bf8be2c8c4a9db54554a50df864fc6b05089545bf76dc121d4bf40324bfabd72", checked := Tryz.checked }
namespace Rows
def none {H : Type} : Left H := { results := [], args := [] }

/- WHAT THE LISTED PACKAGE-LEVEL VARIABLES READ AS WHEN THE CALL BEGINS. Each datum BY PROGRAM (the guide's laid-datum.mjs) off the statement by which the dump's own 'gosem.cut.vars' lays the variable. In a bare row this is a premise. The card (YtagfedbdakmlgaaGreatDoorCards.lean) ties it to the program's text. -/
def laid_unicode_utf8_acceptRanges {H : Type} : DataW H := .agg [.agg [.lit (.int .u8 128), .lit (.int .u8 191)], .agg [.lit (.int .u8 160), .lit (.int .u8 191)], .agg [.lit (.int .u8 128), .lit (.int .u8 159)], .agg [.lit (.int .u8 144), .lit (.int .u8 191)], .agg [.lit (.int .u8 128), .lit (.int .u8 143)], .agg [.lit (.int .u8 0), .lit (.int .u8 0)], .agg [.lit (.int .u8 0), .lit (.int .u8 0)], .agg [.lit (.int .u8 0), .lit (.int .u8 0)], .agg [.lit (.int .u8 0), .lit (.int .u8 0)], .agg [.lit (.int .u8 0), .lit (.int .u8 0)], .agg [.lit (.int .u8 0), .lit (.int .u8 0)], .agg [.lit (.int .u8 0), .lit (.int .u8 0)], .agg [.lit (.int .u8 0), .lit (.int .u8 0)], .agg [.lit (.int .u8 0), .lit (.int .u8 0)], .agg [.lit (.int .u8 0), .lit (.int .u8 0)], .agg [.lit (.int .u8 0), .lit (.int .u8 0)]]
/-- One of Go's own tables, pinned by name: the form's constant. -/
def laid_unicode_utf8_first : DataW Unit := Go.Pinned.utf8First

/-- 'captionerlaw14.CommentAdds': WHATEVER THE INPUT: true; the input reads as it did. -/
def commentAddsSpec : ChangeSpec := { name := "commentAdds", fn := fun _ => fun
  | [d1, d2] => { results := [.lit (.bool true)], args := [d1, d2] }
  | _ => none }
def commentAddsRow : OpenClaim := { program := "ytagfedbdakmlgaagreatdoor", sum := "bf8be2c8c4a9db54554a50df864fc6b05089545bf76dc121d4bf40324bfabd72", func := "captioner/captionerlaw14.CommentAdds", spec := "commentAdds", inPlace := ["internal/abi.NoEscape", "internal/bytealg.IndexByteString", "internal/bytealg.IndexString", "internal/bytealg.MakeNoZero"], unfollowed := true, recurses := true, named := ["unicode/utf8.first", "unicode/utf8.acceptRanges", "internal/bytealg.MaxLen"], apart := false, laid := [("unicode/utf8.acceptRanges", laid_unicode_utf8_acceptRanges), ("unicode/utf8.first", laid_unicode_utf8_first)] }
def CommentAddsSaid : Prop := commentAddsRow.holds Tryz.pinned (OpenSpec.ofChange commentAddsSpec)

/-- ITS FALSE NEIGHBOUR: 'it returns false'. Refute it at one input. -/
def commentAddsWrong : ChangeSpec := { name := "commentAdds", fn := fun _ => fun
  | [d1, d2] => { results := [.lit (.bool false)], args := [d1, d2] }
  | _ => none }
def CommentAddsWrongFalsely : Prop := commentAddsRow.holds Tryz.pinned (OpenSpec.ofChange commentAddsWrong)

/-- 'captionerlaw47.RetimeDocuments': WHATEVER THE INPUT: true; the input reads as it did. -/
def retimeDocumentsSpec : ChangeSpec := { name := "retimeDocuments", fn := fun _ => fun
  | [d1, d2, d3] => { results := [.lit (.bool true)], args := [d1, d2, d3] }
  | _ => none }
def retimeDocumentsRow : OpenClaim := { program := "ytagfedbdakmlgaagreatdoor", sum := "bf8be2c8c4a9db54554a50df864fc6b05089545bf76dc121d4bf40324bfabd72", func := "captioner/captionerlaw47.RetimeDocuments", spec := "retimeDocuments", inPlace := ["internal/abi.NoEscape", "internal/bytealg.IndexByteString", "internal/bytealg.IndexString"], unfollowed := true, recurses := true, named := ["unicode/utf8.first", "unicode/utf8.acceptRanges", "internal/bytealg.MaxLen"], apart := false, laid := [("unicode/utf8.acceptRanges", laid_unicode_utf8_acceptRanges), ("unicode/utf8.first", laid_unicode_utf8_first)] }
def RetimeDocumentsSaid : Prop := retimeDocumentsRow.holds Tryz.pinned (OpenSpec.ofChange retimeDocumentsSpec)

/-- ITS FALSE NEIGHBOUR: 'it returns false'. Refute it at one input. -/
def retimeDocumentsWrong : ChangeSpec := { name := "retimeDocuments", fn := fun _ => fun
  | [d1, d2, d3] => { results := [.lit (.bool false)], args := [d1, d2, d3] }
  | _ => none }
def RetimeDocumentsWrongFalsely : Prop := retimeDocumentsRow.holds Tryz.pinned (OpenSpec.ofChange retimeDocumentsWrong)

/-- 'captionerlaw14.CommentCloses': WHATEVER THE INPUT: true; the input reads as it did. -/
def commentClosesSpec : ChangeSpec := { name := "commentCloses", fn := fun _ => fun
  | [d1, d2] => { results := [.lit (.bool true)], args := [d1, d2] }
  | _ => none }
def commentClosesRow : OpenClaim := { program := "ytagfedbdakmlgaagreatdoor", sum := "bf8be2c8c4a9db54554a50df864fc6b05089545bf76dc121d4bf40324bfabd72", func := "captioner/captionerlaw14.CommentCloses", spec := "commentCloses", inPlace := ["internal/abi.NoEscape", "internal/bytealg.IndexByteString", "internal/bytealg.IndexString", "internal/bytealg.MakeNoZero"], unfollowed := true, recurses := true, named := ["unicode/utf8.first", "unicode/utf8.acceptRanges", "internal/bytealg.MaxLen"], apart := false, laid := [("unicode/utf8.acceptRanges", laid_unicode_utf8_acceptRanges), ("unicode/utf8.first", laid_unicode_utf8_first)] }
def CommentClosesSaid : Prop := commentClosesRow.holds Tryz.pinned (OpenSpec.ofChange commentClosesSpec)

/-- ITS FALSE NEIGHBOUR: 'it returns false'. Refute it at one input. -/
def commentClosesWrong : ChangeSpec := { name := "commentCloses", fn := fun _ => fun
  | [d1, d2] => { results := [.lit (.bool false)], args := [d1, d2] }
  | _ => none }
def CommentClosesWrongFalsely : Prop := commentClosesRow.holds Tryz.pinned (OpenSpec.ofChange commentClosesWrong)

/-- 'captionerlaw12.DocumentMoves': WHATEVER THE INPUT: true; the input reads as it did. -/
def documentMovesSpec : ChangeSpec := { name := "documentMoves", fn := fun _ => fun
  | [d1, d2, d3] => { results := [.lit (.bool true)], args := [d1, d2, d3] }
  | _ => none }
def documentMovesRow : OpenClaim := { program := "ytagfedbdakmlgaagreatdoor", sum := "bf8be2c8c4a9db54554a50df864fc6b05089545bf76dc121d4bf40324bfabd72", func := "captioner/captionerlaw12.DocumentMoves", spec := "documentMoves", inPlace := ["internal/abi.NoEscape", "internal/bytealg.IndexByteString", "internal/bytealg.IndexString"], unfollowed := true, recurses := true, named := ["unicode/utf8.first", "unicode/utf8.acceptRanges", "internal/bytealg.MaxLen"], apart := false, laid := [("unicode/utf8.acceptRanges", laid_unicode_utf8_acceptRanges), ("unicode/utf8.first", laid_unicode_utf8_first)] }
def DocumentMovesSaid : Prop := documentMovesRow.holds Tryz.pinned (OpenSpec.ofChange documentMovesSpec)

/-- ITS FALSE NEIGHBOUR: 'it returns false'. Refute it at one input. -/
def documentMovesWrong : ChangeSpec := { name := "documentMoves", fn := fun _ => fun
  | [d1, d2, d3] => { results := [.lit (.bool false)], args := [d1, d2, d3] }
  | _ => none }
def DocumentMovesWrongFalsely : Prop := documentMovesRow.holds Tryz.pinned (OpenSpec.ofChange documentMovesWrong)

/-- 'captionerlaw12.DocumentChecks': WHATEVER THE INPUT: true; the input reads as it did. -/
def documentChecksSpec : ChangeSpec := { name := "documentChecks", fn := fun _ => fun
  | [d1, d2, d3] => { results := [.lit (.bool true)], args := [d1, d2, d3] }
  | _ => none }
def documentChecksRow : OpenClaim := { program := "ytagfedbdakmlgaagreatdoor", sum := "bf8be2c8c4a9db54554a50df864fc6b05089545bf76dc121d4bf40324bfabd72", func := "captioner/captionerlaw12.DocumentChecks", spec := "documentChecks", inPlace := ["internal/abi.NoEscape", "internal/bytealg.IndexByteString", "internal/bytealg.IndexString"], unfollowed := true, recurses := true, named := ["unicode/utf8.first", "unicode/utf8.acceptRanges", "internal/bytealg.MaxLen"], apart := false, laid := [("unicode/utf8.acceptRanges", laid_unicode_utf8_acceptRanges), ("unicode/utf8.first", laid_unicode_utf8_first)] }
def DocumentChecksSaid : Prop := documentChecksRow.holds Tryz.pinned (OpenSpec.ofChange documentChecksSpec)

/-- ITS FALSE NEIGHBOUR: 'it returns false'. Refute it at one input. -/
def documentChecksWrong : ChangeSpec := { name := "documentChecks", fn := fun _ => fun
  | [d1, d2, d3] => { results := [.lit (.bool false)], args := [d1, d2, d3] }
  | _ => none }
def DocumentChecksWrongFalsely : Prop := documentChecksRow.holds Tryz.pinned (OpenSpec.ofChange documentChecksWrong)

/-- 'captionerlaw12.DocumentInserts': WHATEVER THE INPUT: true; the input reads as it did. -/
def documentInsertsSpec : ChangeSpec := { name := "documentInserts", fn := fun _ => fun
  | [d1, d2] => { results := [.lit (.bool true)], args := [d1, d2] }
  | _ => none }
def documentInsertsRow : OpenClaim := { program := "ytagfedbdakmlgaagreatdoor", sum := "bf8be2c8c4a9db54554a50df864fc6b05089545bf76dc121d4bf40324bfabd72", func := "captioner/captionerlaw12.DocumentInserts", spec := "documentInserts", inPlace := ["internal/abi.NoEscape", "internal/bytealg.IndexByteString", "internal/bytealg.IndexString", "internal/bytealg.MakeNoZero"], unfollowed := true, recurses := true, named := ["unicode/utf8.first", "unicode/utf8.acceptRanges", "internal/bytealg.MaxLen"], apart := false, laid := [("unicode/utf8.acceptRanges", laid_unicode_utf8_acceptRanges), ("unicode/utf8.first", laid_unicode_utf8_first)] }
def DocumentInsertsSaid : Prop := documentInsertsRow.holds Tryz.pinned (OpenSpec.ofChange documentInsertsSpec)

/-- ITS FALSE NEIGHBOUR: 'it returns false'. Refute it at one input. -/
def documentInsertsWrong : ChangeSpec := { name := "documentInserts", fn := fun _ => fun
  | [d1, d2] => { results := [.lit (.bool false)], args := [d1, d2] }
  | _ => none }
def DocumentInsertsWrongFalsely : Prop := documentInsertsRow.holds Tryz.pinned (OpenSpec.ofChange documentInsertsWrong)

/-- 'captionerlaw14.CommentLists': WHATEVER THE INPUT: true; the input reads as it did. -/
def commentListsSpec : ChangeSpec := { name := "commentLists", fn := fun _ => fun
  | [d] => { results := [.lit (.bool true)], args := [d] }
  | _ => none }
def commentListsRow : OpenClaim := { program := "ytagfedbdakmlgaagreatdoor", sum := "bf8be2c8c4a9db54554a50df864fc6b05089545bf76dc121d4bf40324bfabd72", func := "captioner/captionerlaw14.CommentLists", spec := "commentLists", inPlace := ["internal/abi.NoEscape", "internal/bytealg.IndexByteString", "internal/bytealg.IndexString", "internal/bytealg.MakeNoZero"], unfollowed := true, recurses := true, named := ["unicode/utf8.first", "unicode/utf8.acceptRanges", "internal/bytealg.MaxLen"], apart := false, laid := [("unicode/utf8.acceptRanges", laid_unicode_utf8_acceptRanges), ("unicode/utf8.first", laid_unicode_utf8_first)] }
def CommentListsSaid : Prop := commentListsRow.holds Tryz.pinned (OpenSpec.ofChange commentListsSpec)

/-- ITS FALSE NEIGHBOUR: 'it returns false'. Refute it at one input. -/
def commentListsWrong : ChangeSpec := { name := "commentLists", fn := fun _ => fun
  | [d] => { results := [.lit (.bool false)], args := [d] }
  | _ => none }
def CommentListsWrongFalsely : Prop := commentListsRow.holds Tryz.pinned (OpenSpec.ofChange commentListsWrong)

/-- 'captionerlaw14.CommentStays': WHATEVER THE INPUT: true; the input reads as it did. -/
def commentStaysSpec : ChangeSpec := { name := "commentStays", fn := fun _ => fun
  | [d1, d2, d3] => { results := [.lit (.bool true)], args := [d1, d2, d3] }
  | _ => none }
def commentStaysRow : OpenClaim := { program := "ytagfedbdakmlgaagreatdoor", sum := "bf8be2c8c4a9db54554a50df864fc6b05089545bf76dc121d4bf40324bfabd72", func := "captioner/captionerlaw14.CommentStays", spec := "commentStays", inPlace := ["internal/abi.NoEscape", "internal/bytealg.IndexByteString", "internal/bytealg.IndexString", "internal/bytealg.MakeNoZero"], unfollowed := true, recurses := true, named := ["unicode/utf8.first", "unicode/utf8.acceptRanges", "internal/bytealg.MaxLen"], apart := false, laid := [("unicode/utf8.acceptRanges", laid_unicode_utf8_acceptRanges), ("unicode/utf8.first", laid_unicode_utf8_first)] }
def CommentStaysSaid : Prop := commentStaysRow.holds Tryz.pinned (OpenSpec.ofChange commentStaysSpec)

/-- ITS FALSE NEIGHBOUR: 'it returns false'. Refute it at one input. -/
def commentStaysWrong : ChangeSpec := { name := "commentStays", fn := fun _ => fun
  | [d1, d2, d3] => { results := [.lit (.bool false)], args := [d1, d2, d3] }
  | _ => none }
def CommentStaysWrongFalsely : Prop := commentStaysRow.holds Tryz.pinned (OpenSpec.ofChange commentStaysWrong)

/- THE SECOND FORM. 'bulk': how many values and letters a reading holds, each counted each time it is reached (what is shared counts as often as it is met; a slice's spare places count too). A statement '..UptoSaid' is the law's where the arguments, and the package variables that the reading takes, are together of bulk at most 1048576: NARROWER than '..Said'. Prove '..Said' where nothing that the law and all that it calls make is longer than what came in: it says more and counts as full. Else prove '..UptoSaid'. A law counts once. -/
mutual
def uptoBulk {H : Type} : DataW H → Nat
  | .lit (.string bytes) => bytes.length + 1
  | .lit _ => 1
  | .nil => 1
  | .ptr d => uptoBulk d + 1
  | .slice elems spare => uptoBulkAll elems + uptoBulkAll spare + 1
  | .agg parts => uptoBulkAll parts + 1
  | .iface _ d => uptoBulk d + 1
  | .map entries => uptoBulkEntries entries + 1
  | .held _ => 1
def uptoBulkAll {H : Type} : List (DataW H) → Nat
  | [] => 0
  | d :: r => uptoBulk d + uptoBulkAll r
def uptoBulkEntries {H : Type} : List (Lit × DataW H) → Nat
  | [] => 0
  | x :: r => uptoBulkEntry x + uptoBulkEntries r
def uptoBulkEntry {H : Type} : Lit × DataW H → Nat
  | (.string bytes, d) => bytes.length + uptoBulk d + 1
  | (_, d) => uptoBulk d + 1
 end
def uptoSmall : (H : Type) → List (DataW H) → Bool := fun _ ds => decide (uptoBulkAll ds ≤ 1048576)
def OpenSpec.upto (s : _root_.Go.ChangeSpec) : _root_.Go.OpenSpec := { _root_.Go.OpenSpec.ofChange s with cond := some uptoSmall }

/-- 'captionerlaw14.CommentAdds', WHERE WHAT IT READS IS OF BULK AT MOST 1048576: true; the input reads as it did. -/
def commentAddsUptoRow : OpenClaim := { program := "ytagfedbdakmlgaagreatdoor", sum := "bf8be2c8c4a9db54554a50df864fc6b05089545bf76dc121d4bf40324bfabd72", func := "captioner/captionerlaw14.CommentAdds", spec := "commentAdds", inPlace := ["internal/abi.NoEscape", "internal/bytealg.IndexByteString", "internal/bytealg.IndexString", "internal/bytealg.MakeNoZero"], unfollowed := true, recurses := true, named := ["unicode/utf8.first", "unicode/utf8.acceptRanges", "internal/bytealg.MaxLen"], apart := false, laid := [("unicode/utf8.acceptRanges", laid_unicode_utf8_acceptRanges), ("unicode/utf8.first", laid_unicode_utf8_first)], narrowed := true }
def CommentAddsUptoSaid : Prop := commentAddsUptoRow.holds Tryz.pinned (OpenSpec.upto commentAddsSpec)

/-- 'captionerlaw47.RetimeDocuments', WHERE WHAT IT READS IS OF BULK AT MOST 1048576: true; the input reads as it did. -/
def retimeDocumentsUptoRow : OpenClaim := { program := "ytagfedbdakmlgaagreatdoor", sum := "bf8be2c8c4a9db54554a50df864fc6b05089545bf76dc121d4bf40324bfabd72", func := "captioner/captionerlaw47.RetimeDocuments", spec := "retimeDocuments", inPlace := ["internal/abi.NoEscape", "internal/bytealg.IndexByteString", "internal/bytealg.IndexString"], unfollowed := true, recurses := true, named := ["unicode/utf8.first", "unicode/utf8.acceptRanges", "internal/bytealg.MaxLen"], apart := false, laid := [("unicode/utf8.acceptRanges", laid_unicode_utf8_acceptRanges), ("unicode/utf8.first", laid_unicode_utf8_first)], narrowed := true }
def RetimeDocumentsUptoSaid : Prop := retimeDocumentsUptoRow.holds Tryz.pinned (OpenSpec.upto retimeDocumentsSpec)

/-- 'captionerlaw14.CommentCloses', WHERE WHAT IT READS IS OF BULK AT MOST 1048576: true; the input reads as it did. -/
def commentClosesUptoRow : OpenClaim := { program := "ytagfedbdakmlgaagreatdoor", sum := "bf8be2c8c4a9db54554a50df864fc6b05089545bf76dc121d4bf40324bfabd72", func := "captioner/captionerlaw14.CommentCloses", spec := "commentCloses", inPlace := ["internal/abi.NoEscape", "internal/bytealg.IndexByteString", "internal/bytealg.IndexString", "internal/bytealg.MakeNoZero"], unfollowed := true, recurses := true, named := ["unicode/utf8.first", "unicode/utf8.acceptRanges", "internal/bytealg.MaxLen"], apart := false, laid := [("unicode/utf8.acceptRanges", laid_unicode_utf8_acceptRanges), ("unicode/utf8.first", laid_unicode_utf8_first)], narrowed := true }
def CommentClosesUptoSaid : Prop := commentClosesUptoRow.holds Tryz.pinned (OpenSpec.upto commentClosesSpec)

/-- 'captionerlaw12.DocumentMoves', WHERE WHAT IT READS IS OF BULK AT MOST 1048576: true; the input reads as it did. -/
def documentMovesUptoRow : OpenClaim := { program := "ytagfedbdakmlgaagreatdoor", sum := "bf8be2c8c4a9db54554a50df864fc6b05089545bf76dc121d4bf40324bfabd72", func := "captioner/captionerlaw12.DocumentMoves", spec := "documentMoves", inPlace := ["internal/abi.NoEscape", "internal/bytealg.IndexByteString", "internal/bytealg.IndexString"], unfollowed := true, recurses := true, named := ["unicode/utf8.first", "unicode/utf8.acceptRanges", "internal/bytealg.MaxLen"], apart := false, laid := [("unicode/utf8.acceptRanges", laid_unicode_utf8_acceptRanges), ("unicode/utf8.first", laid_unicode_utf8_first)], narrowed := true }
def DocumentMovesUptoSaid : Prop := documentMovesUptoRow.holds Tryz.pinned (OpenSpec.upto documentMovesSpec)

/-- 'captionerlaw12.DocumentChecks', WHERE WHAT IT READS IS OF BULK AT MOST 1048576: true; the input reads as it did. -/
def documentChecksUptoRow : OpenClaim := { program := "ytagfedbdakmlgaagreatdoor", sum := "bf8be2c8c4a9db54554a50df864fc6b05089545bf76dc121d4bf40324bfabd72", func := "captioner/captionerlaw12.DocumentChecks", spec := "documentChecks", inPlace := ["internal/abi.NoEscape", "internal/bytealg.IndexByteString", "internal/bytealg.IndexString"], unfollowed := true, recurses := true, named := ["unicode/utf8.first", "unicode/utf8.acceptRanges", "internal/bytealg.MaxLen"], apart := false, laid := [("unicode/utf8.acceptRanges", laid_unicode_utf8_acceptRanges), ("unicode/utf8.first", laid_unicode_utf8_first)], narrowed := true }
def DocumentChecksUptoSaid : Prop := documentChecksUptoRow.holds Tryz.pinned (OpenSpec.upto documentChecksSpec)

/-- 'captionerlaw12.DocumentInserts', WHERE WHAT IT READS IS OF BULK AT MOST 1048576: true; the input reads as it did. -/
def documentInsertsUptoRow : OpenClaim := { program := "ytagfedbdakmlgaagreatdoor", sum := "bf8be2c8c4a9db54554a50df864fc6b05089545bf76dc121d4bf40324bfabd72", func := "captioner/captionerlaw12.DocumentInserts", spec := "documentInserts", inPlace := ["internal/abi.NoEscape", "internal/bytealg.IndexByteString", "internal/bytealg.IndexString", "internal/bytealg.MakeNoZero"], unfollowed := true, recurses := true, named := ["unicode/utf8.first", "unicode/utf8.acceptRanges", "internal/bytealg.MaxLen"], apart := false, laid := [("unicode/utf8.acceptRanges", laid_unicode_utf8_acceptRanges), ("unicode/utf8.first", laid_unicode_utf8_first)], narrowed := true }
def DocumentInsertsUptoSaid : Prop := documentInsertsUptoRow.holds Tryz.pinned (OpenSpec.upto documentInsertsSpec)

/-- 'captionerlaw14.CommentLists', WHERE WHAT IT READS IS OF BULK AT MOST 1048576: true; the input reads as it did. -/
def commentListsUptoRow : OpenClaim := { program := "ytagfedbdakmlgaagreatdoor", sum := "bf8be2c8c4a9db54554a50df864fc6b05089545bf76dc121d4bf40324bfabd72", func := "captioner/captionerlaw14.CommentLists", spec := "commentLists", inPlace := ["internal/abi.NoEscape", "internal/bytealg.IndexByteString", "internal/bytealg.IndexString", "internal/bytealg.MakeNoZero"], unfollowed := true, recurses := true, named := ["unicode/utf8.first", "unicode/utf8.acceptRanges", "internal/bytealg.MaxLen"], apart := false, laid := [("unicode/utf8.acceptRanges", laid_unicode_utf8_acceptRanges), ("unicode/utf8.first", laid_unicode_utf8_first)], narrowed := true }
def CommentListsUptoSaid : Prop := commentListsUptoRow.holds Tryz.pinned (OpenSpec.upto commentListsSpec)

/-- 'captionerlaw14.CommentStays', WHERE WHAT IT READS IS OF BULK AT MOST 1048576: true; the input reads as it did. -/
def commentStaysUptoRow : OpenClaim := { program := "ytagfedbdakmlgaagreatdoor", sum := "bf8be2c8c4a9db54554a50df864fc6b05089545bf76dc121d4bf40324bfabd72", func := "captioner/captionerlaw14.CommentStays", spec := "commentStays", inPlace := ["internal/abi.NoEscape", "internal/bytealg.IndexByteString", "internal/bytealg.IndexString", "internal/bytealg.MakeNoZero"], unfollowed := true, recurses := true, named := ["unicode/utf8.first", "unicode/utf8.acceptRanges", "internal/bytealg.MaxLen"], apart := false, laid := [("unicode/utf8.acceptRanges", laid_unicode_utf8_acceptRanges), ("unicode/utf8.first", laid_unicode_utf8_first)], narrowed := true }
def CommentStaysUptoSaid : Prop := commentStaysUptoRow.holds Tryz.pinned (OpenSpec.upto commentStaysSpec)

end Rows
end Go.Proofs.YtagfedbdakmlgaaGreatDoor

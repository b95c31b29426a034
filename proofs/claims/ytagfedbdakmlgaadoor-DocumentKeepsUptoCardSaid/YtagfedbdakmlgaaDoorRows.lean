/-
  NARROWER THAN 'FOR EVERY INPUT', by the rows' own cells (each row's printed sentence says how): CommentMoves: laid · DocumentFollows: laid · DocumentKeeps: laid · DocumentValid: laid.
  DERIVED. THE GIVEN ROWS OF THIS SEAT. 4 by the template 'for every input the law returns true; each argument reads behind the call as it read before'; 0 by the template 'total and deterministic' (their statements: YtagfedbdakmlgaaDoorTotals.lean).
  GIVEN WITH THE SEED: the statements are not yours to turn. If you find one false, say at which input.
  Laid BY PROGRAM, IN A SANDBOX (cutbox-rows.mjs): the forced cells as the released guide's own fill.sh prints them over the translation 7bc7e6967a79569c… (all of the seat's roots in one cut). By AI agents, Wed Nov 11 2026. No macro, syntax, notation, axiom, sorry.
-/
import Derived.Test.YtagfedbdakmlgaaDoorChecked
import GoSem.PinnedTables
import GoSem.Claim
import GoSem.ClaimJoined
import GoSem.ClaimMapViews
import Derived.JoinedTies
import Derived.KernelRfl
namespace Go.Proofs.YtagfedbdakmlgaaDoor
/- THE CELL 'sum', in the pinned program and in every row, IS THE sha256 OF THE DUMP (.gsa) THAT YtagfedbdakmlgaaDoorProg.lean LOADS. Nothing in Lean hashes anything: it is a label: what it is worth is what the hold of that sum in a sandbox is worth. -/
noncomputable def Tryd.pinned : Pinned := { name := "ytagfedbdakmlgaadoor", sum := "7bc7e6967a79569cc8d7b1911715972b663784c7f2fb4eac1f4d7605cb5b6868", checked := Tryd.checked }
namespace Rows
def none {H : Type} : Left H := { results := [], args := [] }

/- WHAT THE LISTED PACKAGE-LEVEL VARIABLES READ AS WHEN THE CALL BEGINS. Each datum BY PROGRAM (the guide's laid-datum.mjs) off the statement by which the dump's own 'gosem.cut.vars' lays the variable. In a bare row this is a premise. The card (YtagfedbdakmlgaaDoorCards.lean) ties it to the program's text. -/
def laid_unicode_utf8_acceptRanges {H : Type} : DataW H := .agg [.agg [.lit (.int .u8 128), .lit (.int .u8 191)], .agg [.lit (.int .u8 160), .lit (.int .u8 191)], .agg [.lit (.int .u8 128), .lit (.int .u8 159)], .agg [.lit (.int .u8 144), .lit (.int .u8 191)], .agg [.lit (.int .u8 128), .lit (.int .u8 143)], .agg [.lit (.int .u8 0), .lit (.int .u8 0)], .agg [.lit (.int .u8 0), .lit (.int .u8 0)], .agg [.lit (.int .u8 0), .lit (.int .u8 0)], .agg [.lit (.int .u8 0), .lit (.int .u8 0)], .agg [.lit (.int .u8 0), .lit (.int .u8 0)], .agg [.lit (.int .u8 0), .lit (.int .u8 0)], .agg [.lit (.int .u8 0), .lit (.int .u8 0)], .agg [.lit (.int .u8 0), .lit (.int .u8 0)], .agg [.lit (.int .u8 0), .lit (.int .u8 0)], .agg [.lit (.int .u8 0), .lit (.int .u8 0)], .agg [.lit (.int .u8 0), .lit (.int .u8 0)]]
/-- One of Go's own tables, pinned by name: the form's constant. -/
def laid_unicode_utf8_first : DataW Unit := Go.Pinned.utf8First

/-- 'captionerlaw14.CommentMoves': WHATEVER THE INPUT: true; the input reads as it did. -/
def commentMovesSpec : ChangeSpec := { name := "commentMoves", fn := fun _ => fun
  | [d1, d2, d3] => { results := [.lit (.bool true)], args := [d1, d2, d3] }
  | _ => none }
def commentMovesRow : OpenClaim := { program := "ytagfedbdakmlgaadoor", sum := "7bc7e6967a79569cc8d7b1911715972b663784c7f2fb4eac1f4d7605cb5b6868", func := "captioner/captionerlaw14.CommentMoves", spec := "commentMoves", inPlace := ["internal/abi.NoEscape", "internal/bytealg.IndexByteString", "internal/bytealg.IndexString", "internal/bytealg.MakeNoZero"], unfollowed := true, recurses := true, named := ["unicode/utf8.first", "unicode/utf8.acceptRanges", "internal/bytealg.MaxLen"], apart := false, laid := [("unicode/utf8.acceptRanges", laid_unicode_utf8_acceptRanges), ("unicode/utf8.first", laid_unicode_utf8_first)] }
def CommentMovesSaid : Prop := commentMovesRow.holds Tryd.pinned (OpenSpec.ofChange commentMovesSpec)

/-- ITS FALSE NEIGHBOUR: 'it returns false'. Refute it at one input. -/
def commentMovesWrong : ChangeSpec := { name := "commentMoves", fn := fun _ => fun
  | [d1, d2, d3] => { results := [.lit (.bool false)], args := [d1, d2, d3] }
  | _ => none }
def CommentMovesWrongFalsely : Prop := commentMovesRow.holds Tryd.pinned (OpenSpec.ofChange commentMovesWrong)

/-- 'captionerlaw12.DocumentFollows': WHATEVER THE INPUT: true; the input reads as it did. -/
def documentFollowsSpec : ChangeSpec := { name := "documentFollows", fn := fun _ => fun
  | [d1, d2] => { results := [.lit (.bool true)], args := [d1, d2] }
  | _ => none }
def documentFollowsRow : OpenClaim := { program := "ytagfedbdakmlgaadoor", sum := "7bc7e6967a79569cc8d7b1911715972b663784c7f2fb4eac1f4d7605cb5b6868", func := "captioner/captionerlaw12.DocumentFollows", spec := "documentFollows", inPlace := ["internal/abi.NoEscape", "internal/bytealg.IndexByteString", "internal/bytealg.IndexString"], unfollowed := true, recurses := true, named := ["unicode/utf8.first", "unicode/utf8.acceptRanges", "internal/bytealg.MaxLen"], apart := false, laid := [("unicode/utf8.acceptRanges", laid_unicode_utf8_acceptRanges), ("unicode/utf8.first", laid_unicode_utf8_first)] }
def DocumentFollowsSaid : Prop := documentFollowsRow.holds Tryd.pinned (OpenSpec.ofChange documentFollowsSpec)

/-- ITS FALSE NEIGHBOUR: 'it returns false'. Refute it at one input. -/
def documentFollowsWrong : ChangeSpec := { name := "documentFollows", fn := fun _ => fun
  | [d1, d2] => { results := [.lit (.bool false)], args := [d1, d2] }
  | _ => none }
def DocumentFollowsWrongFalsely : Prop := documentFollowsRow.holds Tryd.pinned (OpenSpec.ofChange documentFollowsWrong)

/-- 'captionerlaw12.DocumentKeeps': WHATEVER THE INPUT: true; the input reads as it did. -/
def documentKeepsSpec : ChangeSpec := { name := "documentKeeps", fn := fun _ => fun
  | [d1, d2] => { results := [.lit (.bool true)], args := [d1, d2] }
  | _ => none }
def documentKeepsRow : OpenClaim := { program := "ytagfedbdakmlgaadoor", sum := "7bc7e6967a79569cc8d7b1911715972b663784c7f2fb4eac1f4d7605cb5b6868", func := "captioner/captionerlaw12.DocumentKeeps", spec := "documentKeeps", inPlace := ["internal/abi.NoEscape", "internal/bytealg.IndexByteString", "internal/bytealg.IndexString", "internal/bytealg.MakeNoZero"], unfollowed := true, recurses := true, named := ["unicode/utf8.first", "unicode/utf8.acceptRanges", "internal/bytealg.MaxLen"], apart := false, laid := [("unicode/utf8.acceptRanges", laid_unicode_utf8_acceptRanges), ("unicode/utf8.first", laid_unicode_utf8_first)] }
def DocumentKeepsSaid : Prop := documentKeepsRow.holds Tryd.pinned (OpenSpec.ofChange documentKeepsSpec)

/-- ITS FALSE NEIGHBOUR: 'it returns false'. Refute it at one input. -/
def documentKeepsWrong : ChangeSpec := { name := "documentKeeps", fn := fun _ => fun
  | [d1, d2] => { results := [.lit (.bool false)], args := [d1, d2] }
  | _ => none }
def DocumentKeepsWrongFalsely : Prop := documentKeepsRow.holds Tryd.pinned (OpenSpec.ofChange documentKeepsWrong)

/-- 'captionerlaw12.DocumentValid': WHATEVER THE INPUT: true; the input reads as it did. -/
def documentValidSpec : ChangeSpec := { name := "documentValid", fn := fun _ => fun
  | [d1, d2, d3] => { results := [.lit (.bool true)], args := [d1, d2, d3] }
  | _ => none }
def documentValidRow : OpenClaim := { program := "ytagfedbdakmlgaadoor", sum := "7bc7e6967a79569cc8d7b1911715972b663784c7f2fb4eac1f4d7605cb5b6868", func := "captioner/captionerlaw12.DocumentValid", spec := "documentValid", inPlace := ["internal/abi.NoEscape", "internal/bytealg.IndexByteString", "internal/bytealg.IndexString", "internal/bytealg.MakeNoZero"], unfollowed := true, recurses := true, named := ["unicode/utf8.first", "unicode/utf8.acceptRanges", "internal/bytealg.MaxLen"], apart := false, laid := [("unicode/utf8.acceptRanges", laid_unicode_utf8_acceptRanges), ("unicode/utf8.first", laid_unicode_utf8_first)] }
def DocumentValidSaid : Prop := documentValidRow.holds Tryd.pinned (OpenSpec.ofChange documentValidSpec)

/-- ITS FALSE NEIGHBOUR: 'it returns false'. Refute it at one input. -/
def documentValidWrong : ChangeSpec := { name := "documentValid", fn := fun _ => fun
  | [d1, d2, d3] => { results := [.lit (.bool false)], args := [d1, d2, d3] }
  | _ => none }
def DocumentValidWrongFalsely : Prop := documentValidRow.holds Tryd.pinned (OpenSpec.ofChange documentValidWrong)

/- THE SECOND FORM. 'bulk': how many values and letters a reading holds, each counted each time it is reached (what is shared counts as often as it is met; a slice's spare places count too). A statement '..UptoSaid' is the law's where the arguments, and the package variables that the reading takes, are together of bulk at most 1048576: NARROWER than '..Said'. Prove '..Said' where nothing that the law and all that it calls make is longer than what came in: it says more and counts as full. Else prove '..UptoSaid'. A law counts once. -/
mutual
def uptoBulk {H : Type} : DataW H → Nat
  | .lit (.string bytes) => bytes.length + 1
  | .lit _ => 1
  | .nil => 1
  | .ptr d => uptoBulk d + 1
  | .slice elems spare => uptoBulkAll elems + uptoBulkAll spare + 1
  | .agg parts => uptoBulkAll parts + 1
  | .iface _ d => uptoBulk d + 1
  | .map entries => uptoBulkEntries entries + 1
  | .held _ => 1
def uptoBulkAll {H : Type} : List (DataW H) → Nat
  | [] => 0
  | d :: r => uptoBulk d + uptoBulkAll r
def uptoBulkEntries {H : Type} : List (Lit × DataW H) → Nat
  | [] => 0
  | x :: r => uptoBulkEntry x + uptoBulkEntries r
def uptoBulkEntry {H : Type} : Lit × DataW H → Nat
  | (.string bytes, d) => bytes.length + uptoBulk d + 1
  | (_, d) => uptoBulk d + 1
 end
def uptoSmall : (H : Type) → List (DataW H) → Bool := fun _ ds => decide (uptoBulkAll ds ≤ 1048576)
def OpenSpec.upto (s : _root_.Go.ChangeSpec) : _root_.Go.OpenSpec := { _root_.Go.OpenSpec.ofChange s with cond := some uptoSmall }

/-- 'captionerlaw14.CommentMoves', WHERE WHAT IT READS IS OF BULK AT MOST 1048576: true; the input reads as it did. -/
def commentMovesUptoRow : OpenClaim := { program := "ytagfedbdakmlgaadoor", sum := "7bc7e6967a79569cc8d7b1911715972b663784c7f2fb4eac1f4d7605cb5b6868", func := "captioner/captionerlaw14.CommentMoves", spec := "commentMoves", inPlace := ["internal/abi.NoEscape", "internal/bytealg.IndexByteString", "internal/bytealg.IndexString", "internal/bytealg.MakeNoZero"], unfollowed := true, recurses := true, named := ["unicode/utf8.first", "unicode/utf8.acceptRanges", "internal/bytealg.MaxLen"], apart := false, laid := [("unicode/utf8.acceptRanges", laid_unicode_utf8_acceptRanges), ("unicode/utf8.first", laid_unicode_utf8_first)], narrowed := true }
def CommentMovesUptoSaid : Prop := commentMovesUptoRow.holds Tryd.pinned (OpenSpec.upto commentMovesSpec)

/-- 'captionerlaw12.DocumentFollows', WHERE WHAT IT READS IS OF BULK AT MOST 1048576: true; the input reads as it did. -/
def documentFollowsUptoRow : OpenClaim := { program := "ytagfedbdakmlgaadoor", sum := "7bc7e6967a79569cc8d7b1911715972b663784c7f2fb4eac1f4d7605cb5b6868", func := "captioner/captionerlaw12.DocumentFollows", spec := "documentFollows", inPlace := ["internal/abi.NoEscape", "internal/bytealg.IndexByteString", "internal/bytealg.IndexString"], unfollowed := true, recurses := true, named := ["unicode/utf8.first", "unicode/utf8.acceptRanges", "internal/bytealg.MaxLen"], apart := false, laid := [("unicode/utf8.acceptRanges", laid_unicode_utf8_acceptRanges), ("unicode/utf8.first", laid_unicode_utf8_first)], narrowed := true }
def DocumentFollowsUptoSaid : Prop := documentFollowsUptoRow.holds Tryd.pinned (OpenSpec.upto documentFollowsSpec)

/-- 'captionerlaw12.DocumentKeeps', WHERE WHAT IT READS IS OF BULK AT MOST 1048576: true; the input reads as it did. -/
def documentKeepsUptoRow : OpenClaim := { program := "ytagfedbdakmlgaadoor", sum := "7bc7e6967a79569cc8d7b1911715972b663784c7f2fb4eac1f4d7605cb5b6868", func := "captioner/captionerlaw12.DocumentKeeps", spec := "documentKeeps", inPlace := ["internal/abi.NoEscape", "internal/bytealg.IndexByteString", "internal/bytealg.IndexString", "internal/bytealg.MakeNoZero"], unfollowed := true, recurses := true, named := ["unicode/utf8.first", "unicode/utf8.acceptRanges", "internal/bytealg.MaxLen"], apart := false, laid := [("unicode/utf8.acceptRanges", laid_unicode_utf8_acceptRanges), ("unicode/utf8.first", laid_unicode_utf8_first)], narrowed := true }
def DocumentKeepsUptoSaid : Prop := documentKeepsUptoRow.holds Tryd.pinned (OpenSpec.upto documentKeepsSpec)

/-- 'captionerlaw12.DocumentValid', WHERE WHAT IT READS IS OF BULK AT MOST 1048576: true; the input reads as it did. -/
def documentValidUptoRow : OpenClaim := { program := "ytagfedbdakmlgaadoor", sum := "7bc7e6967a79569cc8d7b1911715972b663784c7f2fb4eac1f4d7605cb5b6868", func := "captioner/captionerlaw12.DocumentValid", spec := "documentValid", inPlace := ["internal/abi.NoEscape", "internal/bytealg.IndexByteString", "internal/bytealg.IndexString", "internal/bytealg.MakeNoZero"], unfollowed := true, recurses := true, named := ["unicode/utf8.first", "unicode/utf8.acceptRanges", "internal/bytealg.MaxLen"], apart := false, laid := [("unicode/utf8.acceptRanges", laid_unicode_utf8_acceptRanges), ("unicode/utf8.first", laid_unicode_utf8_first)], narrowed := true }
def DocumentValidUptoSaid : Prop := documentValidUptoRow.holds Tryd.pinned (OpenSpec.upto documentValidSpec)

end Rows
end Go.Proofs.YtagfedbdakmlgaaDoor

/-
  NARROWER THAN 'FOR EVERY INPUT', by the rows' own cells (each row's printed sentence says how): EventSplits: laid · EventOrders: laid · EventKeeps: laid · EventJoins: laid · EventReturns: laid.
  DERIVED. THE GIVEN ROWS OF THIS SEAT. 5 by the template 'for every input the law returns true; each argument reads behind the call as it read before'; 0 by the template 'total and deterministic' (their statements: YtcgflkmkdpgchaaDoorTotals.lean).
  GIVEN WITH THE SEED: the statements are not yours to turn. If you find one false, say at which input.
  Laid BY PROGRAM, IN A SANDBOX (cutbox-rows.mjs): the forced cells as the released guide's own fill.sh prints them over the translation 684e8d8cd3fca951… (all of the seat's roots in one cut). By AI agents, Wed Nov 11 2026. No macro, syntax, notation, axiom, sorry.
-/
import Derived.Test.YtcgflkmkdpgchaaDoorChecked
import GoSem.PinnedTables
import GoSem.Claim
import GoSem.ClaimJoined
import GoSem.ClaimMapViews
import Derived.JoinedTies
import Derived.KernelRfl
namespace Go.Proofs.YtcgflkmkdpgchaaDoor
/- THE CELL 'sum', in the pinned program and in every row, IS THE sha256 OF THE DUMP (.gsa) THAT YtcgflkmkdpgchaaDoorProg.lean LOADS. Nothing in Lean hashes anything: it is a label: what it is worth is what the hold of that sum in a sandbox is worth. -/
noncomputable def Tryd.pinned : Pinned := { name := "ytcgflkmkdpgchaadoor", sum := "684e8d8cd3fca951352fcd13f379dd27f2b4193ec44e16dc9c5304719156450c", checked := Tryd.checked }
namespace Rows
def none {H : Type} : Left H := { results := [], args := [] }

/- WHAT THE LISTED PACKAGE-LEVEL VARIABLES READ AS WHEN THE CALL BEGINS. Each datum BY PROGRAM (the guide's laid-datum.mjs) off the statement by which the dump's own 'gosem.cut.vars' lays the variable. In a bare row this is a premise. The card (YtcgflkmkdpgchaaDoorCards.lean) ties it to the program's text. -/
def laid_unicode_utf8_acceptRanges {H : Type} : DataW H := .agg [.agg [.lit (.int .u8 128), .lit (.int .u8 191)], .agg [.lit (.int .u8 160), .lit (.int .u8 191)], .agg [.lit (.int .u8 128), .lit (.int .u8 159)], .agg [.lit (.int .u8 144), .lit (.int .u8 191)], .agg [.lit (.int .u8 128), .lit (.int .u8 143)], .agg [.lit (.int .u8 0), .lit (.int .u8 0)], .agg [.lit (.int .u8 0), .lit (.int .u8 0)], .agg [.lit (.int .u8 0), .lit (.int .u8 0)], .agg [.lit (.int .u8 0), .lit (.int .u8 0)], .agg [.lit (.int .u8 0), .lit (.int .u8 0)], .agg [.lit (.int .u8 0), .lit (.int .u8 0)], .agg [.lit (.int .u8 0), .lit (.int .u8 0)], .agg [.lit (.int .u8 0), .lit (.int .u8 0)], .agg [.lit (.int .u8 0), .lit (.int .u8 0)], .agg [.lit (.int .u8 0), .lit (.int .u8 0)], .agg [.lit (.int .u8 0), .lit (.int .u8 0)]]
/-- One of Go's own tables, pinned by name: the form's constant. -/
def laid_unicode_utf8_first : DataW Unit := Go.Pinned.utf8First

/-- 'captionerlaw11.EventSplits': WHATEVER THE INPUT: true; the input reads as it did. -/
def eventSplitsSpec : ChangeSpec := { name := "eventSplits", fn := fun _ => fun
  | [d1, d2] => { results := [.lit (.bool true)], args := [d1, d2] }
  | _ => none }
def eventSplitsRow : OpenClaim := { program := "ytcgflkmkdpgchaadoor", sum := "684e8d8cd3fca951352fcd13f379dd27f2b4193ec44e16dc9c5304719156450c", func := "captioner/captionerlaw11.EventSplits", spec := "eventSplits", inPlace := ["internal/abi.NoEscape", "internal/bytealg.IndexByteString", "internal/bytealg.IndexString", "internal/bytealg.MakeNoZero"], named := ["unicode/utf8.first", "unicode/utf8.acceptRanges", "internal/bytealg.MaxLen"], apart := false, laid := [("unicode/utf8.acceptRanges", laid_unicode_utf8_acceptRanges), ("unicode/utf8.first", laid_unicode_utf8_first)] }
def EventSplitsSaid : Prop := eventSplitsRow.holds Tryd.pinned (OpenSpec.ofChange eventSplitsSpec)

/-- ITS FALSE NEIGHBOUR: 'it returns false'. Refute it at one input. -/
def eventSplitsWrong : ChangeSpec := { name := "eventSplits", fn := fun _ => fun
  | [d1, d2] => { results := [.lit (.bool false)], args := [d1, d2] }
  | _ => none }
def EventSplitsWrongFalsely : Prop := eventSplitsRow.holds Tryd.pinned (OpenSpec.ofChange eventSplitsWrong)

/-- 'captionerlaw11.EventOrders': WHATEVER THE INPUT: true; the input reads as it did. -/
def eventOrdersSpec : ChangeSpec := { name := "eventOrders", fn := fun _ => fun
  | [d1, d2, d3] => { results := [.lit (.bool true)], args := [d1, d2, d3] }
  | _ => none }
def eventOrdersRow : OpenClaim := { program := "ytcgflkmkdpgchaadoor", sum := "684e8d8cd3fca951352fcd13f379dd27f2b4193ec44e16dc9c5304719156450c", func := "captioner/captionerlaw11.EventOrders", spec := "eventOrders", inPlace := ["internal/abi.NoEscape", "internal/bytealg.IndexByteString", "internal/bytealg.IndexString", "internal/bytealg.MakeNoZero"], named := ["unicode/utf8.first", "unicode/utf8.acceptRanges", "internal/bytealg.MaxLen"], apart := false, laid := [("unicode/utf8.acceptRanges", laid_unicode_utf8_acceptRanges), ("unicode/utf8.first", laid_unicode_utf8_first)] }
def EventOrdersSaid : Prop := eventOrdersRow.holds Tryd.pinned (OpenSpec.ofChange eventOrdersSpec)

/-- ITS FALSE NEIGHBOUR: 'it returns false'. Refute it at one input. -/
def eventOrdersWrong : ChangeSpec := { name := "eventOrders", fn := fun _ => fun
  | [d1, d2, d3] => { results := [.lit (.bool false)], args := [d1, d2, d3] }
  | _ => none }
def EventOrdersWrongFalsely : Prop := eventOrdersRow.holds Tryd.pinned (OpenSpec.ofChange eventOrdersWrong)

/-- 'captionerlaw11.EventKeeps': WHATEVER THE INPUT: true; the input reads as it did. -/
def eventKeepsSpec : ChangeSpec := { name := "eventKeeps", fn := fun _ => fun
  | [d1, d2, d3] => { results := [.lit (.bool true)], args := [d1, d2, d3] }
  | _ => none }
def eventKeepsRow : OpenClaim := { program := "ytcgflkmkdpgchaadoor", sum := "684e8d8cd3fca951352fcd13f379dd27f2b4193ec44e16dc9c5304719156450c", func := "captioner/captionerlaw11.EventKeeps", spec := "eventKeeps", inPlace := ["internal/abi.NoEscape", "internal/bytealg.IndexByteString", "internal/bytealg.IndexString", "internal/bytealg.MakeNoZero"], named := ["unicode/utf8.first", "unicode/utf8.acceptRanges", "internal/bytealg.MaxLen"], apart := false, laid := [("unicode/utf8.acceptRanges", laid_unicode_utf8_acceptRanges), ("unicode/utf8.first", laid_unicode_utf8_first)] }
def EventKeepsSaid : Prop := eventKeepsRow.holds Tryd.pinned (OpenSpec.ofChange eventKeepsSpec)

/-- ITS FALSE NEIGHBOUR: 'it returns false'. Refute it at one input. -/
def eventKeepsWrong : ChangeSpec := { name := "eventKeeps", fn := fun _ => fun
  | [d1, d2, d3] => { results := [.lit (.bool false)], args := [d1, d2, d3] }
  | _ => none }
def EventKeepsWrongFalsely : Prop := eventKeepsRow.holds Tryd.pinned (OpenSpec.ofChange eventKeepsWrong)

/-- 'captionerlaw11.EventJoins': WHATEVER THE INPUT: true; the input reads as it did. -/
def eventJoinsSpec : ChangeSpec := { name := "eventJoins", fn := fun _ => fun
  | [d1, d2] => { results := [.lit (.bool true)], args := [d1, d2] }
  | _ => none }
def eventJoinsRow : OpenClaim := { program := "ytcgflkmkdpgchaadoor", sum := "684e8d8cd3fca951352fcd13f379dd27f2b4193ec44e16dc9c5304719156450c", func := "captioner/captionerlaw11.EventJoins", spec := "eventJoins", inPlace := ["internal/abi.NoEscape", "internal/bytealg.IndexByteString", "internal/bytealg.IndexString", "internal/bytealg.MakeNoZero"], unfollowed := true, recurses := true, named := ["unicode/utf8.first", "unicode/utf8.acceptRanges", "internal/bytealg.MaxLen"], apart := false, laid := [("unicode/utf8.acceptRanges", laid_unicode_utf8_acceptRanges), ("unicode/utf8.first", laid_unicode_utf8_first)] }
def EventJoinsSaid : Prop := eventJoinsRow.holds Tryd.pinned (OpenSpec.ofChange eventJoinsSpec)

/-- ITS FALSE NEIGHBOUR: 'it returns false'. Refute it at one input. -/
def eventJoinsWrong : ChangeSpec := { name := "eventJoins", fn := fun _ => fun
  | [d1, d2] => { results := [.lit (.bool false)], args := [d1, d2] }
  | _ => none }
def EventJoinsWrongFalsely : Prop := eventJoinsRow.holds Tryd.pinned (OpenSpec.ofChange eventJoinsWrong)

/-- 'captionerlaw11.EventReturns': WHATEVER THE INPUT: true; the input reads as it did. -/
def eventReturnsSpec : ChangeSpec := { name := "eventReturns", fn := fun _ => fun
  | [d1, d2, d3] => { results := [.lit (.bool true)], args := [d1, d2, d3] }
  | _ => none }
def eventReturnsRow : OpenClaim := { program := "ytcgflkmkdpgchaadoor", sum := "684e8d8cd3fca951352fcd13f379dd27f2b4193ec44e16dc9c5304719156450c", func := "captioner/captionerlaw11.EventReturns", spec := "eventReturns", inPlace := ["internal/abi.NoEscape", "internal/bytealg.IndexByteString", "internal/bytealg.IndexString", "internal/bytealg.MakeNoZero"], unfollowed := true, recurses := true, named := ["unicode/utf8.first", "unicode/utf8.acceptRanges", "internal/bytealg.MaxLen"], apart := false, laid := [("unicode/utf8.acceptRanges", laid_unicode_utf8_acceptRanges), ("unicode/utf8.first", laid_unicode_utf8_first)] }
def EventReturnsSaid : Prop := eventReturnsRow.holds Tryd.pinned (OpenSpec.ofChange eventReturnsSpec)

/-- ITS FALSE NEIGHBOUR: 'it returns false'. Refute it at one input. -/
def eventReturnsWrong : ChangeSpec := { name := "eventReturns", fn := fun _ => fun
  | [d1, d2, d3] => { results := [.lit (.bool false)], args := [d1, d2, d3] }
  | _ => none }
def EventReturnsWrongFalsely : Prop := eventReturnsRow.holds Tryd.pinned (OpenSpec.ofChange eventReturnsWrong)

/- THE SECOND FORM. 'bulk': how many values and letters a reading holds, each counted each time it is reached (what is shared counts as often as it is met; a slice's spare places count too). A statement '..UptoSaid' is the law's where the arguments, and the package variables that the reading takes, are together of bulk at most 1048576: NARROWER than '..Said'. Prove '..Said' where nothing that the law and all that it calls make is longer than what came in: it says more and counts as full. Else prove '..UptoSaid'. A law counts once. -/
mutual
def uptoBulk {H : Type} : DataW H → Nat
  | .lit (.string bytes) => bytes.length + 1
  | .lit _ => 1
  | .nil => 1
  | .ptr d => uptoBulk d + 1
  | .slice elems spare => uptoBulkAll elems + uptoBulkAll spare + 1
  | .agg parts => uptoBulkAll parts + 1
  | .iface _ d => uptoBulk d + 1
  | .map entries => uptoBulkEntries entries + 1
  | .held _ => 1
def uptoBulkAll {H : Type} : List (DataW H) → Nat
  | [] => 0
  | d :: r => uptoBulk d + uptoBulkAll r
def uptoBulkEntries {H : Type} : List (Lit × DataW H) → Nat
  | [] => 0
  | x :: r => uptoBulkEntry x + uptoBulkEntries r
def uptoBulkEntry {H : Type} : Lit × DataW H → Nat
  | (.string bytes, d) => bytes.length + uptoBulk d + 1
  | (_, d) => uptoBulk d + 1
 end
def uptoSmall : (H : Type) → List (DataW H) → Bool := fun _ ds => decide (uptoBulkAll ds ≤ 1048576)
def OpenSpec.upto (s : _root_.Go.ChangeSpec) : _root_.Go.OpenSpec := { _root_.Go.OpenSpec.ofChange s with cond := some uptoSmall }

/-- 'captionerlaw11.EventSplits', WHERE WHAT IT READS IS OF BULK AT MOST 1048576: true; the input reads as it did. -/
def eventSplitsUptoRow : OpenClaim := { program := "ytcgflkmkdpgchaadoor", sum := "684e8d8cd3fca951352fcd13f379dd27f2b4193ec44e16dc9c5304719156450c", func := "captioner/captionerlaw11.EventSplits", spec := "eventSplits", inPlace := ["internal/abi.NoEscape", "internal/bytealg.IndexByteString", "internal/bytealg.IndexString", "internal/bytealg.MakeNoZero"], named := ["unicode/utf8.first", "unicode/utf8.acceptRanges", "internal/bytealg.MaxLen"], apart := false, laid := [("unicode/utf8.acceptRanges", laid_unicode_utf8_acceptRanges), ("unicode/utf8.first", laid_unicode_utf8_first)], narrowed := true }
def EventSplitsUptoSaid : Prop := eventSplitsUptoRow.holds Tryd.pinned (OpenSpec.upto eventSplitsSpec)

/-- 'captionerlaw11.EventOrders', WHERE WHAT IT READS IS OF BULK AT MOST 1048576: true; the input reads as it did. -/
def eventOrdersUptoRow : OpenClaim := { program := "ytcgflkmkdpgchaadoor", sum := "684e8d8cd3fca951352fcd13f379dd27f2b4193ec44e16dc9c5304719156450c", func := "captioner/captionerlaw11.EventOrders", spec := "eventOrders", inPlace := ["internal/abi.NoEscape", "internal/bytealg.IndexByteString", "internal/bytealg.IndexString", "internal/bytealg.MakeNoZero"], named := ["unicode/utf8.first", "unicode/utf8.acceptRanges", "internal/bytealg.MaxLen"], apart := false, laid := [("unicode/utf8.acceptRanges", laid_unicode_utf8_acceptRanges), ("unicode/utf8.first", laid_unicode_utf8_first)], narrowed := true }
def EventOrdersUptoSaid : Prop := eventOrdersUptoRow.holds Tryd.pinned (OpenSpec.upto eventOrdersSpec)

/-- 'captionerlaw11.EventKeeps', WHERE WHAT IT READS IS OF BULK AT MOST 1048576: true; the input reads as it did. -/
def eventKeepsUptoRow : OpenClaim := { program := "ytcgflkmkdpgchaadoor", sum := "684e8d8cd3fca951352fcd13f379dd27f2b4193ec44e16dc9c5304719156450c", func := "captioner/captionerlaw11.EventKeeps", spec := "eventKeeps", inPlace := ["internal/abi.NoEscape", "internal/bytealg.IndexByteString", "internal/bytealg.IndexString", "internal/bytealg.MakeNoZero"], named := ["unicode/utf8.first", "unicode/utf8.acceptRanges", "internal/bytealg.MaxLen"], apart := false, laid := [("unicode/utf8.acceptRanges", laid_unicode_utf8_acceptRanges), ("unicode/utf8.first", laid_unicode_utf8_first)], narrowed := true }
def EventKeepsUptoSaid : Prop := eventKeepsUptoRow.holds Tryd.pinned (OpenSpec.upto eventKeepsSpec)

/-- 'captionerlaw11.EventJoins', WHERE WHAT IT READS IS OF BULK AT MOST 1048576: true; the input reads as it did. -/
def eventJoinsUptoRow : OpenClaim := { program := "ytcgflkmkdpgchaadoor", sum := "684e8d8cd3fca951352fcd13f379dd27f2b4193ec44e16dc9c5304719156450c", func := "captioner/captionerlaw11.EventJoins", spec := "eventJoins", inPlace := ["internal/abi.NoEscape", "internal/bytealg.IndexByteString", "internal/bytealg.IndexString", "internal/bytealg.MakeNoZero"], unfollowed := true, recurses := true, named := ["unicode/utf8.first", "unicode/utf8.acceptRanges", "internal/bytealg.MaxLen"], apart := false, laid := [("unicode/utf8.acceptRanges", laid_unicode_utf8_acceptRanges), ("unicode/utf8.first", laid_unicode_utf8_first)], narrowed := true }
def EventJoinsUptoSaid : Prop := eventJoinsUptoRow.holds Tryd.pinned (OpenSpec.upto eventJoinsSpec)

/-- 'captionerlaw11.EventReturns', WHERE WHAT IT READS IS OF BULK AT MOST 1048576: true; the input reads as it did. -/
def eventReturnsUptoRow : OpenClaim := { program := "ytcgflkmkdpgchaadoor", sum := "684e8d8cd3fca951352fcd13f379dd27f2b4193ec44e16dc9c5304719156450c", func := "captioner/captionerlaw11.EventReturns", spec := "eventReturns", inPlace := ["internal/abi.NoEscape", "internal/bytealg.IndexByteString", "internal/bytealg.IndexString", "internal/bytealg.MakeNoZero"], unfollowed := true, recurses := true, named := ["unicode/utf8.first", "unicode/utf8.acceptRanges", "internal/bytealg.MaxLen"], apart := false, laid := [("unicode/utf8.acceptRanges", laid_unicode_utf8_acceptRanges), ("unicode/utf8.first", laid_unicode_utf8_first)], narrowed := true }
def EventReturnsUptoSaid : Prop := eventReturnsUptoRow.holds Tryd.pinned (OpenSpec.upto eventReturnsSpec)

end Rows
end Go.Proofs.YtcgflkmkdpgchaaDoor

/-
  NARROWER THAN 'FOR EVERY INPUT', by the rows' own cells (each row's printed sentence says how): RetimeSpans: laid · RetimeDrifts: laid · RetimeBack: laid · RetimeWorst: laid · RetimeBounds: laid · RetimeValid: laid.
  DERIVED. THE GIVEN ROWS OF THIS SEAT. 6 by the template 'for every input the law returns true; each argument reads behind the call as it read before'; 0 by the template 'total and deterministic' (their statements: YtaocjfneglgmjaaDoorTotals.lean).
  GIVEN WITH THE SEED: the statements are not yours to turn. If you find one false, say at which input.
  Laid BY PROGRAM, IN A SANDBOX (cutbox-rows.mjs): the forced cells as the released guide's own fill.sh prints them over the translation 4b614eb932544bfc… (all of the seat's roots in one cut). By AI agents, Wed Nov 11 2026. No macro, syntax, notation, axiom, sorry.
-/
import Derived.Test.YtaocjfneglgmjaaDoorChecked
import GoSem.PinnedTables
import GoSem.Claim
import GoSem.ClaimJoined
import GoSem.ClaimMapViews
import Derived.JoinedTies
import Derived.KernelRfl
namespace Go.Proofs.YtaocjfneglgmjaaDoor
/- THE CELL 'sum', in the pinned program and in every row, IS THE sha256 OF THE DUMP (.gsa) THAT YtaocjfneglgmjaaDoorProg.lean LOADS. Nothing in Lean hashes anything: it is a label: what it is worth is what the hold of that sum in a sandbox is worth. -/
noncomputable def Tryd.pinned : Pinned := { name := "ytaocjfneglgmjaadoor", sum := "4b614eb932544bfc4539952223b0dba2580000f616b47a313bc51f1320dc0fbb", checked := Tryd.checked }
namespace Rows
def none {H : Type} : Left H := { results := [], args := [] }

/- WHAT THE LISTED PACKAGE-LEVEL VARIABLES READ AS WHEN THE CALL BEGINS. Each datum BY PROGRAM (the guide's laid-datum.mjs) off the statement by which the dump's own 'gosem.cut.vars' lays the variable. In a bare row this is a premise. The card (YtaocjfneglgmjaaDoorCards.lean) ties it to the program's text. -/
def laid_unicode_utf8_acceptRanges {H : Type} : DataW H := .agg [.agg [.lit (.int .u8 128), .lit (.int .u8 191)], .agg [.lit (.int .u8 160), .lit (.int .u8 191)], .agg [.lit (.int .u8 128), .lit (.int .u8 159)], .agg [.lit (.int .u8 144), .lit (.int .u8 191)], .agg [.lit (.int .u8 128), .lit (.int .u8 143)], .agg [.lit (.int .u8 0), .lit (.int .u8 0)], .agg [.lit (.int .u8 0), .lit (.int .u8 0)], .agg [.lit (.int .u8 0), .lit (.int .u8 0)], .agg [.lit (.int .u8 0), .lit (.int .u8 0)], .agg [.lit (.int .u8 0), .lit (.int .u8 0)], .agg [.lit (.int .u8 0), .lit (.int .u8 0)], .agg [.lit (.int .u8 0), .lit (.int .u8 0)], .agg [.lit (.int .u8 0), .lit (.int .u8 0)], .agg [.lit (.int .u8 0), .lit (.int .u8 0)], .agg [.lit (.int .u8 0), .lit (.int .u8 0)], .agg [.lit (.int .u8 0), .lit (.int .u8 0)]]
/-- One of Go's own tables, pinned by name: the form's constant. -/
def laid_unicode_utf8_first : DataW Unit := Go.Pinned.utf8First

/-- 'captionerlaw47.RetimeSpans': WHATEVER THE INPUT: true; the input reads as it did. -/
def retimeSpansSpec : ChangeSpec := { name := "retimeSpans", fn := fun _ => fun
  | [d1, d2, d3] => { results := [.lit (.bool true)], args := [d1, d2, d3] }
  | _ => none }
def retimeSpansRow : OpenClaim := { program := "ytaocjfneglgmjaadoor", sum := "4b614eb932544bfc4539952223b0dba2580000f616b47a313bc51f1320dc0fbb", func := "captioner/captionerlaw47.RetimeSpans", spec := "retimeSpans", inPlace := ["internal/abi.NoEscape", "internal/bytealg.IndexByteString", "internal/bytealg.IndexString"], named := ["unicode/utf8.first", "unicode/utf8.acceptRanges", "internal/bytealg.MaxLen"], apart := false, laid := [("unicode/utf8.acceptRanges", laid_unicode_utf8_acceptRanges), ("unicode/utf8.first", laid_unicode_utf8_first)] }
def RetimeSpansSaid : Prop := retimeSpansRow.holds Tryd.pinned (OpenSpec.ofChange retimeSpansSpec)

/-- ITS FALSE NEIGHBOUR: 'it returns false'. Refute it at one input. -/
def retimeSpansWrong : ChangeSpec := { name := "retimeSpans", fn := fun _ => fun
  | [d1, d2, d3] => { results := [.lit (.bool false)], args := [d1, d2, d3] }
  | _ => none }
def RetimeSpansWrongFalsely : Prop := retimeSpansRow.holds Tryd.pinned (OpenSpec.ofChange retimeSpansWrong)

/-- 'captionerlaw47.RetimeDrifts': WHATEVER THE INPUT: true; the input reads as it did. -/
def retimeDriftsSpec : ChangeSpec := { name := "retimeDrifts", fn := fun _ => fun
  | [d1, d2] => { results := [.lit (.bool true)], args := [d1, d2] }
  | _ => none }
def retimeDriftsRow : OpenClaim := { program := "ytaocjfneglgmjaadoor", sum := "4b614eb932544bfc4539952223b0dba2580000f616b47a313bc51f1320dc0fbb", func := "captioner/captionerlaw47.RetimeDrifts", spec := "retimeDrifts", inPlace := ["internal/abi.NoEscape", "internal/bytealg.IndexByteString", "internal/bytealg.IndexString"], named := ["unicode/utf8.first", "unicode/utf8.acceptRanges", "internal/bytealg.MaxLen"], apart := false, laid := [("unicode/utf8.acceptRanges", laid_unicode_utf8_acceptRanges), ("unicode/utf8.first", laid_unicode_utf8_first)] }
def RetimeDriftsSaid : Prop := retimeDriftsRow.holds Tryd.pinned (OpenSpec.ofChange retimeDriftsSpec)

/-- ITS FALSE NEIGHBOUR: 'it returns false'. Refute it at one input. -/
def retimeDriftsWrong : ChangeSpec := { name := "retimeDrifts", fn := fun _ => fun
  | [d1, d2] => { results := [.lit (.bool false)], args := [d1, d2] }
  | _ => none }
def RetimeDriftsWrongFalsely : Prop := retimeDriftsRow.holds Tryd.pinned (OpenSpec.ofChange retimeDriftsWrong)

/-- 'captionerlaw47.RetimeBack': WHATEVER THE INPUT: true; the input reads as it did. -/
def retimeBackSpec : ChangeSpec := { name := "retimeBack", fn := fun _ => fun
  | [d1, d2, d3] => { results := [.lit (.bool true)], args := [d1, d2, d3] }
  | _ => none }
def retimeBackRow : OpenClaim := { program := "ytaocjfneglgmjaadoor", sum := "4b614eb932544bfc4539952223b0dba2580000f616b47a313bc51f1320dc0fbb", func := "captioner/captionerlaw47.RetimeBack", spec := "retimeBack", inPlace := ["internal/abi.NoEscape", "internal/bytealg.IndexByteString", "internal/bytealg.IndexString"], named := ["unicode/utf8.first", "unicode/utf8.acceptRanges", "internal/bytealg.MaxLen"], apart := false, laid := [("unicode/utf8.acceptRanges", laid_unicode_utf8_acceptRanges), ("unicode/utf8.first", laid_unicode_utf8_first)] }
def RetimeBackSaid : Prop := retimeBackRow.holds Tryd.pinned (OpenSpec.ofChange retimeBackSpec)

/-- ITS FALSE NEIGHBOUR: 'it returns false'. Refute it at one input. -/
def retimeBackWrong : ChangeSpec := { name := "retimeBack", fn := fun _ => fun
  | [d1, d2, d3] => { results := [.lit (.bool false)], args := [d1, d2, d3] }
  | _ => none }
def RetimeBackWrongFalsely : Prop := retimeBackRow.holds Tryd.pinned (OpenSpec.ofChange retimeBackWrong)

/-- 'captionerlaw47.RetimeWorst': WHATEVER THE INPUT: true; the input reads as it did. -/
def retimeWorstSpec : ChangeSpec := { name := "retimeWorst", fn := fun _ => fun
  | [d] => { results := [.lit (.bool true)], args := [d] }
  | _ => none }
def retimeWorstRow : OpenClaim := { program := "ytaocjfneglgmjaadoor", sum := "4b614eb932544bfc4539952223b0dba2580000f616b47a313bc51f1320dc0fbb", func := "captioner/captionerlaw47.RetimeWorst", spec := "retimeWorst", inPlace := ["internal/abi.NoEscape", "internal/bytealg.IndexByteString", "internal/bytealg.IndexString"], named := ["unicode/utf8.first", "unicode/utf8.acceptRanges", "internal/bytealg.MaxLen"], apart := false, laid := [("unicode/utf8.acceptRanges", laid_unicode_utf8_acceptRanges), ("unicode/utf8.first", laid_unicode_utf8_first)] }
def RetimeWorstSaid : Prop := retimeWorstRow.holds Tryd.pinned (OpenSpec.ofChange retimeWorstSpec)

/-- ITS FALSE NEIGHBOUR: 'it returns false'. Refute it at one input. -/
def retimeWorstWrong : ChangeSpec := { name := "retimeWorst", fn := fun _ => fun
  | [d] => { results := [.lit (.bool false)], args := [d] }
  | _ => none }
def RetimeWorstWrongFalsely : Prop := retimeWorstRow.holds Tryd.pinned (OpenSpec.ofChange retimeWorstWrong)

/-- 'captionerlaw47.RetimeBounds': WHATEVER THE INPUT: true; the input reads as it did. -/
def retimeBoundsSpec : ChangeSpec := { name := "retimeBounds", fn := fun _ => fun
  | [d] => { results := [.lit (.bool true)], args := [d] }
  | _ => none }
def retimeBoundsRow : OpenClaim := { program := "ytaocjfneglgmjaadoor", sum := "4b614eb932544bfc4539952223b0dba2580000f616b47a313bc51f1320dc0fbb", func := "captioner/captionerlaw47.RetimeBounds", spec := "retimeBounds", inPlace := ["internal/abi.NoEscape", "internal/bytealg.IndexByteString", "internal/bytealg.IndexString"], named := ["unicode/utf8.first", "unicode/utf8.acceptRanges", "internal/bytealg.MaxLen"], apart := false, laid := [("unicode/utf8.acceptRanges", laid_unicode_utf8_acceptRanges), ("unicode/utf8.first", laid_unicode_utf8_first)] }
def RetimeBoundsSaid : Prop := retimeBoundsRow.holds Tryd.pinned (OpenSpec.ofChange retimeBoundsSpec)

/-- ITS FALSE NEIGHBOUR: 'it returns false'. Refute it at one input. -/
def retimeBoundsWrong : ChangeSpec := { name := "retimeBounds", fn := fun _ => fun
  | [d] => { results := [.lit (.bool false)], args := [d] }
  | _ => none }
def RetimeBoundsWrongFalsely : Prop := retimeBoundsRow.holds Tryd.pinned (OpenSpec.ofChange retimeBoundsWrong)

/-- 'captionerlaw47.RetimeValid': WHATEVER THE INPUT: true; the input reads as it did. -/
def retimeValidSpec : ChangeSpec := { name := "retimeValid", fn := fun _ => fun
  | [d1, d2, d3] => { results := [.lit (.bool true)], args := [d1, d2, d3] }
  | _ => none }
def retimeValidRow : OpenClaim := { program := "ytaocjfneglgmjaadoor", sum := "4b614eb932544bfc4539952223b0dba2580000f616b47a313bc51f1320dc0fbb", func := "captioner/captionerlaw47.RetimeValid", spec := "retimeValid", inPlace := ["internal/abi.NoEscape", "internal/bytealg.IndexByteString", "internal/bytealg.IndexString", "internal/bytealg.MakeNoZero"], named := ["unicode/utf8.first", "unicode/utf8.acceptRanges", "internal/bytealg.MaxLen"], apart := false, laid := [("unicode/utf8.acceptRanges", laid_unicode_utf8_acceptRanges), ("unicode/utf8.first", laid_unicode_utf8_first)] }
def RetimeValidSaid : Prop := retimeValidRow.holds Tryd.pinned (OpenSpec.ofChange retimeValidSpec)

/-- ITS FALSE NEIGHBOUR: 'it returns false'. Refute it at one input. -/
def retimeValidWrong : ChangeSpec := { name := "retimeValid", fn := fun _ => fun
  | [d1, d2, d3] => { results := [.lit (.bool false)], args := [d1, d2, d3] }
  | _ => none }
def RetimeValidWrongFalsely : Prop := retimeValidRow.holds Tryd.pinned (OpenSpec.ofChange retimeValidWrong)

/- THE SECOND FORM. 'bulk': how many values and letters a reading holds, each counted each time it is reached (what is shared counts as often as it is met; a slice's spare places count too). A statement '..UptoSaid' is the law's where the arguments, and the package variables that the reading takes, are together of bulk at most 1048576: NARROWER than '..Said'. Prove '..Said' where nothing that the law and all that it calls make is longer than what came in: it says more and counts as full. Else prove '..UptoSaid'. A law counts once. -/
mutual
def uptoBulk {H : Type} : DataW H → Nat
  | .lit (.string bytes) => bytes.length + 1
  | .lit _ => 1
  | .nil => 1
  | .ptr d => uptoBulk d + 1
  | .slice elems spare => uptoBulkAll elems + uptoBulkAll spare + 1
  | .agg parts => uptoBulkAll parts + 1
  | .iface _ d => uptoBulk d + 1
  | .map entries => uptoBulkEntries entries + 1
  | .held _ => 1
def uptoBulkAll {H : Type} : List (DataW H) → Nat
  | [] => 0
  | d :: r => uptoBulk d + uptoBulkAll r
def uptoBulkEntries {H : Type} : List (Lit × DataW H) → Nat
  | [] => 0
  | x :: r => uptoBulkEntry x + uptoBulkEntries r
def uptoBulkEntry {H : Type} : Lit × DataW H → Nat
  | (.string bytes, d) => bytes.length + uptoBulk d + 1
  | (_, d) => uptoBulk d + 1
 end
def uptoSmall : (H : Type) → List (DataW H) → Bool := fun _ ds => decide (uptoBulkAll ds ≤ 1048576)
def OpenSpec.upto (s : _root_.Go.ChangeSpec) : _root_.Go.OpenSpec := { _root_.Go.OpenSpec.ofChange s with cond := some uptoSmall }

/-- 'captionerlaw47.RetimeSpans', WHERE WHAT IT READS IS OF BULK AT MOST 1048576: true; the input reads as it did. -/
def retimeSpansUptoRow : OpenClaim := { program := "ytaocjfneglgmjaadoor", sum := "4b614eb932544bfc4539952223b0dba2580000f616b47a313bc51f1320dc0fbb", func := "captioner/captionerlaw47.RetimeSpans", spec := "retimeSpans", inPlace := ["internal/abi.NoEscape", "internal/bytealg.IndexByteString", "internal/bytealg.IndexString"], named := ["unicode/utf8.first", "unicode/utf8.acceptRanges", "internal/bytealg.MaxLen"], apart := false, laid := [("unicode/utf8.acceptRanges", laid_unicode_utf8_acceptRanges), ("unicode/utf8.first", laid_unicode_utf8_first)], narrowed := true }
def RetimeSpansUptoSaid : Prop := retimeSpansUptoRow.holds Tryd.pinned (OpenSpec.upto retimeSpansSpec)

/-- 'captionerlaw47.RetimeDrifts', WHERE WHAT IT READS IS OF BULK AT MOST 1048576: true; the input reads as it did. -/
def retimeDriftsUptoRow : OpenClaim := { program := "ytaocjfneglgmjaadoor", sum := "4b614eb932544bfc4539952223b0dba2580000f616b47a313bc51f1320dc0fbb", func := "captioner/captionerlaw47.RetimeDrifts", spec := "retimeDrifts", inPlace := ["internal/abi.NoEscape", "internal/bytealg.IndexByteString", "internal/bytealg.IndexString"], named := ["unicode/utf8.first", "unicode/utf8.acceptRanges", "internal/bytealg.MaxLen"], apart := false, laid := [("unicode/utf8.acceptRanges", laid_unicode_utf8_acceptRanges), ("unicode/utf8.first", laid_unicode_utf8_first)], narrowed := true }
def RetimeDriftsUptoSaid : Prop := retimeDriftsUptoRow.holds Tryd.pinned (OpenSpec.upto retimeDriftsSpec)

/-- 'captionerlaw47.RetimeBack', WHERE WHAT IT READS IS OF BULK AT MOST 1048576: true; the input reads as it did. -/
def retimeBackUptoRow : OpenClaim := { program := "ytaocjfneglgmjaadoor", sum := "4b614eb932544bfc4539952223b0dba2580000f616b47a313bc51f1320dc0fbb", func := "captioner/captionerlaw47.RetimeBack", spec := "retimeBack", inPlace := ["internal/abi.NoEscape", "internal/bytealg.IndexByteString", "internal/bytealg.IndexString"], named := ["unicode/utf8.first", "unicode/utf8.acceptRanges", "internal/bytealg.MaxLen"], apart := false, laid := [("unicode/utf8.acceptRanges", laid_unicode_utf8_acceptRanges), ("unicode/utf8.first", laid_unicode_utf8_first)], narrowed := true }
def RetimeBackUptoSaid : Prop := retimeBackUptoRow.holds Tryd.pinned (OpenSpec.upto retimeBackSpec)

/-- 'captionerlaw47.RetimeWorst', WHERE WHAT IT READS IS OF BULK AT MOST 1048576: true; the input reads as it did. -/
def retimeWorstUptoRow : OpenClaim := { program := "ytaocjfneglgmjaadoor", sum := "4b614eb932544bfc4539952223b0dba2580000f616b47a313bc51f1320dc0fbb", func := "captioner/captionerlaw47.RetimeWorst", spec := "retimeWorst", inPlace := ["internal/abi.NoEscape", "internal/bytealg.IndexByteString", "internal/bytealg.IndexString"], named := ["unicode/utf8.first", "unicode/utf8.acceptRanges", "internal/bytealg.MaxLen"], apart := false, laid := [("unicode/utf8.acceptRanges", laid_unicode_utf8_acceptRanges), ("unicode/utf8.first", laid_unicode_utf8_first)], narrowed := true }
def RetimeWorstUptoSaid : Prop := retimeWorstUptoRow.holds Tryd.pinned (OpenSpec.upto retimeWorstSpec)

/-- 'captionerlaw47.RetimeBounds', WHERE WHAT IT READS IS OF BULK AT MOST 1048576: true; the input reads as it did. -/
def retimeBoundsUptoRow : OpenClaim := { program := "ytaocjfneglgmjaadoor", sum := "4b614eb932544bfc4539952223b0dba2580000f616b47a313bc51f1320dc0fbb", func := "captioner/captionerlaw47.RetimeBounds", spec := "retimeBounds", inPlace := ["internal/abi.NoEscape", "internal/bytealg.IndexByteString", "internal/bytealg.IndexString"], named := ["unicode/utf8.first", "unicode/utf8.acceptRanges", "internal/bytealg.MaxLen"], apart := false, laid := [("unicode/utf8.acceptRanges", laid_unicode_utf8_acceptRanges), ("unicode/utf8.first", laid_unicode_utf8_first)], narrowed := true }
def RetimeBoundsUptoSaid : Prop := retimeBoundsUptoRow.holds Tryd.pinned (OpenSpec.upto retimeBoundsSpec)

/-- 'captionerlaw47.RetimeValid', WHERE WHAT IT READS IS OF BULK AT MOST 1048576: true; the input reads as it did. -/
def retimeValidUptoRow : OpenClaim := { program := "ytaocjfneglgmjaadoor", sum := "4b614eb932544bfc4539952223b0dba2580000f616b47a313bc51f1320dc0fbb", func := "captioner/captionerlaw47.RetimeValid", spec := "retimeValid", inPlace := ["internal/abi.NoEscape", "internal/bytealg.IndexByteString", "internal/bytealg.IndexString", "internal/bytealg.MakeNoZero"], named := ["unicode/utf8.first", "unicode/utf8.acceptRanges", "internal/bytealg.MaxLen"], apart := false, laid := [("unicode/utf8.acceptRanges", laid_unicode_utf8_acceptRanges), ("unicode/utf8.first", laid_unicode_utf8_first)], narrowed := true }
def RetimeValidUptoSaid : Prop := retimeValidUptoRow.holds Tryd.pinned (OpenSpec.upto retimeValidSpec)

end Rows
end Go.Proofs.YtaocjfneglgmjaaDoor

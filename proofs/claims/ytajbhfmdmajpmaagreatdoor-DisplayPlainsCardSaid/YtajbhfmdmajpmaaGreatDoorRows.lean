/-
  NARROWER THAN 'FOR EVERY INPUT', by the rows' own cells (each row's printed sentence says how): DisplayScreens: laid · DisplayShows: laid · DisplayOverlaps: laid · DisplayAlone: laid · DisplaySeen: laid · DisplayChecks: laid · DisplayChanges: laid · DisplayPlaces: laid · DisplayPlains: laid.
  DERIVED. THE GIVEN ROWS OF THIS SEAT. 9 by the template 'for every input the law returns true; each argument reads behind the call as it read before'; 0 by the template 'total and deterministic' (their statements: YtajbhfmdmajpmaaGreatDoorTotals.lean).
  GIVEN WITH THE SEED: the statements are not yours to turn. If you find one false, say at which input.
  Laid BY PROGRAM, IN A SANDBOX (cutbox-rows.mjs): the forced cells as the released guide's own fill.sh prints them over the translation b456dff11915ddb8… (all of the seat's roots in one cut). By AI agents, Wed Nov 11 2026. No macro, syntax, notation, axiom, sorry.
-/
import Derived.Test.YtajbhfmdmajpmaaGreatDoorChecked
import GoSem.PinnedTables
import GoSem.Claim
import GoSem.ClaimJoined
import GoSem.ClaimMapViews
import Derived.JoinedTies
import Derived.KernelRfl
namespace Go.Proofs.YtajbhfmdmajpmaaGreatDoor
/- THE CELL 'sum', in the pinned program and in every row, IS THE sha256 OF THE DUMP (.gsa) THAT YtajbhfmdmajpmaaGreatDoorProg.lean LOADS. Nothing in Lean hashes anything: it is a label: what it is worth is what the hold of that sum in a sandbox is worth. -/
noncomputable def Tryz.pinned : Pinned := { name := "ytajbhfmdmajpmaagreatdoor", sum := "b456dff11915ddb8649e2f5b3269167febb01338524157c28f092855d9d8468b", checked := Tryz.checked }
namespace Rows
def none {H : Type} : Left H := { results := [], args := [] }

/- WHAT THE LISTED PACKAGE-LEVEL VARIABLES READ AS WHEN THE CALL BEGINS. Each datum BY PROGRAM (the guide's laid-datum.mjs) off the statement by which the dump's own 'gosem.cut.vars' lays the variable. In a bare row this is a premise. The card (YtajbhfmdmajpmaaGreatDoorCards.lean) ties it to the program's text. -/
def laid_unicode_utf8_acceptRanges {H : Type} : DataW H := .agg [.agg [.lit (.int .u8 128), .lit (.int .u8 191)], .agg [.lit (.int .u8 160), .lit (.int .u8 191)], .agg [.lit (.int .u8 128), .lit (.int .u8 159)], .agg [.lit (.int .u8 144), .lit (.int .u8 191)], .agg [.lit (.int .u8 128), .lit (.int .u8 143)], .agg [.lit (.int .u8 0), .lit (.int .u8 0)], .agg [.lit (.int .u8 0), .lit (.int .u8 0)], .agg [.lit (.int .u8 0), .lit (.int .u8 0)], .agg [.lit (.int .u8 0), .lit (.int .u8 0)], .agg [.lit (.int .u8 0), .lit (.int .u8 0)], .agg [.lit (.int .u8 0), .lit (.int .u8 0)], .agg [.lit (.int .u8 0), .lit (.int .u8 0)], .agg [.lit (.int .u8 0), .lit (.int .u8 0)], .agg [.lit (.int .u8 0), .lit (.int .u8 0)], .agg [.lit (.int .u8 0), .lit (.int .u8 0)], .agg [.lit (.int .u8 0), .lit (.int .u8 0)]]
/-- One of Go's own tables, pinned by name: the form's constant. -/
def laid_unicode_utf8_first : DataW Unit := Go.Pinned.utf8First

/-- 'captionerlaw32.DisplayScreens': WHATEVER THE INPUT: true; the input reads as it did. -/
def displayScreensSpec : ChangeSpec := { name := "displayScreens", fn := fun _ => fun
  | [d1, d2] => { results := [.lit (.bool true)], args := [d1, d2] }
  | _ => none }
def displayScreensRow : OpenClaim := { program := "ytajbhfmdmajpmaagreatdoor", sum := "b456dff11915ddb8649e2f5b3269167febb01338524157c28f092855d9d8468b", func := "captioner/captionerlaw32.DisplayScreens", spec := "displayScreens", inPlace := ["internal/abi.NoEscape", "internal/bytealg.IndexByteString", "internal/bytealg.IndexString"], unfollowed := true, recurses := true, named := ["unicode/utf8.first", "unicode/utf8.acceptRanges", "internal/bytealg.MaxLen"], apart := false, laid := [("unicode/utf8.acceptRanges", laid_unicode_utf8_acceptRanges), ("unicode/utf8.first", laid_unicode_utf8_first)] }
def DisplayScreensSaid : Prop := displayScreensRow.holds Tryz.pinned (OpenSpec.ofChange displayScreensSpec)

/-- ITS FALSE NEIGHBOUR: 'it returns false'. Refute it at one input. -/
def displayScreensWrong : ChangeSpec := { name := "displayScreens", fn := fun _ => fun
  | [d1, d2] => { results := [.lit (.bool false)], args := [d1, d2] }
  | _ => none }
def DisplayScreensWrongFalsely : Prop := displayScreensRow.holds Tryz.pinned (OpenSpec.ofChange displayScreensWrong)

/-- 'captionerlaw32.DisplayShows': WHATEVER THE INPUT: true; the input reads as it did. -/
def displayShowsSpec : ChangeSpec := { name := "displayShows", fn := fun _ => fun
  | [d] => { results := [.lit (.bool true)], args := [d] }
  | _ => none }
def displayShowsRow : OpenClaim := { program := "ytajbhfmdmajpmaagreatdoor", sum := "b456dff11915ddb8649e2f5b3269167febb01338524157c28f092855d9d8468b", func := "captioner/captionerlaw32.DisplayShows", spec := "displayShows", inPlace := ["internal/abi.NoEscape", "internal/bytealg.IndexByteString", "internal/bytealg.IndexString"], unfollowed := true, recurses := true, named := ["unicode/utf8.first", "unicode/utf8.acceptRanges", "internal/bytealg.MaxLen"], apart := false, laid := [("unicode/utf8.acceptRanges", laid_unicode_utf8_acceptRanges), ("unicode/utf8.first", laid_unicode_utf8_first)] }
def DisplayShowsSaid : Prop := displayShowsRow.holds Tryz.pinned (OpenSpec.ofChange displayShowsSpec)

/-- ITS FALSE NEIGHBOUR: 'it returns false'. Refute it at one input. -/
def displayShowsWrong : ChangeSpec := { name := "displayShows", fn := fun _ => fun
  | [d] => { results := [.lit (.bool false)], args := [d] }
  | _ => none }
def DisplayShowsWrongFalsely : Prop := displayShowsRow.holds Tryz.pinned (OpenSpec.ofChange displayShowsWrong)

/-- 'captionerlaw32.DisplayOverlaps': WHATEVER THE INPUT: true; the input reads as it did. -/
def displayOverlapsSpec : ChangeSpec := { name := "displayOverlaps", fn := fun _ => fun
  | [d] => { results := [.lit (.bool true)], args := [d] }
  | _ => none }
def displayOverlapsRow : OpenClaim := { program := "ytajbhfmdmajpmaagreatdoor", sum := "b456dff11915ddb8649e2f5b3269167febb01338524157c28f092855d9d8468b", func := "captioner/captionerlaw32.DisplayOverlaps", spec := "displayOverlaps", inPlace := ["internal/abi.NoEscape", "internal/bytealg.IndexByteString", "internal/bytealg.IndexString"], unfollowed := true, recurses := true, named := ["unicode/utf8.first", "unicode/utf8.acceptRanges", "internal/bytealg.MaxLen"], apart := false, laid := [("unicode/utf8.acceptRanges", laid_unicode_utf8_acceptRanges), ("unicode/utf8.first", laid_unicode_utf8_first)] }
def DisplayOverlapsSaid : Prop := displayOverlapsRow.holds Tryz.pinned (OpenSpec.ofChange displayOverlapsSpec)

/-- ITS FALSE NEIGHBOUR: 'it returns false'. Refute it at one input. -/
def displayOverlapsWrong : ChangeSpec := { name := "displayOverlaps", fn := fun _ => fun
  | [d] => { results := [.lit (.bool false)], args := [d] }
  | _ => none }
def DisplayOverlapsWrongFalsely : Prop := displayOverlapsRow.holds Tryz.pinned (OpenSpec.ofChange displayOverlapsWrong)

/-- 'captionerlaw32.DisplayAlone': WHATEVER THE INPUT: true; the input reads as it did. -/
def displayAloneSpec : ChangeSpec := { name := "displayAlone", fn := fun _ => fun
  | [d1, d2] => { results := [.lit (.bool true)], args := [d1, d2] }
  | _ => none }
def displayAloneRow : OpenClaim := { program := "ytajbhfmdmajpmaagreatdoor", sum := "b456dff11915ddb8649e2f5b3269167febb01338524157c28f092855d9d8468b", func := "captioner/captionerlaw32.DisplayAlone", spec := "displayAlone", inPlace := ["internal/abi.NoEscape", "internal/bytealg.IndexByteString", "internal/bytealg.IndexString"], unfollowed := true, recurses := true, named := ["unicode/utf8.first", "unicode/utf8.acceptRanges", "internal/bytealg.MaxLen"], apart := false, laid := [("unicode/utf8.acceptRanges", laid_unicode_utf8_acceptRanges), ("unicode/utf8.first", laid_unicode_utf8_first)] }
def DisplayAloneSaid : Prop := displayAloneRow.holds Tryz.pinned (OpenSpec.ofChange displayAloneSpec)

/-- ITS FALSE NEIGHBOUR: 'it returns false'. Refute it at one input. -/
def displayAloneWrong : ChangeSpec := { name := "displayAlone", fn := fun _ => fun
  | [d1, d2] => { results := [.lit (.bool false)], args := [d1, d2] }
  | _ => none }
def DisplayAloneWrongFalsely : Prop := displayAloneRow.holds Tryz.pinned (OpenSpec.ofChange displayAloneWrong)

/-- 'captionerlaw32.DisplaySeen': WHATEVER THE INPUT: true; the input reads as it did. -/
def displaySeenSpec : ChangeSpec := { name := "displaySeen", fn := fun _ => fun
  | [d1, d2] => { results := [.lit (.bool true)], args := [d1, d2] }
  | _ => none }
def displaySeenRow : OpenClaim := { program := "ytajbhfmdmajpmaagreatdoor", sum := "b456dff11915ddb8649e2f5b3269167febb01338524157c28f092855d9d8468b", func := "captioner/captionerlaw32.DisplaySeen", spec := "displaySeen", inPlace := ["internal/abi.NoEscape", "internal/bytealg.IndexByteString", "internal/bytealg.IndexString"], unfollowed := true, recurses := true, named := ["unicode/utf8.first", "unicode/utf8.acceptRanges", "internal/bytealg.MaxLen"], apart := false, laid := [("unicode/utf8.acceptRanges", laid_unicode_utf8_acceptRanges), ("unicode/utf8.first", laid_unicode_utf8_first)] }
def DisplaySeenSaid : Prop := displaySeenRow.holds Tryz.pinned (OpenSpec.ofChange displaySeenSpec)

/-- ITS FALSE NEIGHBOUR: 'it returns false'. Refute it at one input. -/
def displaySeenWrong : ChangeSpec := { name := "displaySeen", fn := fun _ => fun
  | [d1, d2] => { results := [.lit (.bool false)], args := [d1, d2] }
  | _ => none }
def DisplaySeenWrongFalsely : Prop := displaySeenRow.holds Tryz.pinned (OpenSpec.ofChange displaySeenWrong)

/-- 'captionerlaw32.DisplayChecks': WHATEVER THE INPUT: true; the input reads as it did. -/
def displayChecksSpec : ChangeSpec := { name := "displayChecks", fn := fun _ => fun
  | [d1, d2] => { results := [.lit (.bool true)], args := [d1, d2] }
  | _ => none }
def displayChecksRow : OpenClaim := { program := "ytajbhfmdmajpmaagreatdoor", sum := "b456dff11915ddb8649e2f5b3269167febb01338524157c28f092855d9d8468b", func := "captioner/captionerlaw32.DisplayChecks", spec := "displayChecks", inPlace := ["internal/abi.NoEscape", "internal/bytealg.IndexByteString", "internal/bytealg.IndexString"], unfollowed := true, recurses := true, named := ["unicode/utf8.first", "unicode/utf8.acceptRanges", "internal/bytealg.MaxLen"], apart := false, laid := [("unicode/utf8.acceptRanges", laid_unicode_utf8_acceptRanges), ("unicode/utf8.first", laid_unicode_utf8_first)] }
def DisplayChecksSaid : Prop := displayChecksRow.holds Tryz.pinned (OpenSpec.ofChange displayChecksSpec)

/-- ITS FALSE NEIGHBOUR: 'it returns false'. Refute it at one input. -/
def displayChecksWrong : ChangeSpec := { name := "displayChecks", fn := fun _ => fun
  | [d1, d2] => { results := [.lit (.bool false)], args := [d1, d2] }
  | _ => none }
def DisplayChecksWrongFalsely : Prop := displayChecksRow.holds Tryz.pinned (OpenSpec.ofChange displayChecksWrong)

/-- 'captionerlaw32.DisplayChanges': WHATEVER THE INPUT: true; the input reads as it did. -/
def displayChangesSpec : ChangeSpec := { name := "displayChanges", fn := fun _ => fun
  | [d] => { results := [.lit (.bool true)], args := [d] }
  | _ => none }
def displayChangesRow : OpenClaim := { program := "ytajbhfmdmajpmaagreatdoor", sum := "b456dff11915ddb8649e2f5b3269167febb01338524157c28f092855d9d8468b", func := "captioner/captionerlaw32.DisplayChanges", spec := "displayChanges", inPlace := ["internal/abi.NoEscape", "internal/bytealg.IndexByteString", "internal/bytealg.IndexString"], unfollowed := true, recurses := true, named := ["unicode/utf8.first", "unicode/utf8.acceptRanges", "internal/bytealg.MaxLen"], apart := false, laid := [("unicode/utf8.acceptRanges", laid_unicode_utf8_acceptRanges), ("unicode/utf8.first", laid_unicode_utf8_first)] }
def DisplayChangesSaid : Prop := displayChangesRow.holds Tryz.pinned (OpenSpec.ofChange displayChangesSpec)

/-- ITS FALSE NEIGHBOUR: 'it returns false'. Refute it at one input. -/
def displayChangesWrong : ChangeSpec := { name := "displayChanges", fn := fun _ => fun
  | [d] => { results := [.lit (.bool false)], args := [d] }
  | _ => none }
def DisplayChangesWrongFalsely : Prop := displayChangesRow.holds Tryz.pinned (OpenSpec.ofChange displayChangesWrong)

/-- 'captionerlaw32.DisplayPlaces': WHATEVER THE INPUT: true; the input reads as it did. -/
def displayPlacesSpec : ChangeSpec := { name := "displayPlaces", fn := fun _ => fun
  | [d1, d2] => { results := [.lit (.bool true)], args := [d1, d2] }
  | _ => none }
def displayPlacesRow : OpenClaim := { program := "ytajbhfmdmajpmaagreatdoor", sum := "b456dff11915ddb8649e2f5b3269167febb01338524157c28f092855d9d8468b", func := "captioner/captionerlaw32.DisplayPlaces", spec := "displayPlaces", inPlace := ["internal/abi.NoEscape", "internal/bytealg.IndexByteString", "internal/bytealg.IndexString"], unfollowed := true, recurses := true, named := ["unicode/utf8.first", "unicode/utf8.acceptRanges", "internal/bytealg.MaxLen"], apart := false, laid := [("unicode/utf8.acceptRanges", laid_unicode_utf8_acceptRanges), ("unicode/utf8.first", laid_unicode_utf8_first)] }
def DisplayPlacesSaid : Prop := displayPlacesRow.holds Tryz.pinned (OpenSpec.ofChange displayPlacesSpec)

/-- ITS FALSE NEIGHBOUR: 'it returns false'. Refute it at one input. -/
def displayPlacesWrong : ChangeSpec := { name := "displayPlaces", fn := fun _ => fun
  | [d1, d2] => { results := [.lit (.bool false)], args := [d1, d2] }
  | _ => none }
def DisplayPlacesWrongFalsely : Prop := displayPlacesRow.holds Tryz.pinned (OpenSpec.ofChange displayPlacesWrong)

/-- 'captionerlaw32.DisplayPlains': WHATEVER THE INPUT: true; the input reads as it did. -/
def displayPlainsSpec : ChangeSpec := { name := "displayPlains", fn := fun _ => fun
  | [d] => { results := [.lit (.bool true)], args := [d] }
  | _ => none }
def displayPlainsRow : OpenClaim := { program := "ytajbhfmdmajpmaagreatdoor", sum := "b456dff11915ddb8649e2f5b3269167febb01338524157c28f092855d9d8468b", func := "captioner/captionerlaw32.DisplayPlains", spec := "displayPlains", inPlace := ["internal/abi.NoEscape", "internal/bytealg.IndexByteString", "internal/bytealg.IndexString"], unfollowed := true, recurses := true, named := ["unicode/utf8.first", "unicode/utf8.acceptRanges", "internal/bytealg.MaxLen"], apart := false, laid := [("unicode/utf8.acceptRanges", laid_unicode_utf8_acceptRanges), ("unicode/utf8.first", laid_unicode_utf8_first)] }
def DisplayPlainsSaid : Prop := displayPlainsRow.holds Tryz.pinned (OpenSpec.ofChange displayPlainsSpec)

/-- ITS FALSE NEIGHBOUR: 'it returns false'. Refute it at one input. -/
def displayPlainsWrong : ChangeSpec := { name := "displayPlains", fn := fun _ => fun
  | [d] => { results := [.lit (.bool false)], args := [d] }
  | _ => none }
def DisplayPlainsWrongFalsely : Prop := displayPlainsRow.holds Tryz.pinned (OpenSpec.ofChange displayPlainsWrong)

/- THE SECOND FORM. 'bulk': how many values and letters a reading holds, each counted each time it is reached (what is shared counts as often as it is met; a slice's spare places count too). A statement '..UptoSaid' is the law's where the arguments, and the package variables that the reading takes, are together of bulk at most 1048576: NARROWER than '..Said'. Prove '..Said' where nothing that the law and all that it calls make is longer than what came in: it says more and counts as full. Else prove '..UptoSaid'. A law counts once. -/
mutual
def uptoBulk {H : Type} : DataW H → Nat
  | .lit (.string bytes) => bytes.length + 1
  | .lit _ => 1
  | .nil => 1
  | .ptr d => uptoBulk d + 1
  | .slice elems spare => uptoBulkAll elems + uptoBulkAll spare + 1
  | .agg parts => uptoBulkAll parts + 1
  | .iface _ d => uptoBulk d + 1
  | .map entries => uptoBulkEntries entries + 1
  | .held _ => 1
def uptoBulkAll {H : Type} : List (DataW H) → Nat
  | [] => 0
  | d :: r => uptoBulk d + uptoBulkAll r
def uptoBulkEntries {H : Type} : List (Lit × DataW H) → Nat
  | [] => 0
  | x :: r => uptoBulkEntry x + uptoBulkEntries r
def uptoBulkEntry {H : Type} : Lit × DataW H → Nat
  | (.string bytes, d) => bytes.length + uptoBulk d + 1
  | (_, d) => uptoBulk d + 1
 end
def uptoSmall : (H : Type) → List (DataW H) → Bool := fun _ ds => decide (uptoBulkAll ds ≤ 1048576)
def OpenSpec.upto (s : _root_.Go.ChangeSpec) : _root_.Go.OpenSpec := { _root_.Go.OpenSpec.ofChange s with cond := some uptoSmall }

/-- 'captionerlaw32.DisplayScreens', WHERE WHAT IT READS IS OF BULK AT MOST 1048576: true; the input reads as it did. -/
def displayScreensUptoRow : OpenClaim := { program := "ytajbhfmdmajpmaagreatdoor", sum := "b456dff11915ddb8649e2f5b3269167febb01338524157c28f092855d9d8468b", func := "captioner/captionerlaw32.DisplayScreens", spec := "displayScreens", inPlace := ["internal/abi.NoEscape", "internal/bytealg.IndexByteString", "internal/bytealg.IndexString"], unfollowed := true, recurses := true, named := ["unicode/utf8.first", "unicode/utf8.acceptRanges", "internal/bytealg.MaxLen"], apart := false, laid := [("unicode/utf8.acceptRanges", laid_unicode_utf8_acceptRanges), ("unicode/utf8.first", laid_unicode_utf8_first)], narrowed := true }
def DisplayScreensUptoSaid : Prop := displayScreensUptoRow.holds Tryz.pinned (OpenSpec.upto displayScreensSpec)

/-- 'captionerlaw32.DisplayShows', WHERE WHAT IT READS IS OF BULK AT MOST 1048576: true; the input reads as it did. -/
def displayShowsUptoRow : OpenClaim := { program := "ytajbhfmdmajpmaagreatdoor", sum := "b456dff11915ddb8649e2f5b3269167febb01338524157c28f092855d9d8468b", func := "captioner/captionerlaw32.DisplayShows", spec := "displayShows", inPlace := ["internal/abi.NoEscape", "internal/bytealg.IndexByteString", "internal/bytealg.IndexString"], unfollowed := true, recurses := true, named := ["unicode/utf8.first", "unicode/utf8.acceptRanges", "internal/bytealg.MaxLen"], apart := false, laid := [("unicode/utf8.acceptRanges", laid_unicode_utf8_acceptRanges), ("unicode/utf8.first", laid_unicode_utf8_first)], narrowed := true }
def DisplayShowsUptoSaid : Prop := displayShowsUptoRow.holds Tryz.pinned (OpenSpec.upto displayShowsSpec)

/-- 'captionerlaw32.DisplayOverlaps', WHERE WHAT IT READS IS OF BULK AT MOST 1048576: true; the input reads as it did. -/
def displayOverlapsUptoRow : OpenClaim := { program := "ytajbhfmdmajpmaagreatdoor", sum := "b456dff11915ddb8649e2f5b3269167febb01338524157c28f092855d9d8468b", func := "captioner/captionerlaw32.DisplayOverlaps", spec := "displayOverlaps", inPlace := ["internal/abi.NoEscape", "internal/bytealg.IndexByteString", "internal/bytealg.IndexString"], unfollowed := true, recurses := true, named := ["unicode/utf8.first", "unicode/utf8.acceptRanges", "internal/bytealg.MaxLen"], apart := false, laid := [("unicode/utf8.acceptRanges", laid_unicode_utf8_acceptRanges), ("unicode/utf8.first", laid_unicode_utf8_first)], narrowed := true }
def DisplayOverlapsUptoSaid : Prop := displayOverlapsUptoRow.holds Tryz.pinned (OpenSpec.upto displayOverlapsSpec)

/-- 'captionerlaw32.DisplayAlone', WHERE WHAT IT READS IS OF BULK AT MOST 1048576: true; the input reads as it did. -/
def displayAloneUptoRow : OpenClaim := { program := "ytajbhfmdmajpmaagreatdoor", sum := "b456dff11915ddb8649e2f5b3269167febb01338524157c28f092855d9d8468b", func := "captioner/captionerlaw32.DisplayAlone", spec := "displayAlone", inPlace := ["internal/abi.NoEscape", "internal/bytealg.IndexByteString", "internal/bytealg.IndexString"], unfollowed := true, recurses := true, named := ["unicode/utf8.first", "unicode/utf8.acceptRanges", "internal/bytealg.MaxLen"], apart := false, laid := [("unicode/utf8.acceptRanges", laid_unicode_utf8_acceptRanges), ("unicode/utf8.first", laid_unicode_utf8_first)], narrowed := true }
def DisplayAloneUptoSaid : Prop := displayAloneUptoRow.holds Tryz.pinned (OpenSpec.upto displayAloneSpec)

/-- 'captionerlaw32.DisplaySeen', WHERE WHAT IT READS IS OF BULK AT MOST 1048576: true; the input reads as it did. -/
def displaySeenUptoRow : OpenClaim := { program := "ytajbhfmdmajpmaagreatdoor", sum := "b456dff11915ddb8649e2f5b3269167febb01338524157c28f092855d9d8468b", func := "captioner/captionerlaw32.DisplaySeen", spec := "displaySeen", inPlace := ["internal/abi.NoEscape", "internal/bytealg.IndexByteString", "internal/bytealg.IndexString"], unfollowed := true, recurses := true, named := ["unicode/utf8.first", "unicode/utf8.acceptRanges", "internal/bytealg.MaxLen"], apart := false, laid := [("unicode/utf8.acceptRanges", laid_unicode_utf8_acceptRanges), ("unicode/utf8.first", laid_unicode_utf8_first)], narrowed := true }
def DisplaySeenUptoSaid : Prop := displaySeenUptoRow.holds Tryz.pinned (OpenSpec.upto displaySeenSpec)

/-- 'captionerlaw32.DisplayChecks', WHERE WHAT IT READS IS OF BULK AT MOST 1048576: true; the input reads as it did. -/
def displayChecksUptoRow : OpenClaim := { program := "ytajbhfmdmajpmaagreatdoor", sum := "b456dff11915ddb8649e2f5b3269167febb01338524157c28f092855d9d8468b", func := "captioner/captionerlaw32.DisplayChecks", spec := "displayChecks", inPlace := ["internal/abi.NoEscape", "internal/bytealg.IndexByteString", "internal/bytealg.IndexString"], unfollowed := true, recurses := true, named := ["unicode/utf8.first", "unicode/utf8.acceptRanges", "internal/bytealg.MaxLen"], apart := false, laid := [("unicode/utf8.acceptRanges", laid_unicode_utf8_acceptRanges), ("unicode/utf8.first", laid_unicode_utf8_first)], narrowed := true }
def DisplayChecksUptoSaid : Prop := displayChecksUptoRow.holds Tryz.pinned (OpenSpec.upto displayChecksSpec)

/-- 'captionerlaw32.DisplayChanges', WHERE WHAT IT READS IS OF BULK AT MOST 1048576: true; the input reads as it did. -/
def displayChangesUptoRow : OpenClaim := { program := "ytajbhfmdmajpmaagreatdoor", sum := "b456dff11915ddb8649e2f5b3269167febb01338524157c28f092855d9d8468b", func := "captioner/captionerlaw32.DisplayChanges", spec := "displayChanges", inPlace := ["internal/abi.NoEscape", "internal/bytealg.IndexByteString", "internal/bytealg.IndexString"], unfollowed := true, recurses := true, named := ["unicode/utf8.first", "unicode/utf8.acceptRanges", "internal/bytealg.MaxLen"], apart := false, laid := [("unicode/utf8.acceptRanges", laid_unicode_utf8_acceptRanges), ("unicode/utf8.first", laid_unicode_utf8_first)], narrowed := true }
def DisplayChangesUptoSaid : Prop := displayChangesUptoRow.holds Tryz.pinned (OpenSpec.upto displayChangesSpec)

/-- 'captionerlaw32.DisplayPlaces', WHERE WHAT IT READS IS OF BULK AT MOST 1048576: true; the input reads as it did. -/
def displayPlacesUptoRow : OpenClaim := { program := "ytajbhfmdmajpmaagreatdoor", sum := "b456dff11915ddb8649e2f5b3269167febb01338524157c28f092855d9d8468b", func := "captioner/captionerlaw32.DisplayPlaces", spec := "displayPlaces", inPlace := ["internal/abi.NoEscape", "internal/bytealg.IndexByteString", "internal/bytealg.IndexString"], unfollowed := true, recurses := true, named := ["unicode/utf8.first", "unicode/utf8.acceptRanges", "internal/bytealg.MaxLen"], apart := false, laid := [("unicode/utf8.acceptRanges", laid_unicode_utf8_acceptRanges), ("unicode/utf8.first", laid_unicode_utf8_first)], narrowed := true }
def DisplayPlacesUptoSaid : Prop := displayPlacesUptoRow.holds Tryz.pinned (OpenSpec.upto displayPlacesSpec)

/-- 'captionerlaw32.DisplayPlains', WHERE WHAT IT READS IS OF BULK AT MOST 1048576: true; the input reads as it did. -/
def displayPlainsUptoRow : OpenClaim := { program := "ytajbhfmdmajpmaagreatdoor", sum := "b456dff11915ddb8649e2f5b3269167febb01338524157c28f092855d9d8468b", func := "captioner/captionerlaw32.DisplayPlains", spec := "displayPlains", inPlace := ["internal/abi.NoEscape", "internal/bytealg.IndexByteString", "internal/bytealg.IndexString"], unfollowed := true, recurses := true, named := ["unicode/utf8.first", "unicode/utf8.acceptRanges", "internal/bytealg.MaxLen"], apart := false, laid := [("unicode/utf8.acceptRanges", laid_unicode_utf8_acceptRanges), ("unicode/utf8.first", laid_unicode_utf8_first)], narrowed := true }
def DisplayPlainsUptoSaid : Prop := displayPlainsUptoRow.holds Tryz.pinned (OpenSpec.upto displayPlainsSpec)

end Rows
end Go.Proofs.YtajbhfmdmajpmaaGreatDoor

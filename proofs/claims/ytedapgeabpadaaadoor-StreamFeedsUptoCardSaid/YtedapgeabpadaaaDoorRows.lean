/-
  NARROWER THAN 'FOR EVERY INPUT', by the rows' own cells (each row's printed sentence says how): StreamFeeds: laid · StreamStops: laid · StreamPieces: laid · StreamPackets: laid.
  DERIVED. THE GIVEN ROWS OF THIS SEAT. 4 by the template 'for every input the law returns true; each argument reads behind the call as it read before'; 0 by the template 'total and deterministic' (their statements: YtedapgeabpadaaaDoorTotals.lean).
  GIVEN WITH THE SEED: the statements are not yours to turn. If you find one false, say at which input.
  Laid BY PROGRAM, IN A SANDBOX (cutbox-rows.mjs): the forced cells as the released guide's own fill.sh prints them over the translation 701f263d44be8f9d… (all of the seat's roots in one cut). By AI agents, Wed Nov 11 2026. No macro, syntax, notation, axiom, sorry.
-/
import Derived.Test.YtedapgeabpadaaaDoorChecked
import GoSem.PinnedTables
import GoSem.Claim
import GoSem.ClaimJoined
import GoSem.ClaimMapViews
import Derived.JoinedTies
import Derived.KernelRfl
namespace Go.Proofs.YtedapgeabpadaaaDoor
/- THE CELL 'sum', in the pinned program and in every row, IS THE sha256 OF THE DUMP (.gsa) THAT YtedapgeabpadaaaDoorProg.lean LOADS. Nothing in Lean hashes anything: it is a label: what it is worth is what the hold of that sum in a sandbox is worth. -/
noncomputable def Tryd.pinned : Pinned := { name := "ytedapgeabpadaaadoor", sum := "701f263d44be8f9d1b242bf2e0e56ef1cff708fda039f3d3665a38d319480388", checked := Tryd.checked }
namespace Rows
def none {H : Type} : Left H := { results := [], args := [] }

/- WHAT THE LISTED PACKAGE-LEVEL VARIABLES READ AS WHEN THE CALL BEGINS. Each datum BY PROGRAM (the guide's laid-datum.mjs) off the statement by which the dump's own 'gosem.cut.vars' lays the variable. In a bare row this is a premise. The card (YtedapgeabpadaaaDoorCards.lean) ties it to the program's text. -/
def laid_unicode_utf8_acceptRanges {H : Type} : DataW H := .agg [.agg [.lit (.int .u8 128), .lit (.int .u8 191)], .agg [.lit (.int .u8 160), .lit (.int .u8 191)], .agg [.lit (.int .u8 128), .lit (.int .u8 159)], .agg [.lit (.int .u8 144), .lit (.int .u8 191)], .agg [.lit (.int .u8 128), .lit (.int .u8 143)], .agg [.lit (.int .u8 0), .lit (.int .u8 0)], .agg [.lit (.int .u8 0), .lit (.int .u8 0)], .agg [.lit (.int .u8 0), .lit (.int .u8 0)], .agg [.lit (.int .u8 0), .lit (.int .u8 0)], .agg [.lit (.int .u8 0), .lit (.int .u8 0)], .agg [.lit (.int .u8 0), .lit (.int .u8 0)], .agg [.lit (.int .u8 0), .lit (.int .u8 0)], .agg [.lit (.int .u8 0), .lit (.int .u8 0)], .agg [.lit (.int .u8 0), .lit (.int .u8 0)], .agg [.lit (.int .u8 0), .lit (.int .u8 0)], .agg [.lit (.int .u8 0), .lit (.int .u8 0)]]
/-- One of Go's own tables, pinned by name: the form's constant. -/
def laid_unicode_utf8_first : DataW Unit := Go.Pinned.utf8First

/-- 'aqueductlaw06.StreamFeeds': WHATEVER THE INPUT: true; the input reads as it did. -/
def streamFeedsSpec : ChangeSpec := { name := "streamFeeds", fn := fun _ => fun
  | [d1, d2] => { results := [.lit (.bool true)], args := [d1, d2] }
  | _ => none }
def streamFeedsRow : OpenClaim := { program := "ytedapgeabpadaaadoor", sum := "701f263d44be8f9d1b242bf2e0e56ef1cff708fda039f3d3665a38d319480388", func := "aqueduct/aqueductlaw06.StreamFeeds", spec := "streamFeeds", unfollowed := true, recurses := true, named := ["unicode/utf8.first", "unicode/utf8.acceptRanges"], apart := false, laid := [("unicode/utf8.acceptRanges", laid_unicode_utf8_acceptRanges), ("unicode/utf8.first", laid_unicode_utf8_first)] }
def StreamFeedsSaid : Prop := streamFeedsRow.holds Tryd.pinned (OpenSpec.ofChange streamFeedsSpec)

/-- ITS FALSE NEIGHBOUR: 'it returns false'. Refute it at one input. -/
def streamFeedsWrong : ChangeSpec := { name := "streamFeeds", fn := fun _ => fun
  | [d1, d2] => { results := [.lit (.bool false)], args := [d1, d2] }
  | _ => none }
def StreamFeedsWrongFalsely : Prop := streamFeedsRow.holds Tryd.pinned (OpenSpec.ofChange streamFeedsWrong)

/-- 'aqueductlaw06.StreamStops': WHATEVER THE INPUT: true; the input reads as it did. -/
def streamStopsSpec : ChangeSpec := { name := "streamStops", fn := fun _ => fun
  | [d1, d2, d3] => { results := [.lit (.bool true)], args := [d1, d2, d3] }
  | _ => none }
def streamStopsRow : OpenClaim := { program := "ytedapgeabpadaaadoor", sum := "701f263d44be8f9d1b242bf2e0e56ef1cff708fda039f3d3665a38d319480388", func := "aqueduct/aqueductlaw06.StreamStops", spec := "streamStops", unfollowed := true, recurses := true, named := ["unicode/utf8.first", "unicode/utf8.acceptRanges"], apart := false, laid := [("unicode/utf8.acceptRanges", laid_unicode_utf8_acceptRanges), ("unicode/utf8.first", laid_unicode_utf8_first)] }
def StreamStopsSaid : Prop := streamStopsRow.holds Tryd.pinned (OpenSpec.ofChange streamStopsSpec)

/-- ITS FALSE NEIGHBOUR: 'it returns false'. Refute it at one input. -/
def streamStopsWrong : ChangeSpec := { name := "streamStops", fn := fun _ => fun
  | [d1, d2, d3] => { results := [.lit (.bool false)], args := [d1, d2, d3] }
  | _ => none }
def StreamStopsWrongFalsely : Prop := streamStopsRow.holds Tryd.pinned (OpenSpec.ofChange streamStopsWrong)

/-- 'aqueductlaw06.StreamPieces': WHATEVER THE INPUT: true; the input reads as it did. -/
def streamPiecesSpec : ChangeSpec := { name := "streamPieces", fn := fun _ => fun
  | [d1, d2, d3] => { results := [.lit (.bool true)], args := [d1, d2, d3] }
  | _ => none }
def streamPiecesRow : OpenClaim := { program := "ytedapgeabpadaaadoor", sum := "701f263d44be8f9d1b242bf2e0e56ef1cff708fda039f3d3665a38d319480388", func := "aqueduct/aqueductlaw06.StreamPieces", spec := "streamPieces", inPlace := ["internal/abi.NoEscape"], unfollowed := true, recurses := true, named := ["unicode/utf8.first", "unicode/utf8.acceptRanges"], apart := false, laid := [("unicode/utf8.acceptRanges", laid_unicode_utf8_acceptRanges), ("unicode/utf8.first", laid_unicode_utf8_first)] }
def StreamPiecesSaid : Prop := streamPiecesRow.holds Tryd.pinned (OpenSpec.ofChange streamPiecesSpec)

/-- ITS FALSE NEIGHBOUR: 'it returns false'. Refute it at one input. -/
def streamPiecesWrong : ChangeSpec := { name := "streamPieces", fn := fun _ => fun
  | [d1, d2, d3] => { results := [.lit (.bool false)], args := [d1, d2, d3] }
  | _ => none }
def StreamPiecesWrongFalsely : Prop := streamPiecesRow.holds Tryd.pinned (OpenSpec.ofChange streamPiecesWrong)

/-- 'aqueductlaw06.StreamPackets': WHATEVER THE INPUT: true; the input reads as it did. -/
def streamPacketsSpec : ChangeSpec := { name := "streamPackets", fn := fun _ => fun
  | [d1, d2, d3] => { results := [.lit (.bool true)], args := [d1, d2, d3] }
  | _ => none }
def streamPacketsRow : OpenClaim := { program := "ytedapgeabpadaaadoor", sum := "701f263d44be8f9d1b242bf2e0e56ef1cff708fda039f3d3665a38d319480388", func := "aqueduct/aqueductlaw06.StreamPackets", spec := "streamPackets", inPlace := ["internal/abi.NoEscape"], unfollowed := true, recurses := true, named := ["unicode/utf8.first", "unicode/utf8.acceptRanges"], apart := false, laid := [("unicode/utf8.acceptRanges", laid_unicode_utf8_acceptRanges), ("unicode/utf8.first", laid_unicode_utf8_first)] }
def StreamPacketsSaid : Prop := streamPacketsRow.holds Tryd.pinned (OpenSpec.ofChange streamPacketsSpec)

/-- ITS FALSE NEIGHBOUR: 'it returns false'. Refute it at one input. -/
def streamPacketsWrong : ChangeSpec := { name := "streamPackets", fn := fun _ => fun
  | [d1, d2, d3] => { results := [.lit (.bool false)], args := [d1, d2, d3] }
  | _ => none }
def StreamPacketsWrongFalsely : Prop := streamPacketsRow.holds Tryd.pinned (OpenSpec.ofChange streamPacketsWrong)

/- THE SECOND FORM. 'bulk': how many values and letters a reading holds, each counted each time it is reached (what is shared counts as often as it is met; a slice's spare places count too). A statement '..UptoSaid' is the law's where the arguments, and the package variables that the reading takes, are together of bulk at most 1048576: NARROWER than '..Said'. Prove '..Said' where nothing that the law and all that it calls make is longer than what came in: it says more and counts as full. Else prove '..UptoSaid'. A law counts once. -/
mutual
def uptoBulk {H : Type} : DataW H → Nat
  | .lit (.string bytes) => bytes.length + 1
  | .lit _ => 1
  | .nil => 1
  | .ptr d => uptoBulk d + 1
  | .slice elems spare => uptoBulkAll elems + uptoBulkAll spare + 1
  | .agg parts => uptoBulkAll parts + 1
  | .iface _ d => uptoBulk d + 1
  | .map entries => uptoBulkEntries entries + 1
  | .held _ => 1
def uptoBulkAll {H : Type} : List (DataW H) → Nat
  | [] => 0
  | d :: r => uptoBulk d + uptoBulkAll r
def uptoBulkEntries {H : Type} : List (Lit × DataW H) → Nat
  | [] => 0
  | x :: r => uptoBulkEntry x + uptoBulkEntries r
def uptoBulkEntry {H : Type} : Lit × DataW H → Nat
  | (.string bytes, d) => bytes.length + uptoBulk d + 1
  | (_, d) => uptoBulk d + 1
 end
def uptoSmall : (H : Type) → List (DataW H) → Bool := fun _ ds => decide (uptoBulkAll ds ≤ 1048576)
def OpenSpec.upto (s : _root_.Go.ChangeSpec) : _root_.Go.OpenSpec := { _root_.Go.OpenSpec.ofChange s with cond := some uptoSmall }

/-- 'aqueductlaw06.StreamFeeds', WHERE WHAT IT READS IS OF BULK AT MOST 1048576: true; the input reads as it did. -/
def streamFeedsUptoRow : OpenClaim := { program := "ytedapgeabpadaaadoor", sum := "701f263d44be8f9d1b242bf2e0e56ef1cff708fda039f3d3665a38d319480388", func := "aqueduct/aqueductlaw06.StreamFeeds", spec := "streamFeeds", unfollowed := true, recurses := true, named := ["unicode/utf8.first", "unicode/utf8.acceptRanges"], apart := false, laid := [("unicode/utf8.acceptRanges", laid_unicode_utf8_acceptRanges), ("unicode/utf8.first", laid_unicode_utf8_first)], narrowed := true }
def StreamFeedsUptoSaid : Prop := streamFeedsUptoRow.holds Tryd.pinned (OpenSpec.upto streamFeedsSpec)

/-- 'aqueductlaw06.StreamStops', WHERE WHAT IT READS IS OF BULK AT MOST 1048576: true; the input reads as it did. -/
def streamStopsUptoRow : OpenClaim := { program := "ytedapgeabpadaaadoor", sum := "701f263d44be8f9d1b242bf2e0e56ef1cff708fda039f3d3665a38d319480388", func := "aqueduct/aqueductlaw06.StreamStops", spec := "streamStops", unfollowed := true, recurses := true, named := ["unicode/utf8.first", "unicode/utf8.acceptRanges"], apart := false, laid := [("unicode/utf8.acceptRanges", laid_unicode_utf8_acceptRanges), ("unicode/utf8.first", laid_unicode_utf8_first)], narrowed := true }
def StreamStopsUptoSaid : Prop := streamStopsUptoRow.holds Tryd.pinned (OpenSpec.upto streamStopsSpec)

/-- 'aqueductlaw06.StreamPieces', WHERE WHAT IT READS IS OF BULK AT MOST 1048576: true; the input reads as it did. -/
def streamPiecesUptoRow : OpenClaim := { program := "ytedapgeabpadaaadoor", sum := "701f263d44be8f9d1b242bf2e0e56ef1cff708fda039f3d3665a38d319480388", func := "aqueduct/aqueductlaw06.StreamPieces", spec := "streamPieces", inPlace := ["internal/abi.NoEscape"], unfollowed := true, recurses := true, named := ["unicode/utf8.first", "unicode/utf8.acceptRanges"], apart := false, laid := [("unicode/utf8.acceptRanges", laid_unicode_utf8_acceptRanges), ("unicode/utf8.first", laid_unicode_utf8_first)], narrowed := true }
def StreamPiecesUptoSaid : Prop := streamPiecesUptoRow.holds Tryd.pinned (OpenSpec.upto streamPiecesSpec)

/-- 'aqueductlaw06.StreamPackets', WHERE WHAT IT READS IS OF BULK AT MOST 1048576: true; the input reads as it did. -/
def streamPacketsUptoRow : OpenClaim := { program := "ytedapgeabpadaaadoor", sum := "701f263d44be8f9d1b242bf2e0e56ef1cff708fda039f3d3665a38d319480388", func := "aqueduct/aqueductlaw06.StreamPackets", spec := "streamPackets", inPlace := ["internal/abi.NoEscape"], unfollowed := true, recurses := true, named := ["unicode/utf8.first", "unicode/utf8.acceptRanges"], apart := false, laid := [("unicode/utf8.acceptRanges", laid_unicode_utf8_acceptRanges), ("unicode/utf8.first", laid_unicode_utf8_first)], narrowed := true }
def StreamPacketsUptoSaid : Prop := streamPacketsUptoRow.holds Tryd.pinned (OpenSpec.upto streamPacketsSpec)

end Rows
end Go.Proofs.YtedapgeabpadaaaDoor

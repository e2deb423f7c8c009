/-
  NARROWER THAN 'FOR EVERY INPUT', by the rows' own cells (each row's printed sentence says how): PacketPuts: laid · PacketBack: laid · PacketTwice: laid · PacketCuts: laid · PacketFlags: laid.
  DERIVED. THE GIVEN ROWS OF THIS SEAT. 5 by the template 'for every input the law returns true; each argument reads behind the call as it read before'; 0 by the template 'total and deterministic' (their statements: YtlnanenfpapfkaaDoorTotals.lean).
  GIVEN WITH THE SEED: the statements are not yours to turn. If you find one false, say at which input.
  Laid BY PROGRAM, IN A SANDBOX (cutbox-rows.mjs): the forced cells as the released guide's own fill.sh prints them over the translation 7a88dab88d501130… (all of the seat's roots in one cut). By AI agents, Wed Nov 11 2026. No macro, syntax, notation, axiom, sorry.
-/
import Derived.Test.YtlnanenfpapfkaaDoorChecked
import GoSem.PinnedTables
import GoSem.Claim
import GoSem.ClaimJoined
import GoSem.ClaimMapViews
import Derived.JoinedTies
import Derived.KernelRfl
namespace Go.Proofs.YtlnanenfpapfkaaDoor
/- THE CELL 'sum', in the pinned program and in every row, IS THE sha256 OF THE DUMP (.gsa) THAT YtlnanenfpapfkaaDoorProg.lean LOADS. Nothing in Lean hashes anything: it is a label: what it is worth is what the hold of that sum in a sandbox is worth. -/
noncomputable def Tryd.pinned : Pinned := { name := "ytlnanenfpapfkaadoor", sum := "7a88dab88d501130b7215bad2577b910bc91a716097a8c4344658efa8ecbab7c", checked := Tryd.checked }
namespace Rows
def none {H : Type} : Left H := { results := [], args := [] }

/- WHAT THE LISTED PACKAGE-LEVEL VARIABLES READ AS WHEN THE CALL BEGINS. Each datum BY PROGRAM (the guide's laid-datum.mjs) off the statement by which the dump's own 'gosem.cut.vars' lays the variable. In a bare row this is a premise. The card (YtlnanenfpapfkaaDoorCards.lean) ties it to the program's text. -/
def laid_unicode_utf8_acceptRanges {H : Type} : DataW H := .agg [.agg [.lit (.int .u8 128), .lit (.int .u8 191)], .agg [.lit (.int .u8 160), .lit (.int .u8 191)], .agg [.lit (.int .u8 128), .lit (.int .u8 159)], .agg [.lit (.int .u8 144), .lit (.int .u8 191)], .agg [.lit (.int .u8 128), .lit (.int .u8 143)], .agg [.lit (.int .u8 0), .lit (.int .u8 0)], .agg [.lit (.int .u8 0), .lit (.int .u8 0)], .agg [.lit (.int .u8 0), .lit (.int .u8 0)], .agg [.lit (.int .u8 0), .lit (.int .u8 0)], .agg [.lit (.int .u8 0), .lit (.int .u8 0)], .agg [.lit (.int .u8 0), .lit (.int .u8 0)], .agg [.lit (.int .u8 0), .lit (.int .u8 0)], .agg [.lit (.int .u8 0), .lit (.int .u8 0)], .agg [.lit (.int .u8 0), .lit (.int .u8 0)], .agg [.lit (.int .u8 0), .lit (.int .u8 0)], .agg [.lit (.int .u8 0), .lit (.int .u8 0)]]
/-- One of Go's own tables, pinned by name: the form's constant. -/
def laid_unicode_utf8_first : DataW Unit := Go.Pinned.utf8First

/-- 'aqueductlaw05.PacketPuts': WHATEVER THE INPUT: true; the input reads as it did. -/
def packetPutsSpec : ChangeSpec := { name := "packetPuts", fn := fun _ => fun
  | [d] => { results := [.lit (.bool true)], args := [d] }
  | _ => none }
def packetPutsRow : OpenClaim := { program := "ytlnanenfpapfkaadoor", sum := "7a88dab88d501130b7215bad2577b910bc91a716097a8c4344658efa8ecbab7c", func := "aqueduct/aqueductlaw05.PacketPuts", spec := "packetPuts", inPlace := ["internal/abi.NoEscape"], unfollowed := true, recurses := true, named := ["unicode/utf8.first", "unicode/utf8.acceptRanges"], apart := false, laid := [("unicode/utf8.acceptRanges", laid_unicode_utf8_acceptRanges), ("unicode/utf8.first", laid_unicode_utf8_first)] }
def PacketPutsSaid : Prop := packetPutsRow.holds Tryd.pinned (OpenSpec.ofChange packetPutsSpec)

/-- ITS FALSE NEIGHBOUR: 'it returns false'. Refute it at one input. -/
def packetPutsWrong : ChangeSpec := { name := "packetPuts", fn := fun _ => fun
  | [d] => { results := [.lit (.bool false)], args := [d] }
  | _ => none }
def PacketPutsWrongFalsely : Prop := packetPutsRow.holds Tryd.pinned (OpenSpec.ofChange packetPutsWrong)

/-- 'aqueductlaw05.PacketBack': WHATEVER THE INPUT: true; the input reads as it did. -/
def packetBackSpec : ChangeSpec := { name := "packetBack", fn := fun _ => fun
  | [d] => { results := [.lit (.bool true)], args := [d] }
  | _ => none }
def packetBackRow : OpenClaim := { program := "ytlnanenfpapfkaadoor", sum := "7a88dab88d501130b7215bad2577b910bc91a716097a8c4344658efa8ecbab7c", func := "aqueduct/aqueductlaw05.PacketBack", spec := "packetBack", inPlace := ["internal/abi.NoEscape"], unfollowed := true, recurses := true, named := ["unicode/utf8.first", "unicode/utf8.acceptRanges"], apart := false, laid := [("unicode/utf8.acceptRanges", laid_unicode_utf8_acceptRanges), ("unicode/utf8.first", laid_unicode_utf8_first)] }
def PacketBackSaid : Prop := packetBackRow.holds Tryd.pinned (OpenSpec.ofChange packetBackSpec)

/-- ITS FALSE NEIGHBOUR: 'it returns false'. Refute it at one input. -/
def packetBackWrong : ChangeSpec := { name := "packetBack", fn := fun _ => fun
  | [d] => { results := [.lit (.bool false)], args := [d] }
  | _ => none }
def PacketBackWrongFalsely : Prop := packetBackRow.holds Tryd.pinned (OpenSpec.ofChange packetBackWrong)

/-- 'aqueductlaw05.PacketTwice': WHATEVER THE INPUT: true; the input reads as it did. -/
def packetTwiceSpec : ChangeSpec := { name := "packetTwice", fn := fun _ => fun
  | [d] => { results := [.lit (.bool true)], args := [d] }
  | _ => none }
def packetTwiceRow : OpenClaim := { program := "ytlnanenfpapfkaadoor", sum := "7a88dab88d501130b7215bad2577b910bc91a716097a8c4344658efa8ecbab7c", func := "aqueduct/aqueductlaw05.PacketTwice", spec := "packetTwice", inPlace := ["internal/abi.NoEscape"], unfollowed := true, recurses := true, named := ["unicode/utf8.first", "unicode/utf8.acceptRanges"], apart := false, laid := [("unicode/utf8.acceptRanges", laid_unicode_utf8_acceptRanges), ("unicode/utf8.first", laid_unicode_utf8_first)] }
def PacketTwiceSaid : Prop := packetTwiceRow.holds Tryd.pinned (OpenSpec.ofChange packetTwiceSpec)

/-- ITS FALSE NEIGHBOUR: 'it returns false'. Refute it at one input. -/
def packetTwiceWrong : ChangeSpec := { name := "packetTwice", fn := fun _ => fun
  | [d] => { results := [.lit (.bool false)], args := [d] }
  | _ => none }
def PacketTwiceWrongFalsely : Prop := packetTwiceRow.holds Tryd.pinned (OpenSpec.ofChange packetTwiceWrong)

/-- 'aqueductlaw05.PacketCuts': WHATEVER THE INPUT: true; the input reads as it did. -/
def packetCutsSpec : ChangeSpec := { name := "packetCuts", fn := fun _ => fun
  | [d1, d2, d3] => { results := [.lit (.bool true)], args := [d1, d2, d3] }
  | _ => none }
def packetCutsRow : OpenClaim := { program := "ytlnanenfpapfkaadoor", sum := "7a88dab88d501130b7215bad2577b910bc91a716097a8c4344658efa8ecbab7c", func := "aqueduct/aqueductlaw05.PacketCuts", spec := "packetCuts", inPlace := ["internal/abi.NoEscape"], unfollowed := true, recurses := true, named := ["unicode/utf8.first", "unicode/utf8.acceptRanges"], apart := false, laid := [("unicode/utf8.acceptRanges", laid_unicode_utf8_acceptRanges), ("unicode/utf8.first", laid_unicode_utf8_first)] }
def PacketCutsSaid : Prop := packetCutsRow.holds Tryd.pinned (OpenSpec.ofChange packetCutsSpec)

/-- ITS FALSE NEIGHBOUR: 'it returns false'. Refute it at one input. -/
def packetCutsWrong : ChangeSpec := { name := "packetCuts", fn := fun _ => fun
  | [d1, d2, d3] => { results := [.lit (.bool false)], args := [d1, d2, d3] }
  | _ => none }
def PacketCutsWrongFalsely : Prop := packetCutsRow.holds Tryd.pinned (OpenSpec.ofChange packetCutsWrong)

/-- 'aqueductlaw05.PacketFlags': WHATEVER THE INPUT: true; the input reads as it did. -/
def packetFlagsSpec : ChangeSpec := { name := "packetFlags", fn := fun _ => fun
  | [d1, d2] => { results := [.lit (.bool true)], args := [d1, d2] }
  | _ => none }
def packetFlagsRow : OpenClaim := { program := "ytlnanenfpapfkaadoor", sum := "7a88dab88d501130b7215bad2577b910bc91a716097a8c4344658efa8ecbab7c", func := "aqueduct/aqueductlaw05.PacketFlags", spec := "packetFlags", inPlace := ["internal/abi.NoEscape"], unfollowed := true, recurses := true, named := ["unicode/utf8.first", "unicode/utf8.acceptRanges"], apart := false, laid := [("unicode/utf8.acceptRanges", laid_unicode_utf8_acceptRanges), ("unicode/utf8.first", laid_unicode_utf8_first)] }
def PacketFlagsSaid : Prop := packetFlagsRow.holds Tryd.pinned (OpenSpec.ofChange packetFlagsSpec)

/-- ITS FALSE NEIGHBOUR: 'it returns false'. Refute it at one input. -/
def packetFlagsWrong : ChangeSpec := { name := "packetFlags", fn := fun _ => fun
  | [d1, d2] => { results := [.lit (.bool false)], args := [d1, d2] }
  | _ => none }
def PacketFlagsWrongFalsely : Prop := packetFlagsRow.holds Tryd.pinned (OpenSpec.ofChange packetFlagsWrong)

/- THE SECOND FORM. 'bulk': how many values and letters a reading holds, each counted each time it is reached (what is shared counts as often as it is met; a slice's spare places count too). A statement '..UptoSaid' is the law's where the arguments, and the package variables that the reading takes, are together of bulk at most 1048576: NARROWER than '..Said'. Prove '..Said' where nothing that the law and all that it calls make is longer than what came in: it says more and counts as full. Else prove '..UptoSaid'. A law counts once. -/
mutual
def uptoBulk {H : Type} : DataW H → Nat
  | .lit (.string bytes) => bytes.length + 1
  | .lit _ => 1
  | .nil => 1
  | .ptr d => uptoBulk d + 1
  | .slice elems spare => uptoBulkAll elems + uptoBulkAll spare + 1
  | .agg parts => uptoBulkAll parts + 1
  | .iface _ d => uptoBulk d + 1
  | .map entries => uptoBulkEntries entries + 1
  | .held _ => 1
def uptoBulkAll {H : Type} : List (DataW H) → Nat
  | [] => 0
  | d :: r => uptoBulk d + uptoBulkAll r
def uptoBulkEntries {H : Type} : List (Lit × DataW H) → Nat
  | [] => 0
  | x :: r => uptoBulkEntry x + uptoBulkEntries r
def uptoBulkEntry {H : Type} : Lit × DataW H → Nat
  | (.string bytes, d) => bytes.length + uptoBulk d + 1
  | (_, d) => uptoBulk d + 1
 end
def uptoSmall : (H : Type) → List (DataW H) → Bool := fun _ ds => decide (uptoBulkAll ds ≤ 1048576)
def OpenSpec.upto (s : _root_.Go.ChangeSpec) : _root_.Go.OpenSpec := { _root_.Go.OpenSpec.ofChange s with cond := some uptoSmall }

/-- 'aqueductlaw05.PacketPuts', WHERE WHAT IT READS IS OF BULK AT MOST 1048576: true; the input reads as it did. -/
def packetPutsUptoRow : OpenClaim := { program := "ytlnanenfpapfkaadoor", sum := "7a88dab88d501130b7215bad2577b910bc91a716097a8c4344658efa8ecbab7c", func := "aqueduct/aqueductlaw05.PacketPuts", spec := "packetPuts", inPlace := ["internal/abi.NoEscape"], unfollowed := true, recurses := true, named := ["unicode/utf8.first", "unicode/utf8.acceptRanges"], apart := false, laid := [("unicode/utf8.acceptRanges", laid_unicode_utf8_acceptRanges), ("unicode/utf8.first", laid_unicode_utf8_first)], narrowed := true }
def PacketPutsUptoSaid : Prop := packetPutsUptoRow.holds Tryd.pinned (OpenSpec.upto packetPutsSpec)

/-- 'aqueductlaw05.PacketBack', WHERE WHAT IT READS IS OF BULK AT MOST 1048576: true; the input reads as it did. -/
def packetBackUptoRow : OpenClaim := { program := "ytlnanenfpapfkaadoor", sum := "7a88dab88d501130b7215bad2577b910bc91a716097a8c4344658efa8ecbab7c", func := "aqueduct/aqueductlaw05.PacketBack", spec := "packetBack", inPlace := ["internal/abi.NoEscape"], unfollowed := true, recurses := true, named := ["unicode/utf8.first", "unicode/utf8.acceptRanges"], apart := false, laid := [("unicode/utf8.acceptRanges", laid_unicode_utf8_acceptRanges), ("unicode/utf8.first", laid_unicode_utf8_first)], narrowed := true }
def PacketBackUptoSaid : Prop := packetBackUptoRow.holds Tryd.pinned (OpenSpec.upto packetBackSpec)

/-- 'aqueductlaw05.PacketTwice', WHERE WHAT IT READS IS OF BULK AT MOST 1048576: true; the input reads as it did. -/
def packetTwiceUptoRow : OpenClaim := { program := "ytlnanenfpapfkaadoor", sum := "7a88dab88d501130b7215bad2577b910bc91a716097a8c4344658efa8ecbab7c", func := "aqueduct/aqueductlaw05.PacketTwice", spec := "packetTwice", inPlace := ["internal/abi.NoEscape"], unfollowed := true, recurses := true, named := ["unicode/utf8.first", "unicode/utf8.acceptRanges"], apart := false, laid := [("unicode/utf8.acceptRanges", laid_unicode_utf8_acceptRanges), ("unicode/utf8.first", laid_unicode_utf8_first)], narrowed := true }
def PacketTwiceUptoSaid : Prop := packetTwiceUptoRow.holds Tryd.pinned (OpenSpec.upto packetTwiceSpec)

/-- 'aqueductlaw05.PacketCuts', WHERE WHAT IT READS IS OF BULK AT MOST 1048576: true; the input reads as it did. -/
def packetCutsUptoRow : OpenClaim := { program := "ytlnanenfpapfkaadoor", sum := "7a88dab88d501130b7215bad2577b910bc91a716097a8c4344658efa8ecbab7c", func := "aqueduct/aqueductlaw05.PacketCuts", spec := "packetCuts", inPlace := ["internal/abi.NoEscape"], unfollowed := true, recurses := true, named := ["unicode/utf8.first", "unicode/utf8.acceptRanges"], apart := false, laid := [("unicode/utf8.acceptRanges", laid_unicode_utf8_acceptRanges), ("unicode/utf8.first", laid_unicode_utf8_first)], narrowed := true }
def PacketCutsUptoSaid : Prop := packetCutsUptoRow.holds Tryd.pinned (OpenSpec.upto packetCutsSpec)

/-- 'aqueductlaw05.PacketFlags', WHERE WHAT IT READS IS OF BULK AT MOST 1048576: true; the input reads as it did. -/
def packetFlagsUptoRow : OpenClaim := { program := "ytlnanenfpapfkaadoor", sum := "7a88dab88d501130b7215bad2577b910bc91a716097a8c4344658efa8ecbab7c", func := "aqueduct/aqueductlaw05.PacketFlags", spec := "packetFlags", inPlace := ["internal/abi.NoEscape"], unfollowed := true, recurses := true, named := ["unicode/utf8.first", "unicode/utf8.acceptRanges"], apart := false, laid := [("unicode/utf8.acceptRanges", laid_unicode_utf8_acceptRanges), ("unicode/utf8.first", laid_unicode_utf8_first)], narrowed := true }
def PacketFlagsUptoSaid : Prop := packetFlagsUptoRow.holds Tryd.pinned (OpenSpec.upto packetFlagsSpec)

end Rows
end Go.Proofs.YtlnanenfpapfkaaDoor

/-
  NARROWER THAN 'FOR EVERY INPUT', by the rows' own cells (each row's printed sentence says how): RemapChecks: laid · RemapHops: laid · RemapRows: laid · RemapTurns: laid · RemapBack: laid · RemapRoutes: laid.
  DERIVED. THE GIVEN ROWS OF THIS SEAT. 6 by the template 'for every input the law returns true; each argument reads behind the call as it read before'; 0 by the template 'total and deterministic' (their statements: YtdjiioidkgppjaaDoorTotals.lean).
  GIVEN WITH THE SEED: the statements are not yours to turn. If you find one false, say at which input.
  Laid BY PROGRAM, IN A SANDBOX (cutbox-rows.mjs): the forced cells as the released guide's own fill.sh prints them over the translation 2fb2268a6f4a37e4… (all of the seat's roots in one cut). By AI agents, Wed Nov 11 2026. No macro, syntax, notation, axiom, sorry.
-/
import Derived.Test.YtdjiioidkgppjaaDoorChecked
import GoSem.PinnedTables
import GoSem.Claim
import GoSem.ClaimJoined
import GoSem.ClaimMapViews
import Derived.JoinedTies
import Derived.KernelRfl
namespace Go.Proofs.YtdjiioidkgppjaaDoor
/- THE CELL 'sum', in the pinned program and in every row, IS THE sha256 OF THE DUMP (.gsa) THAT YtdjiioidkgppjaaDoorProg.lean LOADS. Nothing in Lean hashes anything: it is a label: what it is worth is what the hold of that sum in a sandbox is worth. -/
noncomputable def Tryd.pinned : Pinned := { name := "ytdjiioidkgppjaadoor", sum := "2fb2268a6f4a37e447f40cdeba2ecd3c4ee8a969a81c9c3cb2fd2eac6444d5a1", checked := Tryd.checked }
namespace Rows
def none {H : Type} : Left H := { results := [], args := [] }

/- WHAT THE LISTED PACKAGE-LEVEL VARIABLES READ AS WHEN THE CALL BEGINS. Each datum BY PROGRAM (the guide's laid-datum.mjs) off the statement by which the dump's own 'gosem.cut.vars' lays the variable. In a bare row this is a premise. The card (YtdjiioidkgppjaaDoorCards.lean) ties it to the program's text. -/
def laid_unicode_utf8_acceptRanges {H : Type} : DataW H := .agg [.agg [.lit (.int .u8 128), .lit (.int .u8 191)], .agg [.lit (.int .u8 160), .lit (.int .u8 191)], .agg [.lit (.int .u8 128), .lit (.int .u8 159)], .agg [.lit (.int .u8 144), .lit (.int .u8 191)], .agg [.lit (.int .u8 128), .lit (.int .u8 143)], .agg [.lit (.int .u8 0), .lit (.int .u8 0)], .agg [.lit (.int .u8 0), .lit (.int .u8 0)], .agg [.lit (.int .u8 0), .lit (.int .u8 0)], .agg [.lit (.int .u8 0), .lit (.int .u8 0)], .agg [.lit (.int .u8 0), .lit (.int .u8 0)], .agg [.lit (.int .u8 0), .lit (.int .u8 0)], .agg [.lit (.int .u8 0), .lit (.int .u8 0)], .agg [.lit (.int .u8 0), .lit (.int .u8 0)], .agg [.lit (.int .u8 0), .lit (.int .u8 0)], .agg [.lit (.int .u8 0), .lit (.int .u8 0)], .agg [.lit (.int .u8 0), .lit (.int .u8 0)]]
/-- One of Go's own tables, pinned by name: the form's constant. -/
def laid_unicode_utf8_first : DataW Unit := Go.Pinned.utf8First

/-- 'aqueductlaw10.RemapChecks': WHATEVER THE INPUT: true; the input reads as it did. -/
def remapChecksSpec : ChangeSpec := { name := "remapChecks", fn := fun _ => fun
  | [d] => { results := [.lit (.bool true)], args := [d] }
  | _ => none }
def remapChecksRow : OpenClaim := { program := "ytdjiioidkgppjaadoor", sum := "2fb2268a6f4a37e447f40cdeba2ecd3c4ee8a969a81c9c3cb2fd2eac6444d5a1", func := "aqueduct/aqueductlaw10.RemapChecks", spec := "remapChecks", inPlace := ["internal/bytealg.CountString", "internal/bytealg.IndexByteString", "internal/bytealg.IndexString"], unfollowed := true, recurses := true, named := ["unicode/utf8.first", "unicode/utf8.acceptRanges", "internal/bytealg.MaxLen"], apart := false, laid := [("unicode/utf8.acceptRanges", laid_unicode_utf8_acceptRanges), ("unicode/utf8.first", laid_unicode_utf8_first)] }
def RemapChecksSaid : Prop := remapChecksRow.holds Tryd.pinned (OpenSpec.ofChange remapChecksSpec)

/-- ITS FALSE NEIGHBOUR: 'it returns false'. Refute it at one input. -/
def remapChecksWrong : ChangeSpec := { name := "remapChecks", fn := fun _ => fun
  | [d] => { results := [.lit (.bool false)], args := [d] }
  | _ => none }
def RemapChecksWrongFalsely : Prop := remapChecksRow.holds Tryd.pinned (OpenSpec.ofChange remapChecksWrong)

/-- 'aqueductlaw10.RemapHops': WHATEVER THE INPUT: true; the input reads as it did. -/
def remapHopsSpec : ChangeSpec := { name := "remapHops", fn := fun _ => fun
  | [d1, d2, d3] => { results := [.lit (.bool true)], args := [d1, d2, d3] }
  | _ => none }
def remapHopsRow : OpenClaim := { program := "ytdjiioidkgppjaadoor", sum := "2fb2268a6f4a37e447f40cdeba2ecd3c4ee8a969a81c9c3cb2fd2eac6444d5a1", func := "aqueduct/aqueductlaw10.RemapHops", spec := "remapHops", inPlace := ["internal/bytealg.CountString", "internal/bytealg.IndexByteString", "internal/bytealg.IndexString"], unfollowed := true, recurses := true, named := ["unicode/utf8.first", "unicode/utf8.acceptRanges", "internal/bytealg.MaxLen"], apart := false, laid := [("unicode/utf8.acceptRanges", laid_unicode_utf8_acceptRanges), ("unicode/utf8.first", laid_unicode_utf8_first)] }
def RemapHopsSaid : Prop := remapHopsRow.holds Tryd.pinned (OpenSpec.ofChange remapHopsSpec)

/-- ITS FALSE NEIGHBOUR: 'it returns false'. Refute it at one input. -/
def remapHopsWrong : ChangeSpec := { name := "remapHops", fn := fun _ => fun
  | [d1, d2, d3] => { results := [.lit (.bool false)], args := [d1, d2, d3] }
  | _ => none }
def RemapHopsWrongFalsely : Prop := remapHopsRow.holds Tryd.pinned (OpenSpec.ofChange remapHopsWrong)

/-- 'aqueductlaw10.RemapRows': WHATEVER THE INPUT: true; the input reads as it did. -/
def remapRowsSpec : ChangeSpec := { name := "remapRows", fn := fun _ => fun
  | [d1, d2, d3] => { results := [.lit (.bool true)], args := [d1, d2, d3] }
  | _ => none }
def remapRowsRow : OpenClaim := { program := "ytdjiioidkgppjaadoor", sum := "2fb2268a6f4a37e447f40cdeba2ecd3c4ee8a969a81c9c3cb2fd2eac6444d5a1", func := "aqueduct/aqueductlaw10.RemapRows", spec := "remapRows", inPlace := ["internal/bytealg.CountString", "internal/bytealg.IndexByteString", "internal/bytealg.IndexString"], unfollowed := true, recurses := true, named := ["unicode/utf8.first", "unicode/utf8.acceptRanges", "internal/bytealg.MaxLen"], apart := false, laid := [("unicode/utf8.acceptRanges", laid_unicode_utf8_acceptRanges), ("unicode/utf8.first", laid_unicode_utf8_first)] }
def RemapRowsSaid : Prop := remapRowsRow.holds Tryd.pinned (OpenSpec.ofChange remapRowsSpec)

/-- ITS FALSE NEIGHBOUR: 'it returns false'. Refute it at one input. -/
def remapRowsWrong : ChangeSpec := { name := "remapRows", fn := fun _ => fun
  | [d1, d2, d3] => { results := [.lit (.bool false)], args := [d1, d2, d3] }
  | _ => none }
def RemapRowsWrongFalsely : Prop := remapRowsRow.holds Tryd.pinned (OpenSpec.ofChange remapRowsWrong)

/-- 'aqueductlaw10.RemapTurns': WHATEVER THE INPUT: true; the input reads as it did. -/
def remapTurnsSpec : ChangeSpec := { name := "remapTurns", fn := fun _ => fun
  | [d1, d2] => { results := [.lit (.bool true)], args := [d1, d2] }
  | _ => none }
def remapTurnsRow : OpenClaim := { program := "ytdjiioidkgppjaadoor", sum := "2fb2268a6f4a37e447f40cdeba2ecd3c4ee8a969a81c9c3cb2fd2eac6444d5a1", func := "aqueduct/aqueductlaw10.RemapTurns", spec := "remapTurns", inPlace := ["internal/bytealg.CountString", "internal/bytealg.IndexByteString", "internal/bytealg.IndexString"], unfollowed := true, recurses := true, named := ["unicode/utf8.first", "unicode/utf8.acceptRanges", "internal/bytealg.MaxLen"], apart := false, laid := [("unicode/utf8.acceptRanges", laid_unicode_utf8_acceptRanges), ("unicode/utf8.first", laid_unicode_utf8_first)] }
def RemapTurnsSaid : Prop := remapTurnsRow.holds Tryd.pinned (OpenSpec.ofChange remapTurnsSpec)

/-- ITS FALSE NEIGHBOUR: 'it returns false'. Refute it at one input. -/
def remapTurnsWrong : ChangeSpec := { name := "remapTurns", fn := fun _ => fun
  | [d1, d2] => { results := [.lit (.bool false)], args := [d1, d2] }
  | _ => none }
def RemapTurnsWrongFalsely : Prop := remapTurnsRow.holds Tryd.pinned (OpenSpec.ofChange remapTurnsWrong)

/-- 'aqueductlaw10.RemapBack': WHATEVER THE INPUT: true; the input reads as it did. -/
def remapBackSpec : ChangeSpec := { name := "remapBack", fn := fun _ => fun
  | [d1, d2] => { results := [.lit (.bool true)], args := [d1, d2] }
  | _ => none }
def remapBackRow : OpenClaim := { program := "ytdjiioidkgppjaadoor", sum := "2fb2268a6f4a37e447f40cdeba2ecd3c4ee8a969a81c9c3cb2fd2eac6444d5a1", func := "aqueduct/aqueductlaw10.RemapBack", spec := "remapBack", inPlace := ["internal/bytealg.CountString", "internal/bytealg.IndexByteString", "internal/bytealg.IndexString"], unfollowed := true, recurses := true, named := ["unicode/utf8.first", "unicode/utf8.acceptRanges", "internal/bytealg.MaxLen"], apart := false, laid := [("unicode/utf8.acceptRanges", laid_unicode_utf8_acceptRanges), ("unicode/utf8.first", laid_unicode_utf8_first)] }
def RemapBackSaid : Prop := remapBackRow.holds Tryd.pinned (OpenSpec.ofChange remapBackSpec)

/-- ITS FALSE NEIGHBOUR: 'it returns false'. Refute it at one input. -/
def remapBackWrong : ChangeSpec := { name := "remapBack", fn := fun _ => fun
  | [d1, d2] => { results := [.lit (.bool false)], args := [d1, d2] }
  | _ => none }
def RemapBackWrongFalsely : Prop := remapBackRow.holds Tryd.pinned (OpenSpec.ofChange remapBackWrong)

/-- 'aqueductlaw10.RemapRoutes': WHATEVER THE INPUT: true; the input reads as it did. -/
def remapRoutesSpec : ChangeSpec := { name := "remapRoutes", fn := fun _ => fun
  | [d1, d2, d3] => { results := [.lit (.bool true)], args := [d1, d2, d3] }
  | _ => none }
def remapRoutesRow : OpenClaim := { program := "ytdjiioidkgppjaadoor", sum := "2fb2268a6f4a37e447f40cdeba2ecd3c4ee8a969a81c9c3cb2fd2eac6444d5a1", func := "aqueduct/aqueductlaw10.RemapRoutes", spec := "remapRoutes", inPlace := ["internal/bytealg.CountString", "internal/bytealg.IndexByteString", "internal/bytealg.IndexString"], unfollowed := true, recurses := true, named := ["unicode/utf8.first", "unicode/utf8.acceptRanges", "internal/bytealg.MaxLen"], apart := false, laid := [("unicode/utf8.acceptRanges", laid_unicode_utf8_acceptRanges), ("unicode/utf8.first", laid_unicode_utf8_first)] }
def RemapRoutesSaid : Prop := remapRoutesRow.holds Tryd.pinned (OpenSpec.ofChange remapRoutesSpec)

/-- ITS FALSE NEIGHBOUR: 'it returns false'. Refute it at one input. -/
def remapRoutesWrong : ChangeSpec := { name := "remapRoutes", fn := fun _ => fun
  | [d1, d2, d3] => { results := [.lit (.bool false)], args := [d1, d2, d3] }
  | _ => none }
def RemapRoutesWrongFalsely : Prop := remapRoutesRow.holds Tryd.pinned (OpenSpec.ofChange remapRoutesWrong)

/- THE SECOND FORM. 'bulk': how many values and letters a reading holds, each counted each time it is reached (what is shared counts as often as it is met; a slice's spare places count too). A statement '..UptoSaid' is the law's where the arguments, and the package variables that the reading takes, are together of bulk at most 1048576: NARROWER than '..Said'. Prove '..Said' where nothing that the law and all that it calls make is longer than what came in: it says more and counts as full. Else prove '..UptoSaid'. A law counts once. -/
mutual
def uptoBulk {H : Type} : DataW H → Nat
  | .lit (.string bytes) => bytes.length + 1
  | .lit _ => 1
  | .nil => 1
  | .ptr d => uptoBulk d + 1
  | .slice elems spare => uptoBulkAll elems + uptoBulkAll spare + 1
  | .agg parts => uptoBulkAll parts + 1
  | .iface _ d => uptoBulk d + 1
  | .map entries => uptoBulkEntries entries + 1
  | .held _ => 1
def uptoBulkAll {H : Type} : List (DataW H) → Nat
  | [] => 0
  | d :: r => uptoBulk d + uptoBulkAll r
def uptoBulkEntries {H : Type} : List (Lit × DataW H) → Nat
  | [] => 0
  | x :: r => uptoBulkEntry x + uptoBulkEntries r
def uptoBulkEntry {H : Type} : Lit × DataW H → Nat
  | (.string bytes, d) => bytes.length + uptoBulk d + 1
  | (_, d) => uptoBulk d + 1
 end
def uptoSmall : (H : Type) → List (DataW H) → Bool := fun _ ds => decide (uptoBulkAll ds ≤ 1048576)
def OpenSpec.upto (s : _root_.Go.ChangeSpec) : _root_.Go.OpenSpec := { _root_.Go.OpenSpec.ofChange s with cond := some uptoSmall }

/-- 'aqueductlaw10.RemapChecks', WHERE WHAT IT READS IS OF BULK AT MOST 1048576: true; the input reads as it did. -/
def remapChecksUptoRow : OpenClaim := { program := "ytdjiioidkgppjaadoor", sum := "2fb2268a6f4a37e447f40cdeba2ecd3c4ee8a969a81c9c3cb2fd2eac6444d5a1", func := "aqueduct/aqueductlaw10.RemapChecks", spec := "remapChecks", inPlace := ["internal/bytealg.CountString", "internal/bytealg.IndexByteString", "internal/bytealg.IndexString"], unfollowed := true, recurses := true, named := ["unicode/utf8.first", "unicode/utf8.acceptRanges", "internal/bytealg.MaxLen"], apart := false, laid := [("unicode/utf8.acceptRanges", laid_unicode_utf8_acceptRanges), ("unicode/utf8.first", laid_unicode_utf8_first)], narrowed := true }
def RemapChecksUptoSaid : Prop := remapChecksUptoRow.holds Tryd.pinned (OpenSpec.upto remapChecksSpec)

/-- 'aqueductlaw10.RemapHops', WHERE WHAT IT READS IS OF BULK AT MOST 1048576: true; the input reads as it did. -/
def remapHopsUptoRow : OpenClaim := { program := "ytdjiioidkgppjaadoor", sum := "2fb2268a6f4a37e447f40cdeba2ecd3c4ee8a969a81c9c3cb2fd2eac6444d5a1", func := "aqueduct/aqueductlaw10.RemapHops", spec := "remapHops", inPlace := ["internal/bytealg.CountString", "internal/bytealg.IndexByteString", "internal/bytealg.IndexString"], unfollowed := true, recurses := true, named := ["unicode/utf8.first", "unicode/utf8.acceptRanges", "internal/bytealg.MaxLen"], apart := false, laid := [("unicode/utf8.acceptRanges", laid_unicode_utf8_acceptRanges), ("unicode/utf8.first", laid_unicode_utf8_first)], narrowed := true }
def RemapHopsUptoSaid : Prop := remapHopsUptoRow.holds Tryd.pinned (OpenSpec.upto remapHopsSpec)

/-- 'aqueductlaw10.RemapRows', WHERE WHAT IT READS IS OF BULK AT MOST 1048576: true; the input reads as it did. -/
def remapRowsUptoRow : OpenClaim := { program := "ytdjiioidkgppjaadoor", sum := "2fb2268a6f4a37e447f40cdeba2ecd3c4ee8a969a81c9c3cb2fd2eac6444d5a1", func := "aqueduct/aqueductlaw10.RemapRows", spec := "remapRows", inPlace := ["internal/bytealg.CountString", "internal/bytealg.IndexByteString", "internal/bytealg.IndexString"], unfollowed := true, recurses := true, named := ["unicode/utf8.first", "unicode/utf8.acceptRanges", "internal/bytealg.MaxLen"], apart := false, laid := [("unicode/utf8.acceptRanges", laid_unicode_utf8_acceptRanges), ("unicode/utf8.first", laid_unicode_utf8_first)], narrowed := true }
def RemapRowsUptoSaid : Prop := remapRowsUptoRow.holds Tryd.pinned (OpenSpec.upto remapRowsSpec)

/-- 'aqueductlaw10.RemapTurns', WHERE WHAT IT READS IS OF BULK AT MOST 1048576: true; the input reads as it did. -/
def remapTurnsUptoRow : OpenClaim := { program := "ytdjiioidkgppjaadoor", sum := "2fb2268a6f4a37e447f40cdeba2ecd3c4ee8a969a81c9c3cb2fd2eac6444d5a1", func := "aqueduct/aqueductlaw10.RemapTurns", spec := "remapTurns", inPlace := ["internal/bytealg.CountString", "internal/bytealg.IndexByteString", "internal/bytealg.IndexString"], unfollowed := true, recurses := true, named := ["unicode/utf8.first", "unicode/utf8.acceptRanges", "internal/bytealg.MaxLen"], apart := false, laid := [("unicode/utf8.acceptRanges", laid_unicode_utf8_acceptRanges), ("unicode/utf8.first", laid_unicode_utf8_first)], narrowed := true }
def RemapTurnsUptoSaid : Prop := remapTurnsUptoRow.holds Tryd.pinned (OpenSpec.upto remapTurnsSpec)

/-- 'aqueductlaw10.RemapBack', WHERE WHAT IT READS IS OF BULK AT MOST 1048576: true; the input reads as it did. -/
def remapBackUptoRow : OpenClaim := { program := "ytdjiioidkgppjaadoor", sum := "2fb2268a6f4a37e447f40cdeba2ecd3c4ee8a969a81c9c3cb2fd2eac6444d5a1", func := "aqueduct/aqueductlaw10.RemapBack", spec := "remapBack", inPlace := ["internal/bytealg.CountString", "internal/bytealg.IndexByteString", "internal/bytealg.IndexString"], unfollowed := true, recurses := true, named := ["unicode/utf8.first", "unicode/utf8.acceptRanges", "internal/bytealg.MaxLen"], apart := false, laid := [("unicode/utf8.acceptRanges", laid_unicode_utf8_acceptRanges), ("unicode/utf8.first", laid_unicode_utf8_first)], narrowed := true }
def RemapBackUptoSaid : Prop := remapBackUptoRow.holds Tryd.pinned (OpenSpec.upto remapBackSpec)

/-- 'aqueductlaw10.RemapRoutes', WHERE WHAT IT READS IS OF BULK AT MOST 1048576: true; the input reads as it did. -/
def remapRoutesUptoRow : OpenClaim := { program := "ytdjiioidkgppjaadoor", sum := "2fb2268a6f4a37e447f40cdeba2ecd3c4ee8a969a81c9c3cb2fd2eac6444d5a1", func := "aqueduct/aqueductlaw10.RemapRoutes", spec := "remapRoutes", inPlace := ["internal/bytealg.CountString", "internal/bytealg.IndexByteString", "internal/bytealg.IndexString"], unfollowed := true, recurses := true, named := ["unicode/utf8.first", "unicode/utf8.acceptRanges", "internal/bytealg.MaxLen"], apart := false, laid := [("unicode/utf8.acceptRanges", laid_unicode_utf8_acceptRanges), ("unicode/utf8.first", laid_unicode_utf8_first)], narrowed := true }
def RemapRoutesUptoSaid : Prop := remapRoutesUptoRow.holds Tryd.pinned (OpenSpec.upto remapRoutesSpec)

end Rows
end Go.Proofs.YtdjiioidkgppjaaDoor

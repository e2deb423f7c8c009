/-
  NARROWER THAN 'FOR EVERY INPUT', by the rows' own cells (each row's printed sentence says how): PropPuts: laid · PropGets: laid · PropBack: laid · PropCuts: laid.
  DERIVED. THE GIVEN ROWS OF THIS SEAT. 4 by the template 'for every input the law returns true; each argument reads behind the call as it read before'; 0 by the template 'total and deterministic' (their statements: YtifbkfkieppacaaDoorTotals.lean).
  GIVEN WITH THE SEED: the statements are not yours to turn. If you find one false, say at which input.
  Laid BY PROGRAM, IN A SANDBOX (cutbox-rows.mjs): the forced cells as the released guide's own fill.sh prints them over the translation a1a620f370ff4010… (all of the seat's roots in one cut). By AI agents, Wed Nov 11 2026. No macro, syntax, notation, axiom, sorry.
-/
import Derived.Test.YtifbkfkieppacaaDoorChecked
import GoSem.PinnedTables
import GoSem.Claim
import GoSem.ClaimJoined
import GoSem.ClaimMapViews
import Derived.JoinedTies
import Derived.KernelRfl
namespace Go.Proofs.YtifbkfkieppacaaDoor
/- THE CELL 'sum', in the pinned program and in every row, IS THE sha256 OF THE DUMP (.gsa) THAT YtifbkfkieppacaaDoorProg.lean LOADS. Nothing in Lean hashes anything: it is a label: what it is worth is what the hold of that sum in a sandbox is worth. -/
noncomputable def Tryd.pinned : Pinned := { name := "ytifbkfkieppacaadoor", sum := "a1a620f370ff40104c8be12fc6558d13b6eda938622599eae7df06e094bdcb46", checked := Tryd.checked }
namespace Rows
def none {H : Type} : Left H := { results := [], args := [] }

/- WHAT THE LISTED PACKAGE-LEVEL VARIABLES READ AS WHEN THE CALL BEGINS. Each datum BY PROGRAM (the guide's laid-datum.mjs) off the statement by which the dump's own 'gosem.cut.vars' lays the variable. In a bare row this is a premise. The card (YtifbkfkieppacaaDoorCards.lean) ties it to the program's text. -/
def laid_unicode_utf8_acceptRanges {H : Type} : DataW H := .agg [.agg [.lit (.int .u8 128), .lit (.int .u8 191)], .agg [.lit (.int .u8 160), .lit (.int .u8 191)], .agg [.lit (.int .u8 128), .lit (.int .u8 159)], .agg [.lit (.int .u8 144), .lit (.int .u8 191)], .agg [.lit (.int .u8 128), .lit (.int .u8 143)], .agg [.lit (.int .u8 0), .lit (.int .u8 0)], .agg [.lit (.int .u8 0), .lit (.int .u8 0)], .agg [.lit (.int .u8 0), .lit (.int .u8 0)], .agg [.lit (.int .u8 0), .lit (.int .u8 0)], .agg [.lit (.int .u8 0), .lit (.int .u8 0)], .agg [.lit (.int .u8 0), .lit (.int .u8 0)], .agg [.lit (.int .u8 0), .lit (.int .u8 0)], .agg [.lit (.int .u8 0), .lit (.int .u8 0)], .agg [.lit (.int .u8 0), .lit (.int .u8 0)], .agg [.lit (.int .u8 0), .lit (.int .u8 0)], .agg [.lit (.int .u8 0), .lit (.int .u8 0)]]
/-- One of Go's own tables, pinned by name: the form's constant. -/
def laid_unicode_utf8_first : DataW Unit := Go.Pinned.utf8First

/-- 'aqueductlaw04.PropPuts': WHATEVER THE INPUT: true; the input reads as it did. -/
def propPutsSpec : ChangeSpec := { name := "propPuts", fn := fun _ => fun
  | [d] => { results := [.lit (.bool true)], args := [d] }
  | _ => none }
def propPutsRow : OpenClaim := { program := "ytifbkfkieppacaadoor", sum := "a1a620f370ff40104c8be12fc6558d13b6eda938622599eae7df06e094bdcb46", func := "aqueduct/aqueductlaw04.PropPuts", spec := "propPuts", inPlace := ["internal/abi.NoEscape"], unfollowed := true, recurses := true, named := ["unicode/utf8.first", "unicode/utf8.acceptRanges"], apart := false, laid := [("unicode/utf8.acceptRanges", laid_unicode_utf8_acceptRanges), ("unicode/utf8.first", laid_unicode_utf8_first)] }
def PropPutsSaid : Prop := propPutsRow.holds Tryd.pinned (OpenSpec.ofChange propPutsSpec)

/-- ITS FALSE NEIGHBOUR: 'it returns false'. Refute it at one input. -/
def propPutsWrong : ChangeSpec := { name := "propPuts", fn := fun _ => fun
  | [d] => { results := [.lit (.bool false)], args := [d] }
  | _ => none }
def PropPutsWrongFalsely : Prop := propPutsRow.holds Tryd.pinned (OpenSpec.ofChange propPutsWrong)

/-- 'aqueductlaw04.PropGets': WHATEVER THE INPUT: true; the input reads as it did. -/
def propGetsSpec : ChangeSpec := { name := "propGets", fn := fun _ => fun
  | [d1, d2] => { results := [.lit (.bool true)], args := [d1, d2] }
  | _ => none }
def propGetsRow : OpenClaim := { program := "ytifbkfkieppacaadoor", sum := "a1a620f370ff40104c8be12fc6558d13b6eda938622599eae7df06e094bdcb46", func := "aqueduct/aqueductlaw04.PropGets", spec := "propGets", unfollowed := true, recurses := true, named := ["unicode/utf8.first", "unicode/utf8.acceptRanges"], apart := false, laid := [("unicode/utf8.acceptRanges", laid_unicode_utf8_acceptRanges), ("unicode/utf8.first", laid_unicode_utf8_first)] }
def PropGetsSaid : Prop := propGetsRow.holds Tryd.pinned (OpenSpec.ofChange propGetsSpec)

/-- ITS FALSE NEIGHBOUR: 'it returns false'. Refute it at one input. -/
def propGetsWrong : ChangeSpec := { name := "propGets", fn := fun _ => fun
  | [d1, d2] => { results := [.lit (.bool false)], args := [d1, d2] }
  | _ => none }
def PropGetsWrongFalsely : Prop := propGetsRow.holds Tryd.pinned (OpenSpec.ofChange propGetsWrong)

/-- 'aqueductlaw04.PropBack': WHATEVER THE INPUT: true; the input reads as it did. -/
def propBackSpec : ChangeSpec := { name := "propBack", fn := fun _ => fun
  | [d1, d2] => { results := [.lit (.bool true)], args := [d1, d2] }
  | _ => none }
def propBackRow : OpenClaim := { program := "ytifbkfkieppacaadoor", sum := "a1a620f370ff40104c8be12fc6558d13b6eda938622599eae7df06e094bdcb46", func := "aqueduct/aqueductlaw04.PropBack", spec := "propBack", inPlace := ["internal/abi.NoEscape"], unfollowed := true, recurses := true, named := ["unicode/utf8.first", "unicode/utf8.acceptRanges"], apart := false, laid := [("unicode/utf8.acceptRanges", laid_unicode_utf8_acceptRanges), ("unicode/utf8.first", laid_unicode_utf8_first)] }
def PropBackSaid : Prop := propBackRow.holds Tryd.pinned (OpenSpec.ofChange propBackSpec)

/-- ITS FALSE NEIGHBOUR: 'it returns false'. Refute it at one input. -/
def propBackWrong : ChangeSpec := { name := "propBack", fn := fun _ => fun
  | [d1, d2] => { results := [.lit (.bool false)], args := [d1, d2] }
  | _ => none }
def PropBackWrongFalsely : Prop := propBackRow.holds Tryd.pinned (OpenSpec.ofChange propBackWrong)

/-- 'aqueductlaw04.PropCuts': WHATEVER THE INPUT: true; the input reads as it did. -/
def propCutsSpec : ChangeSpec := { name := "propCuts", fn := fun _ => fun
  | [d1, d2] => { results := [.lit (.bool true)], args := [d1, d2] }
  | _ => none }
def propCutsRow : OpenClaim := { program := "ytifbkfkieppacaadoor", sum := "a1a620f370ff40104c8be12fc6558d13b6eda938622599eae7df06e094bdcb46", func := "aqueduct/aqueductlaw04.PropCuts", spec := "propCuts", inPlace := ["internal/abi.NoEscape"], unfollowed := true, recurses := true, named := ["unicode/utf8.first", "unicode/utf8.acceptRanges"], apart := false, laid := [("unicode/utf8.acceptRanges", laid_unicode_utf8_acceptRanges), ("unicode/utf8.first", laid_unicode_utf8_first)] }
def PropCutsSaid : Prop := propCutsRow.holds Tryd.pinned (OpenSpec.ofChange propCutsSpec)

/-- ITS FALSE NEIGHBOUR: 'it returns false'. Refute it at one input. -/
def propCutsWrong : ChangeSpec := { name := "propCuts", fn := fun _ => fun
  | [d1, d2] => { results := [.lit (.bool false)], args := [d1, d2] }
  | _ => none }
def PropCutsWrongFalsely : Prop := propCutsRow.holds Tryd.pinned (OpenSpec.ofChange propCutsWrong)

/- THE SECOND FORM. 'bulk': how many values and letters a reading holds, each counted each time it is reached (what is shared counts as often as it is met; a slice's spare places count too). A statement '..UptoSaid' is the law's where the arguments, and the package variables that the reading takes, are together of bulk at most 1048576: NARROWER than '..Said'. Prove '..Said' where nothing that the law and all that it calls make is longer than what came in: it says more and counts as full. Else prove '..UptoSaid'. A law counts once. -/
mutual
def uptoBulk {H : Type} : DataW H → Nat
  | .lit (.string bytes) => bytes.length + 1
  | .lit _ => 1
  | .nil => 1
  | .ptr d => uptoBulk d + 1
  | .slice elems spare => uptoBulkAll elems + uptoBulkAll spare + 1
  | .agg parts => uptoBulkAll parts + 1
  | .iface _ d => uptoBulk d + 1
  | .map entries => uptoBulkEntries entries + 1
  | .held _ => 1
def uptoBulkAll {H : Type} : List (DataW H) → Nat
  | [] => 0
  | d :: r => uptoBulk d + uptoBulkAll r
def uptoBulkEntries {H : Type} : List (Lit × DataW H) → Nat
  | [] => 0
  | x :: r => uptoBulkEntry x + uptoBulkEntries r
def uptoBulkEntry {H : Type} : Lit × DataW H → Nat
  | (.string bytes, d) => bytes.length + uptoBulk d + 1
  | (_, d) => uptoBulk d + 1
 end
def uptoSmall : (H : Type) → List (DataW H) → Bool := fun _ ds => decide (uptoBulkAll ds ≤ 1048576)
def OpenSpec.upto (s : _root_.Go.ChangeSpec) : _root_.Go.OpenSpec := { _root_.Go.OpenSpec.ofChange s with cond := some uptoSmall }

/-- 'aqueductlaw04.PropPuts', WHERE WHAT IT READS IS OF BULK AT MOST 1048576: true; the input reads as it did. -/
def propPutsUptoRow : OpenClaim := { program := "ytifbkfkieppacaadoor", sum := "a1a620f370ff40104c8be12fc6558d13b6eda938622599eae7df06e094bdcb46", func := "aqueduct/aqueductlaw04.PropPuts", spec := "propPuts", inPlace := ["internal/abi.NoEscape"], unfollowed := true, recurses := true, named := ["unicode/utf8.first", "unicode/utf8.acceptRanges"], apart := false, laid := [("unicode/utf8.acceptRanges", laid_unicode_utf8_acceptRanges), ("unicode/utf8.first", laid_unicode_utf8_first)], narrowed := true }
def PropPutsUptoSaid : Prop := propPutsUptoRow.holds Tryd.pinned (OpenSpec.upto propPutsSpec)

/-- 'aqueductlaw04.PropGets', WHERE WHAT IT READS IS OF BULK AT MOST 1048576: true; the input reads as it did. -/
def propGetsUptoRow : OpenClaim := { program := "ytifbkfkieppacaadoor", sum := "a1a620f370ff40104c8be12fc6558d13b6eda938622599eae7df06e094bdcb46", func := "aqueduct/aqueductlaw04.PropGets", spec := "propGets", unfollowed := true, recurses := true, named := ["unicode/utf8.first", "unicode/utf8.acceptRanges"], apart := false, laid := [("unicode/utf8.acceptRanges", laid_unicode_utf8_acceptRanges), ("unicode/utf8.first", laid_unicode_utf8_first)], narrowed := true }
def PropGetsUptoSaid : Prop := propGetsUptoRow.holds Tryd.pinned (OpenSpec.upto propGetsSpec)

/-- 'aqueductlaw04.PropBack', WHERE WHAT IT READS IS OF BULK AT MOST 1048576: true; the input reads as it did. -/
def propBackUptoRow : OpenClaim := { program := "ytifbkfkieppacaadoor", sum := "a1a620f370ff40104c8be12fc6558d13b6eda938622599eae7df06e094bdcb46", func := "aqueduct/aqueductlaw04.PropBack", spec := "propBack", inPlace := ["internal/abi.NoEscape"], unfollowed := true, recurses := true, named := ["unicode/utf8.first", "unicode/utf8.acceptRanges"], apart := false, laid := [("unicode/utf8.acceptRanges", laid_unicode_utf8_acceptRanges), ("unicode/utf8.first", laid_unicode_utf8_first)], narrowed := true }
def PropBackUptoSaid : Prop := propBackUptoRow.holds Tryd.pinned (OpenSpec.upto propBackSpec)

/-- 'aqueductlaw04.PropCuts', WHERE WHAT IT READS IS OF BULK AT MOST 1048576: true; the input reads as it did. -/
def propCutsUptoRow : OpenClaim := { program := "ytifbkfkieppacaadoor", sum := "a1a620f370ff40104c8be12fc6558d13b6eda938622599eae7df06e094bdcb46", func := "aqueduct/aqueductlaw04.PropCuts", spec := "propCuts", inPlace := ["internal/abi.NoEscape"], unfollowed := true, recurses := true, named := ["unicode/utf8.first", "unicode/utf8.acceptRanges"], apart := false, laid := [("unicode/utf8.acceptRanges", laid_unicode_utf8_acceptRanges), ("unicode/utf8.first", laid_unicode_utf8_first)], narrowed := true }
def PropCutsUptoSaid : Prop := propCutsUptoRow.holds Tryd.pinned (OpenSpec.upto propCutsSpec)

end Rows
end Go.Proofs.YtifbkfkieppacaaDoor

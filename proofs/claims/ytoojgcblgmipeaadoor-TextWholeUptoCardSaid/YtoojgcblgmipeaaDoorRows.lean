/-
  NARROWER THAN 'FOR EVERY INPUT', by the rows' own cells (each row's printed sentence says how): TextCuts: laid · TextLongest: laid · TextFaults: laid · TextWhole: laid · TextPuts: laid · TextGets: laid · TextJoins: laid.
  DERIVED. THE GIVEN ROWS OF THIS SEAT. 7 by the template 'for every input the law returns true; each argument reads behind the call as it read before'; 0 by the template 'total and deterministic' (their statements: YtoojgcblgmipeaaDoorTotals.lean).
  GIVEN WITH THE SEED: the statements are not yours to turn. If you find one false, say at which input.
  Laid BY PROGRAM, IN A SANDBOX (cutbox-rows.mjs): the forced cells as the released guide's own fill.sh prints them over the translation 62d9edc429e04dfd… (all of the seat's roots in one cut). By AI agents, Wed Nov 11 2026. No macro, syntax, notation, axiom, sorry.
-/
import Derived.Test.YtoojgcblgmipeaaDoorChecked
import GoSem.PinnedTables
import GoSem.Claim
import GoSem.ClaimJoined
import GoSem.ClaimMapViews
import Derived.JoinedTies
import Derived.KernelRfl
namespace Go.Proofs.YtoojgcblgmipeaaDoor
/- THE CELL 'sum', in the pinned program and in every row, IS THE sha256 OF THE DUMP (.gsa) THAT YtoojgcblgmipeaaDoorProg.lean LOADS. Nothing in Lean hashes anything: it is a label: what it is worth is what the hold of that sum in a sandbox is worth. -/
noncomputable def Tryd.pinned : Pinned := { name := "ytoojgcblgmipeaadoor", sum := "62d9edc429e04dfd44f33f7769e9884f3d8a9a44bf2574bb7f0c7c6818fa2b0e", checked := Tryd.checked }
namespace Rows
def none {H : Type} : Left H := { results := [], args := [] }

/- WHAT THE LISTED PACKAGE-LEVEL VARIABLES READ AS WHEN THE CALL BEGINS. Each datum BY PROGRAM (the guide's laid-datum.mjs) off the statement by which the dump's own 'gosem.cut.vars' lays the variable. In a bare row this is a premise. The card (YtoojgcblgmipeaaDoorCards.lean) ties it to the program's text. -/
def laid_unicode_utf8_acceptRanges {H : Type} : DataW H := .agg [.agg [.lit (.int .u8 128), .lit (.int .u8 191)], .agg [.lit (.int .u8 160), .lit (.int .u8 191)], .agg [.lit (.int .u8 128), .lit (.int .u8 159)], .agg [.lit (.int .u8 144), .lit (.int .u8 191)], .agg [.lit (.int .u8 128), .lit (.int .u8 143)], .agg [.lit (.int .u8 0), .lit (.int .u8 0)], .agg [.lit (.int .u8 0), .lit (.int .u8 0)], .agg [.lit (.int .u8 0), .lit (.int .u8 0)], .agg [.lit (.int .u8 0), .lit (.int .u8 0)], .agg [.lit (.int .u8 0), .lit (.int .u8 0)], .agg [.lit (.int .u8 0), .lit (.int .u8 0)], .agg [.lit (.int .u8 0), .lit (.int .u8 0)], .agg [.lit (.int .u8 0), .lit (.int .u8 0)], .agg [.lit (.int .u8 0), .lit (.int .u8 0)], .agg [.lit (.int .u8 0), .lit (.int .u8 0)], .agg [.lit (.int .u8 0), .lit (.int .u8 0)]]
/-- One of Go's own tables, pinned by name: the form's constant. -/
def laid_unicode_utf8_first : DataW Unit := Go.Pinned.utf8First

/-- 'aqueductlaw02.TextCuts': WHATEVER THE INPUT: true; the input reads as it did. -/
def textCutsSpec : ChangeSpec := { name := "textCuts", fn := fun _ => fun
  | [d1, d2] => { results := [.lit (.bool true)], args := [d1, d2] }
  | _ => none }
def textCutsRow : OpenClaim := { program := "ytoojgcblgmipeaadoor", sum := "62d9edc429e04dfd44f33f7769e9884f3d8a9a44bf2574bb7f0c7c6818fa2b0e", func := "aqueduct/aqueductlaw02.TextCuts", spec := "textCuts", named := ["unicode/utf8.first", "unicode/utf8.acceptRanges"], apart := false, laid := [("unicode/utf8.acceptRanges", laid_unicode_utf8_acceptRanges), ("unicode/utf8.first", laid_unicode_utf8_first)] }
def TextCutsSaid : Prop := textCutsRow.holds Tryd.pinned (OpenSpec.ofChange textCutsSpec)

/-- ITS FALSE NEIGHBOUR: 'it returns false'. Refute it at one input. -/
def textCutsWrong : ChangeSpec := { name := "textCuts", fn := fun _ => fun
  | [d1, d2] => { results := [.lit (.bool false)], args := [d1, d2] }
  | _ => none }
def TextCutsWrongFalsely : Prop := textCutsRow.holds Tryd.pinned (OpenSpec.ofChange textCutsWrong)

/-- 'aqueductlaw02.TextLongest': WHATEVER THE INPUT: true; the input reads as it did. -/
def textLongestSpec : ChangeSpec := { name := "textLongest", fn := fun _ => fun
  | [d1, d2] => { results := [.lit (.bool true)], args := [d1, d2] }
  | _ => none }
def textLongestRow : OpenClaim := { program := "ytoojgcblgmipeaadoor", sum := "62d9edc429e04dfd44f33f7769e9884f3d8a9a44bf2574bb7f0c7c6818fa2b0e", func := "aqueduct/aqueductlaw02.TextLongest", spec := "textLongest", named := ["unicode/utf8.first", "unicode/utf8.acceptRanges"], apart := false, laid := [("unicode/utf8.acceptRanges", laid_unicode_utf8_acceptRanges), ("unicode/utf8.first", laid_unicode_utf8_first)] }
def TextLongestSaid : Prop := textLongestRow.holds Tryd.pinned (OpenSpec.ofChange textLongestSpec)

/-- ITS FALSE NEIGHBOUR: 'it returns false'. Refute it at one input. -/
def textLongestWrong : ChangeSpec := { name := "textLongest", fn := fun _ => fun
  | [d1, d2] => { results := [.lit (.bool false)], args := [d1, d2] }
  | _ => none }
def TextLongestWrongFalsely : Prop := textLongestRow.holds Tryd.pinned (OpenSpec.ofChange textLongestWrong)

/-- 'aqueductlaw02.TextFaults': WHATEVER THE INPUT: true; the input reads as it did. -/
def textFaultsSpec : ChangeSpec := { name := "textFaults", fn := fun _ => fun
  | [d] => { results := [.lit (.bool true)], args := [d] }
  | _ => none }
def textFaultsRow : OpenClaim := { program := "ytoojgcblgmipeaadoor", sum := "62d9edc429e04dfd44f33f7769e9884f3d8a9a44bf2574bb7f0c7c6818fa2b0e", func := "aqueduct/aqueductlaw02.TextFaults", spec := "textFaults", named := ["unicode/utf8.first", "unicode/utf8.acceptRanges"], apart := false, laid := [("unicode/utf8.acceptRanges", laid_unicode_utf8_acceptRanges), ("unicode/utf8.first", laid_unicode_utf8_first)] }
def TextFaultsSaid : Prop := textFaultsRow.holds Tryd.pinned (OpenSpec.ofChange textFaultsSpec)

/-- ITS FALSE NEIGHBOUR: 'it returns false'. Refute it at one input. -/
def textFaultsWrong : ChangeSpec := { name := "textFaults", fn := fun _ => fun
  | [d] => { results := [.lit (.bool false)], args := [d] }
  | _ => none }
def TextFaultsWrongFalsely : Prop := textFaultsRow.holds Tryd.pinned (OpenSpec.ofChange textFaultsWrong)

/-- 'aqueductlaw02.TextWhole': WHATEVER THE INPUT: true; the input reads as it did. -/
def textWholeSpec : ChangeSpec := { name := "textWhole", fn := fun _ => fun
  | [d] => { results := [.lit (.bool true)], args := [d] }
  | _ => none }
def textWholeRow : OpenClaim := { program := "ytoojgcblgmipeaadoor", sum := "62d9edc429e04dfd44f33f7769e9884f3d8a9a44bf2574bb7f0c7c6818fa2b0e", func := "aqueduct/aqueductlaw02.TextWhole", spec := "textWhole", named := ["unicode/utf8.first", "unicode/utf8.acceptRanges"], apart := false, laid := [("unicode/utf8.acceptRanges", laid_unicode_utf8_acceptRanges), ("unicode/utf8.first", laid_unicode_utf8_first)] }
def TextWholeSaid : Prop := textWholeRow.holds Tryd.pinned (OpenSpec.ofChange textWholeSpec)

/-- ITS FALSE NEIGHBOUR: 'it returns false'. Refute it at one input. -/
def textWholeWrong : ChangeSpec := { name := "textWhole", fn := fun _ => fun
  | [d] => { results := [.lit (.bool false)], args := [d] }
  | _ => none }
def TextWholeWrongFalsely : Prop := textWholeRow.holds Tryd.pinned (OpenSpec.ofChange textWholeWrong)

/-- 'aqueductlaw02.TextPuts': WHATEVER THE INPUT: true; the input reads as it did. -/
def textPutsSpec : ChangeSpec := { name := "textPuts", fn := fun _ => fun
  | [d] => { results := [.lit (.bool true)], args := [d] }
  | _ => none }
def textPutsRow : OpenClaim := { program := "ytoojgcblgmipeaadoor", sum := "62d9edc429e04dfd44f33f7769e9884f3d8a9a44bf2574bb7f0c7c6818fa2b0e", func := "aqueduct/aqueductlaw02.TextPuts", spec := "textPuts", named := ["unicode/utf8.first", "unicode/utf8.acceptRanges"], apart := false, laid := [("unicode/utf8.acceptRanges", laid_unicode_utf8_acceptRanges), ("unicode/utf8.first", laid_unicode_utf8_first)] }
def TextPutsSaid : Prop := textPutsRow.holds Tryd.pinned (OpenSpec.ofChange textPutsSpec)

/-- ITS FALSE NEIGHBOUR: 'it returns false'. Refute it at one input. -/
def textPutsWrong : ChangeSpec := { name := "textPuts", fn := fun _ => fun
  | [d] => { results := [.lit (.bool false)], args := [d] }
  | _ => none }
def TextPutsWrongFalsely : Prop := textPutsRow.holds Tryd.pinned (OpenSpec.ofChange textPutsWrong)

/-- 'aqueductlaw02.TextGets': WHATEVER THE INPUT: true; the input reads as it did. -/
def textGetsSpec : ChangeSpec := { name := "textGets", fn := fun _ => fun
  | [d1, d2] => { results := [.lit (.bool true)], args := [d1, d2] }
  | _ => none }
def textGetsRow : OpenClaim := { program := "ytoojgcblgmipeaadoor", sum := "62d9edc429e04dfd44f33f7769e9884f3d8a9a44bf2574bb7f0c7c6818fa2b0e", func := "aqueduct/aqueductlaw02.TextGets", spec := "textGets", named := ["unicode/utf8.first", "unicode/utf8.acceptRanges"], apart := false, laid := [("unicode/utf8.acceptRanges", laid_unicode_utf8_acceptRanges), ("unicode/utf8.first", laid_unicode_utf8_first)] }
def TextGetsSaid : Prop := textGetsRow.holds Tryd.pinned (OpenSpec.ofChange textGetsSpec)

/-- ITS FALSE NEIGHBOUR: 'it returns false'. Refute it at one input. -/
def textGetsWrong : ChangeSpec := { name := "textGets", fn := fun _ => fun
  | [d1, d2] => { results := [.lit (.bool false)], args := [d1, d2] }
  | _ => none }
def TextGetsWrongFalsely : Prop := textGetsRow.holds Tryd.pinned (OpenSpec.ofChange textGetsWrong)

/-- 'aqueductlaw02.TextJoins': WHATEVER THE INPUT: true; the input reads as it did. -/
def textJoinsSpec : ChangeSpec := { name := "textJoins", fn := fun _ => fun
  | [d1, d2] => { results := [.lit (.bool true)], args := [d1, d2] }
  | _ => none }
def textJoinsRow : OpenClaim := { program := "ytoojgcblgmipeaadoor", sum := "62d9edc429e04dfd44f33f7769e9884f3d8a9a44bf2574bb7f0c7c6818fa2b0e", func := "aqueduct/aqueductlaw02.TextJoins", spec := "textJoins", named := ["unicode/utf8.first", "unicode/utf8.acceptRanges"], apart := false, laid := [("unicode/utf8.acceptRanges", laid_unicode_utf8_acceptRanges), ("unicode/utf8.first", laid_unicode_utf8_first)] }
def TextJoinsSaid : Prop := textJoinsRow.holds Tryd.pinned (OpenSpec.ofChange textJoinsSpec)

/-- ITS FALSE NEIGHBOUR: 'it returns false'. Refute it at one input. -/
def textJoinsWrong : ChangeSpec := { name := "textJoins", fn := fun _ => fun
  | [d1, d2] => { results := [.lit (.bool false)], args := [d1, d2] }
  | _ => none }
def TextJoinsWrongFalsely : Prop := textJoinsRow.holds Tryd.pinned (OpenSpec.ofChange textJoinsWrong)

/- THE SECOND FORM. 'bulk': how many values and letters a reading holds, each counted each time it is reached (what is shared counts as often as it is met; a slice's spare places count too). A statement '..UptoSaid' is the law's where the arguments, and the package variables that the reading takes, are together of bulk at most 1048576: NARROWER than '..Said'. Prove '..Said' where nothing that the law and all that it calls make is longer than what came in: it says more and counts as full. Else prove '..UptoSaid'. A law counts once. -/
mutual
def uptoBulk {H : Type} : DataW H → Nat
  | .lit (.string bytes) => bytes.length + 1
  | .lit _ => 1
  | .nil => 1
  | .ptr d => uptoBulk d + 1
  | .slice elems spare => uptoBulkAll elems + uptoBulkAll spare + 1
  | .agg parts => uptoBulkAll parts + 1
  | .iface _ d => uptoBulk d + 1
  | .map entries => uptoBulkEntries entries + 1
  | .held _ => 1
def uptoBulkAll {H : Type} : List (DataW H) → Nat
  | [] => 0
  | d :: r => uptoBulk d + uptoBulkAll r
def uptoBulkEntries {H : Type} : List (Lit × DataW H) → Nat
  | [] => 0
  | x :: r => uptoBulkEntry x + uptoBulkEntries r
def uptoBulkEntry {H : Type} : Lit × DataW H → Nat
  | (.string bytes, d) => bytes.length + uptoBulk d + 1
  | (_, d) => uptoBulk d + 1
 end
def uptoSmall : (H : Type) → List (DataW H) → Bool := fun _ ds => decide (uptoBulkAll ds ≤ 1048576)
def OpenSpec.upto (s : _root_.Go.ChangeSpec) : _root_.Go.OpenSpec := { _root_.Go.OpenSpec.ofChange s with cond := some uptoSmall }

/-- 'aqueductlaw02.TextCuts', WHERE WHAT IT READS IS OF BULK AT MOST 1048576: true; the input reads as it did. -/
def textCutsUptoRow : OpenClaim := { program := "ytoojgcblgmipeaadoor", sum := "62d9edc429e04dfd44f33f7769e9884f3d8a9a44bf2574bb7f0c7c6818fa2b0e", func := "aqueduct/aqueductlaw02.TextCuts", spec := "textCuts", named := ["unicode/utf8.first", "unicode/utf8.acceptRanges"], apart := false, laid := [("unicode/utf8.acceptRanges", laid_unicode_utf8_acceptRanges), ("unicode/utf8.first", laid_unicode_utf8_first)], narrowed := true }
def TextCutsUptoSaid : Prop := textCutsUptoRow.holds Tryd.pinned (OpenSpec.upto textCutsSpec)

/-- 'aqueductlaw02.TextLongest', WHERE WHAT IT READS IS OF BULK AT MOST 1048576: true; the input reads as it did. -/
def textLongestUptoRow : OpenClaim := { program := "ytoojgcblgmipeaadoor", sum := "62d9edc429e04dfd44f33f7769e9884f3d8a9a44bf2574bb7f0c7c6818fa2b0e", func := "aqueduct/aqueductlaw02.TextLongest", spec := "textLongest", named := ["unicode/utf8.first", "unicode/utf8.acceptRanges"], apart := false, laid := [("unicode/utf8.acceptRanges", laid_unicode_utf8_acceptRanges), ("unicode/utf8.first", laid_unicode_utf8_first)], narrowed := true }
def TextLongestUptoSaid : Prop := textLongestUptoRow.holds Tryd.pinned (OpenSpec.upto textLongestSpec)

/-- 'aqueductlaw02.TextFaults', WHERE WHAT IT READS IS OF BULK AT MOST 1048576: true; the input reads as it did. -/
def textFaultsUptoRow : OpenClaim := { program := "ytoojgcblgmipeaadoor", sum := "62d9edc429e04dfd44f33f7769e9884f3d8a9a44bf2574bb7f0c7c6818fa2b0e", func := "aqueduct/aqueductlaw02.TextFaults", spec := "textFaults", named := ["unicode/utf8.first", "unicode/utf8.acceptRanges"], apart := false, laid := [("unicode/utf8.acceptRanges", laid_unicode_utf8_acceptRanges), ("unicode/utf8.first", laid_unicode_utf8_first)], narrowed := true }
def TextFaultsUptoSaid : Prop := textFaultsUptoRow.holds Tryd.pinned (OpenSpec.upto textFaultsSpec)

/-- 'aqueductlaw02.TextWhole', WHERE WHAT IT READS IS OF BULK AT MOST 1048576: true; the input reads as it did. -/
def textWholeUptoRow : OpenClaim := { program := "ytoojgcblgmipeaadoor", sum := "62d9edc429e04dfd44f33f7769e9884f3d8a9a44bf2574bb7f0c7c6818fa2b0e", func := "aqueduct/aqueductlaw02.TextWhole", spec := "textWhole", named := ["unicode/utf8.first", "unicode/utf8.acceptRanges"], apart := false, laid := [("unicode/utf8.acceptRanges", laid_unicode_utf8_acceptRanges), ("unicode/utf8.first", laid_unicode_utf8_first)], narrowed := true }
def TextWholeUptoSaid : Prop := textWholeUptoRow.holds Tryd.pinned (OpenSpec.upto textWholeSpec)

/-- 'aqueductlaw02.TextPuts', WHERE WHAT IT READS IS OF BULK AT MOST 1048576: true; the input reads as it did. -/
def textPutsUptoRow : OpenClaim := { program := "ytoojgcblgmipeaadoor", sum := "62d9edc429e04dfd44f33f7769e9884f3d8a9a44bf2574bb7f0c7c6818fa2b0e", func := "aqueduct/aqueductlaw02.TextPuts", spec := "textPuts", named := ["unicode/utf8.first", "unicode/utf8.acceptRanges"], apart := false, laid := [("unicode/utf8.acceptRanges", laid_unicode_utf8_acceptRanges), ("unicode/utf8.first", laid_unicode_utf8_first)], narrowed := true }
def TextPutsUptoSaid : Prop := textPutsUptoRow.holds Tryd.pinned (OpenSpec.upto textPutsSpec)

/-- 'aqueductlaw02.TextGets', WHERE WHAT IT READS IS OF BULK AT MOST 1048576: true; the input reads as it did. -/
def textGetsUptoRow : OpenClaim := { program := "ytoojgcblgmipeaadoor", sum := "62d9edc429e04dfd44f33f7769e9884f3d8a9a44bf2574bb7f0c7c6818fa2b0e", func := "aqueduct/aqueductlaw02.TextGets", spec := "textGets", named := ["unicode/utf8.first", "unicode/utf8.acceptRanges"], apart := false, laid := [("unicode/utf8.acceptRanges", laid_unicode_utf8_acceptRanges), ("unicode/utf8.first", laid_unicode_utf8_first)], narrowed := true }
def TextGetsUptoSaid : Prop := textGetsUptoRow.holds Tryd.pinned (OpenSpec.upto textGetsSpec)

/-- 'aqueductlaw02.TextJoins', WHERE WHAT IT READS IS OF BULK AT MOST 1048576: true; the input reads as it did. -/
def textJoinsUptoRow : OpenClaim := { program := "ytoojgcblgmipeaadoor", sum := "62d9edc429e04dfd44f33f7769e9884f3d8a9a44bf2574bb7f0c7c6818fa2b0e", func := "aqueduct/aqueductlaw02.TextJoins", spec := "textJoins", named := ["unicode/utf8.first", "unicode/utf8.acceptRanges"], apart := false, laid := [("unicode/utf8.acceptRanges", laid_unicode_utf8_acceptRanges), ("unicode/utf8.first", laid_unicode_utf8_first)], narrowed := true }
def TextJoinsUptoSaid : Prop := textJoinsUptoRow.holds Tryd.pinned (OpenSpec.upto textJoinsSpec)

end Rows
end Go.Proofs.YtoojgcblgmipeaaDoor

/-
  NARROWER THAN 'FOR EVERY INPUT', by the rows' own cells (each row's printed sentence says how): OverlapHolds: laid · OverlapWitness: laid · OverlapGap: laid · OverlapCovers: laid · OverlapOrders: laid · OverlapReduces: laid · OverlapTopics: laid · OverlapSame: laid.
  DERIVED. THE GIVEN ROWS OF THIS SEAT. 8 by the template 'for every input the law returns true; each argument reads behind the call as it read before'; 0 by the template 'total and deterministic' (their statements: YtichhppfdjkgkaaDoorTotals.lean).
  GIVEN WITH THE SEED: the statements are not yours to turn. If you find one false, say at which input.
  Laid BY PROGRAM, IN A SANDBOX (cutbox-rows.mjs): the forced cells as the released guide's own fill.sh prints them over the translation b442dd7c13d25677… (all of the seat's roots in one cut). By AI agents, Wed Nov 11 2026. No macro, syntax, notation, axiom, sorry.
-/
import Derived.Test.YtichhppfdjkgkaaDoorChecked
import GoSem.PinnedTables
import GoSem.Claim
import GoSem.ClaimJoined
import GoSem.ClaimMapViews
import Derived.JoinedTies
import Derived.KernelRfl
namespace Go.Proofs.YtichhppfdjkgkaaDoor
/- THE CELL 'sum', in the pinned program and in every row, IS THE sha256 OF THE DUMP (.gsa) THAT YtichhppfdjkgkaaDoorProg.lean LOADS. Nothing in Lean hashes anything: it is a label: what it is worth is what the hold of that sum in a sandbox is worth. -/
noncomputable def Tryd.pinned : Pinned := { name := "ytichhppfdjkgkaadoor", sum := "b442dd7c13d25677af1ccf53b2b7c0b4eb4e3ded0f037d8281a531fb517e6595", checked := Tryd.checked }
namespace Rows
def none {H : Type} : Left H := { results := [], args := [] }

/- WHAT THE LISTED PACKAGE-LEVEL VARIABLES READ AS WHEN THE CALL BEGINS. Each datum BY PROGRAM (the guide's laid-datum.mjs) off the statement by which the dump's own 'gosem.cut.vars' lays the variable. In a bare row this is a premise. The card (YtichhppfdjkgkaaDoorCards.lean) ties it to the program's text. -/
def laid_unicode_utf8_acceptRanges {H : Type} : DataW H := .agg [.agg [.lit (.int .u8 128), .lit (.int .u8 191)], .agg [.lit (.int .u8 160), .lit (.int .u8 191)], .agg [.lit (.int .u8 128), .lit (.int .u8 159)], .agg [.lit (.int .u8 144), .lit (.int .u8 191)], .agg [.lit (.int .u8 128), .lit (.int .u8 143)], .agg [.lit (.int .u8 0), .lit (.int .u8 0)], .agg [.lit (.int .u8 0), .lit (.int .u8 0)], .agg [.lit (.int .u8 0), .lit (.int .u8 0)], .agg [.lit (.int .u8 0), .lit (.int .u8 0)], .agg [.lit (.int .u8 0), .lit (.int .u8 0)], .agg [.lit (.int .u8 0), .lit (.int .u8 0)], .agg [.lit (.int .u8 0), .lit (.int .u8 0)], .agg [.lit (.int .u8 0), .lit (.int .u8 0)], .agg [.lit (.int .u8 0), .lit (.int .u8 0)], .agg [.lit (.int .u8 0), .lit (.int .u8 0)], .agg [.lit (.int .u8 0), .lit (.int .u8 0)]]
/-- One of Go's own tables, pinned by name: the form's constant. -/
def laid_unicode_utf8_first : DataW Unit := Go.Pinned.utf8First

/-- 'aqueductlaw08.OverlapHolds': WHATEVER THE INPUT: true; the input reads as it did. -/
def overlapHoldsSpec : ChangeSpec := { name := "overlapHolds", fn := fun _ => fun
  | [d1, d2] => { results := [.lit (.bool true)], args := [d1, d2] }
  | _ => none }
def overlapHoldsRow : OpenClaim := { program := "ytichhppfdjkgkaadoor", sum := "b442dd7c13d25677af1ccf53b2b7c0b4eb4e3ded0f037d8281a531fb517e6595", func := "aqueduct/aqueductlaw08.OverlapHolds", spec := "overlapHolds", inPlace := ["internal/bytealg.CountString", "internal/bytealg.IndexByteString", "internal/bytealg.IndexString", "internal/abi.NoEscape", "internal/bytealg.MakeNoZero"], unfollowed := true, recurses := true, named := ["unicode/utf8.first", "unicode/utf8.acceptRanges", "internal/bytealg.MaxLen"], apart := false, laid := [("unicode/utf8.acceptRanges", laid_unicode_utf8_acceptRanges), ("unicode/utf8.first", laid_unicode_utf8_first)] }
def OverlapHoldsSaid : Prop := overlapHoldsRow.holds Tryd.pinned (OpenSpec.ofChange overlapHoldsSpec)

/-- ITS FALSE NEIGHBOUR: 'it returns false'. Refute it at one input. -/
def overlapHoldsWrong : ChangeSpec := { name := "overlapHolds", fn := fun _ => fun
  | [d1, d2] => { results := [.lit (.bool false)], args := [d1, d2] }
  | _ => none }
def OverlapHoldsWrongFalsely : Prop := overlapHoldsRow.holds Tryd.pinned (OpenSpec.ofChange overlapHoldsWrong)

/-- 'aqueductlaw08.OverlapWitness': WHATEVER THE INPUT: true; the input reads as it did. -/
def overlapWitnessSpec : ChangeSpec := { name := "overlapWitness", fn := fun _ => fun
  | [d1, d2] => { results := [.lit (.bool true)], args := [d1, d2] }
  | _ => none }
def overlapWitnessRow : OpenClaim := { program := "ytichhppfdjkgkaadoor", sum := "b442dd7c13d25677af1ccf53b2b7c0b4eb4e3ded0f037d8281a531fb517e6595", func := "aqueduct/aqueductlaw08.OverlapWitness", spec := "overlapWitness", inPlace := ["internal/bytealg.CountString", "internal/bytealg.IndexByteString", "internal/bytealg.IndexString", "internal/abi.NoEscape", "internal/bytealg.MakeNoZero"], unfollowed := true, recurses := true, named := ["unicode/utf8.first", "unicode/utf8.acceptRanges", "internal/bytealg.MaxLen"], apart := false, laid := [("unicode/utf8.acceptRanges", laid_unicode_utf8_acceptRanges), ("unicode/utf8.first", laid_unicode_utf8_first)] }
def OverlapWitnessSaid : Prop := overlapWitnessRow.holds Tryd.pinned (OpenSpec.ofChange overlapWitnessSpec)

/-- ITS FALSE NEIGHBOUR: 'it returns false'. Refute it at one input. -/
def overlapWitnessWrong : ChangeSpec := { name := "overlapWitness", fn := fun _ => fun
  | [d1, d2] => { results := [.lit (.bool false)], args := [d1, d2] }
  | _ => none }
def OverlapWitnessWrongFalsely : Prop := overlapWitnessRow.holds Tryd.pinned (OpenSpec.ofChange overlapWitnessWrong)

/-- 'aqueductlaw08.OverlapGap': WHATEVER THE INPUT: true; the input reads as it did. -/
def overlapGapSpec : ChangeSpec := { name := "overlapGap", fn := fun _ => fun
  | [d1, d2] => { results := [.lit (.bool true)], args := [d1, d2] }
  | _ => none }
def overlapGapRow : OpenClaim := { program := "ytichhppfdjkgkaadoor", sum := "b442dd7c13d25677af1ccf53b2b7c0b4eb4e3ded0f037d8281a531fb517e6595", func := "aqueduct/aqueductlaw08.OverlapGap", spec := "overlapGap", inPlace := ["internal/bytealg.CountString", "internal/bytealg.IndexByteString", "internal/bytealg.IndexString", "internal/abi.NoEscape", "internal/bytealg.MakeNoZero"], unfollowed := true, recurses := true, named := ["unicode/utf8.first", "unicode/utf8.acceptRanges", "internal/bytealg.MaxLen"], apart := false, laid := [("unicode/utf8.acceptRanges", laid_unicode_utf8_acceptRanges), ("unicode/utf8.first", laid_unicode_utf8_first)] }
def OverlapGapSaid : Prop := overlapGapRow.holds Tryd.pinned (OpenSpec.ofChange overlapGapSpec)

/-- ITS FALSE NEIGHBOUR: 'it returns false'. Refute it at one input. -/
def overlapGapWrong : ChangeSpec := { name := "overlapGap", fn := fun _ => fun
  | [d1, d2] => { results := [.lit (.bool false)], args := [d1, d2] }
  | _ => none }
def OverlapGapWrongFalsely : Prop := overlapGapRow.holds Tryd.pinned (OpenSpec.ofChange overlapGapWrong)

/-- 'aqueductlaw08.OverlapCovers': WHATEVER THE INPUT: true; the input reads as it did. -/
def overlapCoversSpec : ChangeSpec := { name := "overlapCovers", fn := fun _ => fun
  | [d1, d2] => { results := [.lit (.bool true)], args := [d1, d2] }
  | _ => none }
def overlapCoversRow : OpenClaim := { program := "ytichhppfdjkgkaadoor", sum := "b442dd7c13d25677af1ccf53b2b7c0b4eb4e3ded0f037d8281a531fb517e6595", func := "aqueduct/aqueductlaw08.OverlapCovers", spec := "overlapCovers", inPlace := ["internal/bytealg.CountString", "internal/bytealg.IndexByteString", "internal/bytealg.IndexString", "internal/abi.NoEscape", "internal/bytealg.MakeNoZero"], unfollowed := true, recurses := true, named := ["unicode/utf8.first", "unicode/utf8.acceptRanges", "internal/bytealg.MaxLen"], apart := false, laid := [("unicode/utf8.acceptRanges", laid_unicode_utf8_acceptRanges), ("unicode/utf8.first", laid_unicode_utf8_first)] }
def OverlapCoversSaid : Prop := overlapCoversRow.holds Tryd.pinned (OpenSpec.ofChange overlapCoversSpec)

/-- ITS FALSE NEIGHBOUR: 'it returns false'. Refute it at one input. -/
def overlapCoversWrong : ChangeSpec := { name := "overlapCovers", fn := fun _ => fun
  | [d1, d2] => { results := [.lit (.bool false)], args := [d1, d2] }
  | _ => none }
def OverlapCoversWrongFalsely : Prop := overlapCoversRow.holds Tryd.pinned (OpenSpec.ofChange overlapCoversWrong)

/-- 'aqueductlaw08.OverlapOrders': WHATEVER THE INPUT: true; the input reads as it did. -/
def overlapOrdersSpec : ChangeSpec := { name := "overlapOrders", fn := fun _ => fun
  | [d1, d2, d3] => { results := [.lit (.bool true)], args := [d1, d2, d3] }
  | _ => none }
def overlapOrdersRow : OpenClaim := { program := "ytichhppfdjkgkaadoor", sum := "b442dd7c13d25677af1ccf53b2b7c0b4eb4e3ded0f037d8281a531fb517e6595", func := "aqueduct/aqueductlaw08.OverlapOrders", spec := "overlapOrders", inPlace := ["internal/bytealg.CountString", "internal/bytealg.IndexByteString", "internal/bytealg.IndexString", "internal/abi.NoEscape", "internal/bytealg.MakeNoZero"], unfollowed := true, recurses := true, named := ["unicode/utf8.first", "unicode/utf8.acceptRanges", "internal/bytealg.MaxLen"], apart := false, laid := [("unicode/utf8.acceptRanges", laid_unicode_utf8_acceptRanges), ("unicode/utf8.first", laid_unicode_utf8_first)] }
def OverlapOrdersSaid : Prop := overlapOrdersRow.holds Tryd.pinned (OpenSpec.ofChange overlapOrdersSpec)

/-- ITS FALSE NEIGHBOUR: 'it returns false'. Refute it at one input. -/
def overlapOrdersWrong : ChangeSpec := { name := "overlapOrders", fn := fun _ => fun
  | [d1, d2, d3] => { results := [.lit (.bool false)], args := [d1, d2, d3] }
  | _ => none }
def OverlapOrdersWrongFalsely : Prop := overlapOrdersRow.holds Tryd.pinned (OpenSpec.ofChange overlapOrdersWrong)

/-- 'aqueductlaw08.OverlapReduces': WHATEVER THE INPUT: true; the input reads as it did. -/
def overlapReducesSpec : ChangeSpec := { name := "overlapReduces", fn := fun _ => fun
  | [d] => { results := [.lit (.bool true)], args := [d] }
  | _ => none }
def overlapReducesRow : OpenClaim := { program := "ytichhppfdjkgkaadoor", sum := "b442dd7c13d25677af1ccf53b2b7c0b4eb4e3ded0f037d8281a531fb517e6595", func := "aqueduct/aqueductlaw08.OverlapReduces", spec := "overlapReduces", inPlace := ["internal/bytealg.CountString", "internal/bytealg.IndexByteString", "internal/bytealg.IndexString", "internal/abi.NoEscape", "internal/bytealg.MakeNoZero"], unfollowed := true, recurses := true, named := ["unicode/utf8.first", "unicode/utf8.acceptRanges", "internal/bytealg.MaxLen"], apart := false, laid := [("unicode/utf8.acceptRanges", laid_unicode_utf8_acceptRanges), ("unicode/utf8.first", laid_unicode_utf8_first)] }
def OverlapReducesSaid : Prop := overlapReducesRow.holds Tryd.pinned (OpenSpec.ofChange overlapReducesSpec)

/-- ITS FALSE NEIGHBOUR: 'it returns false'. Refute it at one input. -/
def overlapReducesWrong : ChangeSpec := { name := "overlapReduces", fn := fun _ => fun
  | [d] => { results := [.lit (.bool false)], args := [d] }
  | _ => none }
def OverlapReducesWrongFalsely : Prop := overlapReducesRow.holds Tryd.pinned (OpenSpec.ofChange overlapReducesWrong)

/-- 'aqueductlaw08.OverlapTopics': WHATEVER THE INPUT: true; the input reads as it did. -/
def overlapTopicsSpec : ChangeSpec := { name := "overlapTopics", fn := fun _ => fun
  | [d1, d2, d3] => { results := [.lit (.bool true)], args := [d1, d2, d3] }
  | _ => none }
def overlapTopicsRow : OpenClaim := { program := "ytichhppfdjkgkaadoor", sum := "b442dd7c13d25677af1ccf53b2b7c0b4eb4e3ded0f037d8281a531fb517e6595", func := "aqueduct/aqueductlaw08.OverlapTopics", spec := "overlapTopics", inPlace := ["internal/bytealg.CountString", "internal/bytealg.IndexByteString", "internal/bytealg.IndexString", "internal/abi.NoEscape", "internal/bytealg.MakeNoZero"], unfollowed := true, recurses := true, named := ["unicode/utf8.first", "unicode/utf8.acceptRanges", "internal/bytealg.MaxLen"], apart := false, laid := [("unicode/utf8.acceptRanges", laid_unicode_utf8_acceptRanges), ("unicode/utf8.first", laid_unicode_utf8_first)] }
def OverlapTopicsSaid : Prop := overlapTopicsRow.holds Tryd.pinned (OpenSpec.ofChange overlapTopicsSpec)

/-- ITS FALSE NEIGHBOUR: 'it returns false'. Refute it at one input. -/
def overlapTopicsWrong : ChangeSpec := { name := "overlapTopics", fn := fun _ => fun
  | [d1, d2, d3] => { results := [.lit (.bool false)], args := [d1, d2, d3] }
  | _ => none }
def OverlapTopicsWrongFalsely : Prop := overlapTopicsRow.holds Tryd.pinned (OpenSpec.ofChange overlapTopicsWrong)

/-- 'aqueductlaw08.OverlapSame': WHATEVER THE INPUT: true; the input reads as it did. -/
def overlapSameSpec : ChangeSpec := { name := "overlapSame", fn := fun _ => fun
  | [d1, d2] => { results := [.lit (.bool true)], args := [d1, d2] }
  | _ => none }
def overlapSameRow : OpenClaim := { program := "ytichhppfdjkgkaadoor", sum := "b442dd7c13d25677af1ccf53b2b7c0b4eb4e3ded0f037d8281a531fb517e6595", func := "aqueduct/aqueductlaw08.OverlapSame", spec := "overlapSame", inPlace := ["internal/bytealg.CountString", "internal/bytealg.IndexByteString", "internal/bytealg.IndexString", "internal/abi.NoEscape", "internal/bytealg.MakeNoZero"], unfollowed := true, recurses := true, named := ["unicode/utf8.first", "unicode/utf8.acceptRanges", "internal/bytealg.MaxLen"], apart := false, laid := [("unicode/utf8.acceptRanges", laid_unicode_utf8_acceptRanges), ("unicode/utf8.first", laid_unicode_utf8_first)] }
def OverlapSameSaid : Prop := overlapSameRow.holds Tryd.pinned (OpenSpec.ofChange overlapSameSpec)

/-- ITS FALSE NEIGHBOUR: 'it returns false'. Refute it at one input. -/
def overlapSameWrong : ChangeSpec := { name := "overlapSame", fn := fun _ => fun
  | [d1, d2] => { results := [.lit (.bool false)], args := [d1, d2] }
  | _ => none }
def OverlapSameWrongFalsely : Prop := overlapSameRow.holds Tryd.pinned (OpenSpec.ofChange overlapSameWrong)

/- THE SECOND FORM. 'bulk': how many values and letters a reading holds, each counted each time it is reached (what is shared counts as often as it is met; a slice's spare places count too). A statement '..UptoSaid' is the law's where the arguments, and the package variables that the reading takes, are together of bulk at most 1048576: NARROWER than '..Said'. Prove '..Said' where nothing that the law and all that it calls make is longer than what came in: it says more and counts as full. Else prove '..UptoSaid'. A law counts once. -/
mutual
def uptoBulk {H : Type} : DataW H → Nat
  | .lit (.string bytes) => bytes.length + 1
  | .lit _ => 1
  | .nil => 1
  | .ptr d => uptoBulk d + 1
  | .slice elems spare => uptoBulkAll elems + uptoBulkAll spare + 1
  | .agg parts => uptoBulkAll parts + 1
  | .iface _ d => uptoBulk d + 1
  | .map entries => uptoBulkEntries entries + 1
  | .held _ => 1
def uptoBulkAll {H : Type} : List (DataW H) → Nat
  | [] => 0
  | d :: r => uptoBulk d + uptoBulkAll r
def uptoBulkEntries {H : Type} : List (Lit × DataW H) → Nat
  | [] => 0
  | x :: r => uptoBulkEntry x + uptoBulkEntries r
def uptoBulkEntry {H : Type} : Lit × DataW H → Nat
  | (.string bytes, d) => bytes.length + uptoBulk d + 1
  | (_, d) => uptoBulk d + 1
 end
def uptoSmall : (H : Type) → List (DataW H) → Bool := fun _ ds => decide (uptoBulkAll ds ≤ 1048576)
def OpenSpec.upto (s : _root_.Go.ChangeSpec) : _root_.Go.OpenSpec := { _root_.Go.OpenSpec.ofChange s with cond := some uptoSmall }

/-- 'aqueductlaw08.OverlapHolds', WHERE WHAT IT READS IS OF BULK AT MOST 1048576: true; the input reads as it did. -/
def overlapHoldsUptoRow : OpenClaim := { program := "ytichhppfdjkgkaadoor", sum := "b442dd7c13d25677af1ccf53b2b7c0b4eb4e3ded0f037d8281a531fb517e6595", func := "aqueduct/aqueductlaw08.OverlapHolds", spec := "overlapHolds", inPlace := ["internal/bytealg.CountString", "internal/bytealg.IndexByteString", "internal/bytealg.IndexString", "internal/abi.NoEscape", "internal/bytealg.MakeNoZero"], unfollowed := true, recurses := true, named := ["unicode/utf8.first", "unicode/utf8.acceptRanges", "internal/bytealg.MaxLen"], apart := false, laid := [("unicode/utf8.acceptRanges", laid_unicode_utf8_acceptRanges), ("unicode/utf8.first", laid_unicode_utf8_first)], narrowed := true }
def OverlapHoldsUptoSaid : Prop := overlapHoldsUptoRow.holds Tryd.pinned (OpenSpec.upto overlapHoldsSpec)

/-- 'aqueductlaw08.OverlapWitness', WHERE WHAT IT READS IS OF BULK AT MOST 1048576: true; the input reads as it did. -/
def overlapWitnessUptoRow : OpenClaim := { program := "ytichhppfdjkgkaadoor", sum := "b442dd7c13d25677af1ccf53b2b7c0b4eb4e3ded0f037d8281a531fb517e6595", func := "aqueduct/aqueductlaw08.OverlapWitness", spec := "overlapWitness", inPlace := ["internal/bytealg.CountString", "internal/bytealg.IndexByteString", "internal/bytealg.IndexString", "internal/abi.NoEscape", "internal/bytealg.MakeNoZero"], unfollowed := true, recurses := true, named := ["unicode/utf8.first", "unicode/utf8.acceptRanges", "internal/bytealg.MaxLen"], apart := false, laid := [("unicode/utf8.acceptRanges", laid_unicode_utf8_acceptRanges), ("unicode/utf8.first", laid_unicode_utf8_first)], narrowed := true }
def OverlapWitnessUptoSaid : Prop := overlapWitnessUptoRow.holds Tryd.pinned (OpenSpec.upto overlapWitnessSpec)

/-- 'aqueductlaw08.OverlapGap', WHERE WHAT IT READS IS OF BULK AT MOST 1048576: true; the input reads as it did. -/
def overlapGapUptoRow : OpenClaim := { program := "ytichhppfdjkgkaadoor", sum := "b442dd7c13d25677af1ccf53b2b7c0b4eb4e3ded0f037d8281a531fb517e6595", func := "aqueduct/aqueductlaw08.OverlapGap", spec := "overlapGap", inPlace := ["internal/bytealg.CountString", "internal/bytealg.IndexByteString", "internal/bytealg.IndexString", "internal/abi.NoEscape", "internal/bytealg.MakeNoZero"], unfollowed := true, recurses := true, named := ["unicode/utf8.first", "unicode/utf8.acceptRanges", "internal/bytealg.MaxLen"], apart := false, laid := [("unicode/utf8.acceptRanges", laid_unicode_utf8_acceptRanges), ("unicode/utf8.first", laid_unicode_utf8_first)], narrowed := true }
def OverlapGapUptoSaid : Prop := overlapGapUptoRow.holds Tryd.pinned (OpenSpec.upto overlapGapSpec)

/-- 'aqueductlaw08.OverlapCovers', WHERE WHAT IT READS IS OF BULK AT MOST 1048576: true; the input reads as it did. -/
def overlapCoversUptoRow : OpenClaim := { program := "ytichhppfdjkgkaadoor", sum := "b442dd7c13d25677af1ccf53b2b7c0b4eb4e3ded0f037d8281a531fb517e6595", func := "aqueduct/aqueductlaw08.OverlapCovers", spec := "overlapCovers", inPlace := ["internal/bytealg.CountString", "internal/bytealg.IndexByteString", "internal/bytealg.IndexString", "internal/abi.NoEscape", "internal/bytealg.MakeNoZero"], unfollowed := true, recurses := true, named := ["unicode/utf8.first", "unicode/utf8.acceptRanges", "internal/bytealg.MaxLen"], apart := false, laid := [("unicode/utf8.acceptRanges", laid_unicode_utf8_acceptRanges), ("unicode/utf8.first", laid_unicode_utf8_first)], narrowed := true }
def OverlapCoversUptoSaid : Prop := overlapCoversUptoRow.holds Tryd.pinned (OpenSpec.upto overlapCoversSpec)

/-- 'aqueductlaw08.OverlapOrders', WHERE WHAT IT READS IS OF BULK AT MOST 1048576: true; the input reads as it did. -/
def overlapOrdersUptoRow : OpenClaim := { program := "ytichhppfdjkgkaadoor", sum := "b442dd7c13d25677af1ccf53b2b7c0b4eb4e3ded0f037d8281a531fb517e6595", func := "aqueduct/aqueductlaw08.OverlapOrders", spec := "overlapOrders", inPlace := ["internal/bytealg.CountString", "internal/bytealg.IndexByteString", "internal/bytealg.IndexString", "internal/abi.NoEscape", "internal/bytealg.MakeNoZero"], unfollowed := true, recurses := true, named := ["unicode/utf8.first", "unicode/utf8.acceptRanges", "internal/bytealg.MaxLen"], apart := false, laid := [("unicode/utf8.acceptRanges", laid_unicode_utf8_acceptRanges), ("unicode/utf8.first", laid_unicode_utf8_first)], narrowed := true }
def OverlapOrdersUptoSaid : Prop := overlapOrdersUptoRow.holds Tryd.pinned (OpenSpec.upto overlapOrdersSpec)

/-- 'aqueductlaw08.OverlapReduces', WHERE WHAT IT READS IS OF BULK AT MOST 1048576: true; the input reads as it did. -/
def overlapReducesUptoRow : OpenClaim := { program := "ytichhppfdjkgkaadoor", sum := "b442dd7c13d25677af1ccf53b2b7c0b4eb4e3ded0f037d8281a531fb517e6595", func := "aqueduct/aqueductlaw08.OverlapReduces", spec := "overlapReduces", inPlace := ["internal/bytealg.CountString", "internal/bytealg.IndexByteString", "internal/bytealg.IndexString", "internal/abi.NoEscape", "internal/bytealg.MakeNoZero"], unfollowed := true, recurses := true, named := ["unicode/utf8.first", "unicode/utf8.acceptRanges", "internal/bytealg.MaxLen"], apart := false, laid := [("unicode/utf8.acceptRanges", laid_unicode_utf8_acceptRanges), ("unicode/utf8.first", laid_unicode_utf8_first)], narrowed := true }
def OverlapReducesUptoSaid : Prop := overlapReducesUptoRow.holds Tryd.pinned (OpenSpec.upto overlapReducesSpec)

/-- 'aqueductlaw08.OverlapTopics', WHERE WHAT IT READS IS OF BULK AT MOST 1048576: true; the input reads as it did. -/
def overlapTopicsUptoRow : OpenClaim := { program := "ytichhppfdjkgkaadoor", sum := "b442dd7c13d25677af1ccf53b2b7c0b4eb4e3ded0f037d8281a531fb517e6595", func := "aqueduct/aqueductlaw08.OverlapTopics", spec := "overlapTopics", inPlace := ["internal/bytealg.CountString", "internal/bytealg.IndexByteString", "internal/bytealg.IndexString", "internal/abi.NoEscape", "internal/bytealg.MakeNoZero"], unfollowed := true, recurses := true, named := ["unicode/utf8.first", "unicode/utf8.acceptRanges", "internal/bytealg.MaxLen"], apart := false, laid := [("unicode/utf8.acceptRanges", laid_unicode_utf8_acceptRanges), ("unicode/utf8.first", laid_unicode_utf8_first)], narrowed := true }
def OverlapTopicsUptoSaid : Prop := overlapTopicsUptoRow.holds Tryd.pinned (OpenSpec.upto overlapTopicsSpec)

/-- 'aqueductlaw08.OverlapSame', WHERE WHAT IT READS IS OF BULK AT MOST 1048576: true; the input reads as it did. -/
def overlapSameUptoRow : OpenClaim := { program := "ytichhppfdjkgkaadoor", sum := "b442dd7c13d25677af1ccf53b2b7c0b4eb4e3ded0f037d8281a531fb517e6595", func := "aqueduct/aqueductlaw08.OverlapSame", spec := "overlapSame", inPlace := ["internal/bytealg.CountString", "internal/bytealg.IndexByteString", "internal/bytealg.IndexString", "internal/abi.NoEscape", "internal/bytealg.MakeNoZero"], unfollowed := true, recurses := true, named := ["unicode/utf8.first", "unicode/utf8.acceptRanges", "internal/bytealg.MaxLen"], apart := false, laid := [("unicode/utf8.acceptRanges", laid_unicode_utf8_acceptRanges), ("unicode/utf8.first", laid_unicode_utf8_first)], narrowed := true }
def OverlapSameUptoSaid : Prop := overlapSameUptoRow.holds Tryd.pinned (OpenSpec.upto overlapSameSpec)

end Rows
end Go.Proofs.YtichhppfdjkgkaaDoor

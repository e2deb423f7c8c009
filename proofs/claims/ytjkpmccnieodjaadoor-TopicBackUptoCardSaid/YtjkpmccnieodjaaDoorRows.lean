/-
  NARROWER THAN 'FOR EVERY INPUT', by the rows' own cells (each row's printed sentence says how): TopicChecks: laid · TopicLevels: laid · TopicMatches: laid · TopicMore: laid · TopicBack: laid · TopicOwn: laid.
  DERIVED. THE GIVEN ROWS OF THIS SEAT. 6 by the template 'for every input the law returns true; each argument reads behind the call as it read before'; 0 by the template 'total and deterministic' (their statements: YtjkpmccnieodjaaDoorTotals.lean).
  GIVEN WITH THE SEED: the statements are not yours to turn. If you find one false, say at which input.
  Laid BY PROGRAM, IN A SANDBOX (cutbox-rows.mjs): the forced cells as the released guide's own fill.sh prints them over the translation c6bf9f5816477764… (all of the seat's roots in one cut). By AI agents, Wed Nov 11 2026. No macro, syntax, notation, axiom, sorry.
-/
import Derived.Test.YtjkpmccnieodjaaDoorChecked
import GoSem.PinnedTables
import GoSem.Claim
import GoSem.ClaimJoined
import GoSem.ClaimMapViews
import Derived.JoinedTies
import Derived.KernelRfl
namespace Go.Proofs.YtjkpmccnieodjaaDoor
/- THE CELL 'sum', in the pinned program and in every row, IS THE sha256 OF THE DUMP (.gsa) THAT YtjkpmccnieodjaaDoorProg.lean LOADS. Nothing in Lean hashes anything: it is a label: what it is worth is what the hold of that sum in a sandbox is worth. -/
noncomputable def Tryd.pinned : Pinned := { name := "ytjkpmccnieodjaadoor", sum := "c6bf9f581647776406ecfde14195596393b44f7fb499bf958d765a0239d5d000", checked := Tryd.checked }
namespace Rows
def none {H : Type} : Left H := { results := [], args := [] }

/- WHAT THE LISTED PACKAGE-LEVEL VARIABLES READ AS WHEN THE CALL BEGINS. Each datum BY PROGRAM (the guide's laid-datum.mjs) off the statement by which the dump's own 'gosem.cut.vars' lays the variable. In a bare row this is a premise. The card (YtjkpmccnieodjaaDoorCards.lean) ties it to the program's text. -/
def laid_unicode_utf8_acceptRanges {H : Type} : DataW H := .agg [.agg [.lit (.int .u8 128), .lit (.int .u8 191)], .agg [.lit (.int .u8 160), .lit (.int .u8 191)], .agg [.lit (.int .u8 128), .lit (.int .u8 159)], .agg [.lit (.int .u8 144), .lit (.int .u8 191)], .agg [.lit (.int .u8 128), .lit (.int .u8 143)], .agg [.lit (.int .u8 0), .lit (.int .u8 0)], .agg [.lit (.int .u8 0), .lit (.int .u8 0)], .agg [.lit (.int .u8 0), .lit (.int .u8 0)], .agg [.lit (.int .u8 0), .lit (.int .u8 0)], .agg [.lit (.int .u8 0), .lit (.int .u8 0)], .agg [.lit (.int .u8 0), .lit (.int .u8 0)], .agg [.lit (.int .u8 0), .lit (.int .u8 0)], .agg [.lit (.int .u8 0), .lit (.int .u8 0)], .agg [.lit (.int .u8 0), .lit (.int .u8 0)], .agg [.lit (.int .u8 0), .lit (.int .u8 0)], .agg [.lit (.int .u8 0), .lit (.int .u8 0)]]
/-- One of Go's own tables, pinned by name: the form's constant. -/
def laid_unicode_utf8_first : DataW Unit := Go.Pinned.utf8First

/-- 'aqueductlaw07.TopicChecks': WHATEVER THE INPUT: true; the input reads as it did. -/
def topicChecksSpec : ChangeSpec := { name := "topicChecks", fn := fun _ => fun
  | [d] => { results := [.lit (.bool true)], args := [d] }
  | _ => none }
def topicChecksRow : OpenClaim := { program := "ytjkpmccnieodjaadoor", sum := "c6bf9f581647776406ecfde14195596393b44f7fb499bf958d765a0239d5d000", func := "aqueduct/aqueductlaw07.TopicChecks", spec := "topicChecks", inPlace := ["internal/bytealg.CountString", "internal/bytealg.IndexByteString", "internal/bytealg.IndexString"], named := ["unicode/utf8.first", "unicode/utf8.acceptRanges", "internal/bytealg.MaxLen"], apart := false, laid := [("unicode/utf8.acceptRanges", laid_unicode_utf8_acceptRanges), ("unicode/utf8.first", laid_unicode_utf8_first)] }
def TopicChecksSaid : Prop := topicChecksRow.holds Tryd.pinned (OpenSpec.ofChange topicChecksSpec)

/-- ITS FALSE NEIGHBOUR: 'it returns false'. Refute it at one input. -/
def topicChecksWrong : ChangeSpec := { name := "topicChecks", fn := fun _ => fun
  | [d] => { results := [.lit (.bool false)], args := [d] }
  | _ => none }
def TopicChecksWrongFalsely : Prop := topicChecksRow.holds Tryd.pinned (OpenSpec.ofChange topicChecksWrong)

/-- 'aqueductlaw07.TopicLevels': WHATEVER THE INPUT: true; the input reads as it did. -/
def topicLevelsSpec : ChangeSpec := { name := "topicLevels", fn := fun _ => fun
  | [d1, d2] => { results := [.lit (.bool true)], args := [d1, d2] }
  | _ => none }
def topicLevelsRow : OpenClaim := { program := "ytjkpmccnieodjaadoor", sum := "c6bf9f581647776406ecfde14195596393b44f7fb499bf958d765a0239d5d000", func := "aqueduct/aqueductlaw07.TopicLevels", spec := "topicLevels", inPlace := ["internal/bytealg.CountString", "internal/bytealg.IndexByteString", "internal/bytealg.IndexString", "internal/abi.NoEscape", "internal/bytealg.MakeNoZero"], named := ["unicode/utf8.first", "unicode/utf8.acceptRanges", "internal/bytealg.MaxLen"], apart := false, laid := [("unicode/utf8.acceptRanges", laid_unicode_utf8_acceptRanges), ("unicode/utf8.first", laid_unicode_utf8_first)] }
def TopicLevelsSaid : Prop := topicLevelsRow.holds Tryd.pinned (OpenSpec.ofChange topicLevelsSpec)

/-- ITS FALSE NEIGHBOUR: 'it returns false'. Refute it at one input. -/
def topicLevelsWrong : ChangeSpec := { name := "topicLevels", fn := fun _ => fun
  | [d1, d2] => { results := [.lit (.bool false)], args := [d1, d2] }
  | _ => none }
def TopicLevelsWrongFalsely : Prop := topicLevelsRow.holds Tryd.pinned (OpenSpec.ofChange topicLevelsWrong)

/-- 'aqueductlaw07.TopicMatches': WHATEVER THE INPUT: true; the input reads as it did. -/
def topicMatchesSpec : ChangeSpec := { name := "topicMatches", fn := fun _ => fun
  | [d1, d2] => { results := [.lit (.bool true)], args := [d1, d2] }
  | _ => none }
def topicMatchesRow : OpenClaim := { program := "ytjkpmccnieodjaadoor", sum := "c6bf9f581647776406ecfde14195596393b44f7fb499bf958d765a0239d5d000", func := "aqueduct/aqueductlaw07.TopicMatches", spec := "topicMatches", inPlace := ["internal/bytealg.CountString", "internal/bytealg.IndexByteString", "internal/bytealg.IndexString"], unfollowed := true, recurses := true, named := ["unicode/utf8.first", "unicode/utf8.acceptRanges", "internal/bytealg.MaxLen"], apart := false, laid := [("unicode/utf8.acceptRanges", laid_unicode_utf8_acceptRanges), ("unicode/utf8.first", laid_unicode_utf8_first)] }
def TopicMatchesSaid : Prop := topicMatchesRow.holds Tryd.pinned (OpenSpec.ofChange topicMatchesSpec)

/-- ITS FALSE NEIGHBOUR: 'it returns false'. Refute it at one input. -/
def topicMatchesWrong : ChangeSpec := { name := "topicMatches", fn := fun _ => fun
  | [d1, d2] => { results := [.lit (.bool false)], args := [d1, d2] }
  | _ => none }
def TopicMatchesWrongFalsely : Prop := topicMatchesRow.holds Tryd.pinned (OpenSpec.ofChange topicMatchesWrong)

/-- 'aqueductlaw07.TopicMore': WHATEVER THE INPUT: true; the input reads as it did. -/
def topicMoreSpec : ChangeSpec := { name := "topicMore", fn := fun _ => fun
  | [d1, d2, d3] => { results := [.lit (.bool true)], args := [d1, d2, d3] }
  | _ => none }
def topicMoreRow : OpenClaim := { program := "ytjkpmccnieodjaadoor", sum := "c6bf9f581647776406ecfde14195596393b44f7fb499bf958d765a0239d5d000", func := "aqueduct/aqueductlaw07.TopicMore", spec := "topicMore", inPlace := ["internal/bytealg.CountString", "internal/bytealg.IndexByteString", "internal/bytealg.IndexString"], unfollowed := true, recurses := true, named := ["unicode/utf8.first", "unicode/utf8.acceptRanges", "internal/bytealg.MaxLen"], apart := false, laid := [("unicode/utf8.acceptRanges", laid_unicode_utf8_acceptRanges), ("unicode/utf8.first", laid_unicode_utf8_first)] }
def TopicMoreSaid : Prop := topicMoreRow.holds Tryd.pinned (OpenSpec.ofChange topicMoreSpec)

/-- ITS FALSE NEIGHBOUR: 'it returns false'. Refute it at one input. -/
def topicMoreWrong : ChangeSpec := { name := "topicMore", fn := fun _ => fun
  | [d1, d2, d3] => { results := [.lit (.bool false)], args := [d1, d2, d3] }
  | _ => none }
def TopicMoreWrongFalsely : Prop := topicMoreRow.holds Tryd.pinned (OpenSpec.ofChange topicMoreWrong)

/-- 'aqueductlaw07.TopicBack': WHATEVER THE INPUT: true; the input reads as it did. -/
def topicBackSpec : ChangeSpec := { name := "topicBack", fn := fun _ => fun
  | [d1, d2] => { results := [.lit (.bool true)], args := [d1, d2] }
  | _ => none }
def topicBackRow : OpenClaim := { program := "ytjkpmccnieodjaadoor", sum := "c6bf9f581647776406ecfde14195596393b44f7fb499bf958d765a0239d5d000", func := "aqueduct/aqueductlaw07.TopicBack", spec := "topicBack", inPlace := ["internal/bytealg.CountString", "internal/bytealg.IndexByteString", "internal/bytealg.IndexString", "internal/abi.NoEscape", "internal/bytealg.MakeNoZero"], unfollowed := true, recurses := true, named := ["unicode/utf8.first", "unicode/utf8.acceptRanges", "internal/bytealg.MaxLen"], apart := false, laid := [("unicode/utf8.acceptRanges", laid_unicode_utf8_acceptRanges), ("unicode/utf8.first", laid_unicode_utf8_first)] }
def TopicBackSaid : Prop := topicBackRow.holds Tryd.pinned (OpenSpec.ofChange topicBackSpec)

/-- ITS FALSE NEIGHBOUR: 'it returns false'. Refute it at one input. -/
def topicBackWrong : ChangeSpec := { name := "topicBack", fn := fun _ => fun
  | [d1, d2] => { results := [.lit (.bool false)], args := [d1, d2] }
  | _ => none }
def TopicBackWrongFalsely : Prop := topicBackRow.holds Tryd.pinned (OpenSpec.ofChange topicBackWrong)

/-- 'aqueductlaw07.TopicOwn': WHATEVER THE INPUT: true; the input reads as it did. -/
def topicOwnSpec : ChangeSpec := { name := "topicOwn", fn := fun _ => fun
  | [d1, d2, d3] => { results := [.lit (.bool true)], args := [d1, d2, d3] }
  | _ => none }
def topicOwnRow : OpenClaim := { program := "ytjkpmccnieodjaadoor", sum := "c6bf9f581647776406ecfde14195596393b44f7fb499bf958d765a0239d5d000", func := "aqueduct/aqueductlaw07.TopicOwn", spec := "topicOwn", inPlace := ["internal/bytealg.CountString", "internal/bytealg.IndexByteString", "internal/bytealg.IndexString", "internal/abi.NoEscape", "internal/bytealg.MakeNoZero"], unfollowed := true, recurses := true, named := ["unicode/utf8.first", "unicode/utf8.acceptRanges", "internal/bytealg.MaxLen"], apart := false, laid := [("unicode/utf8.acceptRanges", laid_unicode_utf8_acceptRanges), ("unicode/utf8.first", laid_unicode_utf8_first)] }
def TopicOwnSaid : Prop := topicOwnRow.holds Tryd.pinned (OpenSpec.ofChange topicOwnSpec)

/-- ITS FALSE NEIGHBOUR: 'it returns false'. Refute it at one input. -/
def topicOwnWrong : ChangeSpec := { name := "topicOwn", fn := fun _ => fun
  | [d1, d2, d3] => { results := [.lit (.bool false)], args := [d1, d2, d3] }
  | _ => none }
def TopicOwnWrongFalsely : Prop := topicOwnRow.holds Tryd.pinned (OpenSpec.ofChange topicOwnWrong)

/- THE SECOND FORM. 'bulk': how many values and letters a reading holds, each counted each time it is reached (what is shared counts as often as it is met; a slice's spare places count too). A statement '..UptoSaid' is the law's where the arguments, and the package variables that the reading takes, are together of bulk at most 1048576: NARROWER than '..Said'. Prove '..Said' where nothing that the law and all that it calls make is longer than what came in: it says more and counts as full. Else prove '..UptoSaid'. A law counts once. -/
mutual
def uptoBulk {H : Type} : DataW H → Nat
  | .lit (.string bytes) => bytes.length + 1
  | .lit _ => 1
  | .nil => 1
  | .ptr d => uptoBulk d + 1
  | .slice elems spare => uptoBulkAll elems + uptoBulkAll spare + 1
  | .agg parts => uptoBulkAll parts + 1
  | .iface _ d => uptoBulk d + 1
  | .map entries => uptoBulkEntries entries + 1
  | .held _ => 1
def uptoBulkAll {H : Type} : List (DataW H) → Nat
  | [] => 0
  | d :: r => uptoBulk d + uptoBulkAll r
def uptoBulkEntries {H : Type} : List (Lit × DataW H) → Nat
  | [] => 0
  | x :: r => uptoBulkEntry x + uptoBulkEntries r
def uptoBulkEntry {H : Type} : Lit × DataW H → Nat
  | (.string bytes, d) => bytes.length + uptoBulk d + 1
  | (_, d) => uptoBulk d + 1
 end
def uptoSmall : (H : Type) → List (DataW H) → Bool := fun _ ds => decide (uptoBulkAll ds ≤ 1048576)
def OpenSpec.upto (s : _root_.Go.ChangeSpec) : _root_.Go.OpenSpec := { _root_.Go.OpenSpec.ofChange s with cond := some uptoSmall }

/-- 'aqueductlaw07.TopicChecks', WHERE WHAT IT READS IS OF BULK AT MOST 1048576: true; the input reads as it did. -/
def topicChecksUptoRow : OpenClaim := { program := "ytjkpmccnieodjaadoor", sum := "c6bf9f581647776406ecfde14195596393b44f7fb499bf958d765a0239d5d000", func := "aqueduct/aqueductlaw07.TopicChecks", spec := "topicChecks", inPlace := ["internal/bytealg.CountString", "internal/bytealg.IndexByteString", "internal/bytealg.IndexString"], named := ["unicode/utf8.first", "unicode/utf8.acceptRanges", "internal/bytealg.MaxLen"], apart := false, laid := [("unicode/utf8.acceptRanges", laid_unicode_utf8_acceptRanges), ("unicode/utf8.first", laid_unicode_utf8_first)], narrowed := true }
def TopicChecksUptoSaid : Prop := topicChecksUptoRow.holds Tryd.pinned (OpenSpec.upto topicChecksSpec)

/-- 'aqueductlaw07.TopicLevels', WHERE WHAT IT READS IS OF BULK AT MOST 1048576: true; the input reads as it did. -/
def topicLevelsUptoRow : OpenClaim := { program := "ytjkpmccnieodjaadoor", sum := "c6bf9f581647776406ecfde14195596393b44f7fb499bf958d765a0239d5d000", func := "aqueduct/aqueductlaw07.TopicLevels", spec := "topicLevels", inPlace := ["internal/bytealg.CountString", "internal/bytealg.IndexByteString", "internal/bytealg.IndexString", "internal/abi.NoEscape", "internal/bytealg.MakeNoZero"], named := ["unicode/utf8.first", "unicode/utf8.acceptRanges", "internal/bytealg.MaxLen"], apart := false, laid := [("unicode/utf8.acceptRanges", laid_unicode_utf8_acceptRanges), ("unicode/utf8.first", laid_unicode_utf8_first)], narrowed := true }
def TopicLevelsUptoSaid : Prop := topicLevelsUptoRow.holds Tryd.pinned (OpenSpec.upto topicLevelsSpec)

/-- 'aqueductlaw07.TopicMatches', WHERE WHAT IT READS IS OF BULK AT MOST 1048576: true; the input reads as it did. -/
def topicMatchesUptoRow : OpenClaim := { program := "ytjkpmccnieodjaadoor", sum := "c6bf9f581647776406ecfde14195596393b44f7fb499bf958d765a0239d5d000", func := "aqueduct/aqueductlaw07.TopicMatches", spec := "topicMatches", inPlace := ["internal/bytealg.CountString", "internal/bytealg.IndexByteString", "internal/bytealg.IndexString"], unfollowed := true, recurses := true, named := ["unicode/utf8.first", "unicode/utf8.acceptRanges", "internal/bytealg.MaxLen"], apart := false, laid := [("unicode/utf8.acceptRanges", laid_unicode_utf8_acceptRanges), ("unicode/utf8.first", laid_unicode_utf8_first)], narrowed := true }
def TopicMatchesUptoSaid : Prop := topicMatchesUptoRow.holds Tryd.pinned (OpenSpec.upto topicMatchesSpec)

/-- 'aqueductlaw07.TopicMore', WHERE WHAT IT READS IS OF BULK AT MOST 1048576: true; the input reads as it did. -/
def topicMoreUptoRow : OpenClaim := { program := "ytjkpmccnieodjaadoor", sum := "c6bf9f581647776406ecfde14195596393b44f7fb499bf958d765a0239d5d000", func := "aqueduct/aqueductlaw07.TopicMore", spec := "topicMore", inPlace := ["internal/bytealg.CountString", "internal/bytealg.IndexByteString", "internal/bytealg.IndexString"], unfollowed := true, recurses := true, named := ["unicode/utf8.first", "unicode/utf8.acceptRanges", "internal/bytealg.MaxLen"], apart := false, laid := [("unicode/utf8.acceptRanges", laid_unicode_utf8_acceptRanges), ("unicode/utf8.first", laid_unicode_utf8_first)], narrowed := true }
def TopicMoreUptoSaid : Prop := topicMoreUptoRow.holds Tryd.pinned (OpenSpec.upto topicMoreSpec)

/-- 'aqueductlaw07.TopicBack', WHERE WHAT IT READS IS OF BULK AT MOST 1048576: true; the input reads as it did. -/
def topicBackUptoRow : OpenClaim := { program := "ytjkpmccnieodjaadoor", sum := "c6bf9f581647776406ecfde14195596393b44f7fb499bf958d765a0239d5d000", func := "aqueduct/aqueductlaw07.TopicBack", spec := "topicBack", inPlace := ["internal/bytealg.CountString", "internal/bytealg.IndexByteString", "internal/bytealg.IndexString", "internal/abi.NoEscape", "internal/bytealg.MakeNoZero"], unfollowed := true, recurses := true, named := ["unicode/utf8.first", "unicode/utf8.acceptRanges", "internal/bytealg.MaxLen"], apart := false, laid := [("unicode/utf8.acceptRanges", laid_unicode_utf8_acceptRanges), ("unicode/utf8.first", laid_unicode_utf8_first)], narrowed := true }
def TopicBackUptoSaid : Prop := topicBackUptoRow.holds Tryd.pinned (OpenSpec.upto topicBackSpec)

/-- 'aqueductlaw07.TopicOwn', WHERE WHAT IT READS IS OF BULK AT MOST 1048576: true; the input reads as it did. -/
def topicOwnUptoRow : OpenClaim := { program := "ytjkpmccnieodjaadoor", sum := "c6bf9f581647776406ecfde14195596393b44f7fb499bf958d765a0239d5d000", func := "aqueduct/aqueductlaw07.TopicOwn", spec := "topicOwn", inPlace := ["internal/bytealg.CountString", "internal/bytealg.IndexByteString", "internal/bytealg.IndexString", "internal/abi.NoEscape", "internal/bytealg.MakeNoZero"], unfollowed := true, recurses := true, named := ["unicode/utf8.first", "unicode/utf8.acceptRanges", "internal/bytealg.MaxLen"], apart := false, laid := [("unicode/utf8.acceptRanges", laid_unicode_utf8_acceptRanges), ("unicode/utf8.first", laid_unicode_utf8_first)], narrowed := true }
def TopicOwnUptoSaid : Prop := topicOwnUptoRow.holds Tryd.pinned (OpenSpec.upto topicOwnSpec)

end Rows
end Go.Proofs.YtjkpmccnieodjaaDoor

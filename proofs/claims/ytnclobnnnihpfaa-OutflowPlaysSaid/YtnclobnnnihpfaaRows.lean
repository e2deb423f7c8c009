/-
  No cell of these rows narrows 'for every input' (looked for: loops, veiled, ifaces, maps, wideKeys, modest, calm, conditions, laid).
  DERIVED. THE GIVEN ROWS OF THIS SEAT. 5 by the template 'for every input the law returns true; each argument reads behind the call as it read before'; 0 by the template 'total and deterministic' (their statements: YtnclobnnnihpfaaTotals.lean).
  GIVEN WITH THE SEED: the statements are not yours to turn. If you find one false, say at which input.
  Laid BY PROGRAM, IN A SANDBOX (cutbox-rows.mjs): the forced cells as the released guide's own fill.sh prints them over the translation 36d0661153a1ee0f… (all of the seat's roots in one cut). By AI agents, Wed Nov 11 2026. No macro, syntax, notation, axiom, sorry.
-/
import Derived.Test.YtnclobnnnihpfaaChecked
import GoSem.Claim
import GoSem.ClaimJoined
import GoSem.ClaimMapViews
import Derived.JoinedTies
import Derived.KernelRfl
namespace Go.Proofs.Ytnclobnnnihpfaa
/- THE CELL 'sum', in the pinned program and in every row, IS THE sha256 OF THE DUMP (.gsa) THAT YtnclobnnnihpfaaProg.lean LOADS. Nothing in Lean hashes anything: it is a label: what it is worth is what the hold of that sum in a sandbox is worth. -/
noncomputable def Try.pinned : Pinned := { name := "ytnclobnnnihpfaa", sum := "36d0661153a1ee0f0f3d84fad438a477e5ef7aba750b7fca2a8c3f4492e0cbba", checked := Try.checked }
namespace Rows
def none {H : Type} : Left H := { results := [], args := [] }

/-- 'aqueductlaw14.OutflowOnce': WHATEVER THE INPUT: true; the input reads as it did. -/
def outflowOnceSpec : ChangeSpec := { name := "outflowOnce", fn := fun _ => fun
  | [d1, d2] => { results := [.lit (.bool true)], args := [d1, d2] }
  | _ => none }
def outflowOnceRow : OpenClaim := { program := "ytnclobnnnihpfaa", sum := "36d0661153a1ee0f0f3d84fad438a477e5ef7aba750b7fca2a8c3f4492e0cbba", func := "aqueduct/aqueductlaw14.OutflowOnce", spec := "outflowOnce", unfollowed := true, recurses := true, apart := false }
def OutflowOnceSaid : Prop := outflowOnceRow.holds Try.pinned (OpenSpec.ofChange outflowOnceSpec)

/-- ITS FALSE NEIGHBOUR: 'it returns false'. Refute it at one input. -/
def outflowOnceWrong : ChangeSpec := { name := "outflowOnce", fn := fun _ => fun
  | [d1, d2] => { results := [.lit (.bool false)], args := [d1, d2] }
  | _ => none }
def OutflowOnceWrongFalsely : Prop := outflowOnceRow.holds Try.pinned (OpenSpec.ofChange outflowOnceWrong)

/-- 'aqueductlaw14.OutflowWindow': WHATEVER THE INPUT: true; the input reads as it did. -/
def outflowWindowSpec : ChangeSpec := { name := "outflowWindow", fn := fun _ => fun
  | [d1, d2] => { results := [.lit (.bool true)], args := [d1, d2] }
  | _ => none }
def outflowWindowRow : OpenClaim := { program := "ytnclobnnnihpfaa", sum := "36d0661153a1ee0f0f3d84fad438a477e5ef7aba750b7fca2a8c3f4492e0cbba", func := "aqueduct/aqueductlaw14.OutflowWindow", spec := "outflowWindow", unfollowed := true, recurses := true, apart := false }
def OutflowWindowSaid : Prop := outflowWindowRow.holds Try.pinned (OpenSpec.ofChange outflowWindowSpec)

/-- ITS FALSE NEIGHBOUR: 'it returns false'. Refute it at one input. -/
def outflowWindowWrong : ChangeSpec := { name := "outflowWindow", fn := fun _ => fun
  | [d1, d2] => { results := [.lit (.bool false)], args := [d1, d2] }
  | _ => none }
def OutflowWindowWrongFalsely : Prop := outflowWindowRow.holds Try.pinned (OpenSpec.ofChange outflowWindowWrong)

/-- 'aqueductlaw14.OutflowFull': WHATEVER THE INPUT: true; the input reads as it did. -/
def outflowFullSpec : ChangeSpec := { name := "outflowFull", fn := fun _ => fun
  | [d1, d2] => { results := [.lit (.bool true)], args := [d1, d2] }
  | _ => none }
def outflowFullRow : OpenClaim := { program := "ytnclobnnnihpfaa", sum := "36d0661153a1ee0f0f3d84fad438a477e5ef7aba750b7fca2a8c3f4492e0cbba", func := "aqueduct/aqueductlaw14.OutflowFull", spec := "outflowFull", unfollowed := true, recurses := true, apart := false }
def OutflowFullSaid : Prop := outflowFullRow.holds Try.pinned (OpenSpec.ofChange outflowFullSpec)

/-- ITS FALSE NEIGHBOUR: 'it returns false'. Refute it at one input. -/
def outflowFullWrong : ChangeSpec := { name := "outflowFull", fn := fun _ => fun
  | [d1, d2] => { results := [.lit (.bool false)], args := [d1, d2] }
  | _ => none }
def OutflowFullWrongFalsely : Prop := outflowFullRow.holds Try.pinned (OpenSpec.ofChange outflowFullWrong)

/-- 'aqueductlaw14.OutflowPlays': WHATEVER THE INPUT: true; the input reads as it did. -/
def outflowPlaysSpec : ChangeSpec := { name := "outflowPlays", fn := fun _ => fun
  | [d1, d2] => { results := [.lit (.bool true)], args := [d1, d2] }
  | _ => none }
def outflowPlaysRow : OpenClaim := { program := "ytnclobnnnihpfaa", sum := "36d0661153a1ee0f0f3d84fad438a477e5ef7aba750b7fca2a8c3f4492e0cbba", func := "aqueduct/aqueductlaw14.OutflowPlays", spec := "outflowPlays", unfollowed := true, recurses := true, apart := false }
def OutflowPlaysSaid : Prop := outflowPlaysRow.holds Try.pinned (OpenSpec.ofChange outflowPlaysSpec)

/-- ITS FALSE NEIGHBOUR: 'it returns false'. Refute it at one input. -/
def outflowPlaysWrong : ChangeSpec := { name := "outflowPlays", fn := fun _ => fun
  | [d1, d2] => { results := [.lit (.bool false)], args := [d1, d2] }
  | _ => none }
def OutflowPlaysWrongFalsely : Prop := outflowPlaysRow.holds Try.pinned (OpenSpec.ofChange outflowPlaysWrong)

/-- 'aqueductlaw14.OutflowNil': WHATEVER THE INPUT: true; the input reads as it did. -/
def outflowNilSpec : ChangeSpec := { name := "outflowNil", fn := fun _ => fun
  | [d] => { results := [.lit (.bool true)], args := [d] }
  | _ => none }
def outflowNilRow : OpenClaim := { program := "ytnclobnnnihpfaa", sum := "36d0661153a1ee0f0f3d84fad438a477e5ef7aba750b7fca2a8c3f4492e0cbba", func := "aqueduct/aqueductlaw14.OutflowNil", spec := "outflowNil", unfollowed := true, recurses := true, apart := false }
def OutflowNilSaid : Prop := outflowNilRow.holds Try.pinned (OpenSpec.ofChange outflowNilSpec)

/-- ITS FALSE NEIGHBOUR: 'it returns false'. Refute it at one input. -/
def outflowNilWrong : ChangeSpec := { name := "outflowNil", fn := fun _ => fun
  | [d] => { results := [.lit (.bool false)], args := [d] }
  | _ => none }
def OutflowNilWrongFalsely : Prop := outflowNilRow.holds Try.pinned (OpenSpec.ofChange outflowNilWrong)

/- THE SECOND FORM. 'bulk': how many values and letters a reading holds, each counted each time it is reached (what is shared counts as often as it is met; a slice's spare places count too). A statement '..UptoSaid' is the law's where the arguments, and the package variables that the reading takes, are together of bulk at most 1048576: NARROWER than '..Said'. Prove '..Said' where nothing that the law and all that it calls make is longer than what came in: it says more and counts as full. Else prove '..UptoSaid'. A law counts once. -/
mutual
def uptoBulk {H : Type} : DataW H → Nat
  | .lit (.string bytes) => bytes.length + 1
  | .lit _ => 1
  | .nil => 1
  | .ptr d => uptoBulk d + 1
  | .slice elems spare => uptoBulkAll elems + uptoBulkAll spare + 1
  | .agg parts => uptoBulkAll parts + 1
  | .iface _ d => uptoBulk d + 1
  | .map entries => uptoBulkEntries entries + 1
  | .held _ => 1
def uptoBulkAll {H : Type} : List (DataW H) → Nat
  | [] => 0
  | d :: r => uptoBulk d + uptoBulkAll r
def uptoBulkEntries {H : Type} : List (Lit × DataW H) → Nat
  | [] => 0
  | x :: r => uptoBulkEntry x + uptoBulkEntries r
def uptoBulkEntry {H : Type} : Lit × DataW H → Nat
  | (.string bytes, d) => bytes.length + uptoBulk d + 1
  | (_, d) => uptoBulk d + 1
 end
def uptoSmall : (H : Type) → List (DataW H) → Bool := fun _ ds => decide (uptoBulkAll ds ≤ 1048576)
def OpenSpec.upto (s : _root_.Go.ChangeSpec) : _root_.Go.OpenSpec := { _root_.Go.OpenSpec.ofChange s with cond := some uptoSmall }

/-- 'aqueductlaw14.OutflowOnce', WHERE WHAT IT READS IS OF BULK AT MOST 1048576: true; the input reads as it did. -/
def outflowOnceUptoRow : OpenClaim := { program := "ytnclobnnnihpfaa", sum := "36d0661153a1ee0f0f3d84fad438a477e5ef7aba750b7fca2a8c3f4492e0cbba", func := "aqueduct/aqueductlaw14.OutflowOnce", spec := "outflowOnce", unfollowed := true, recurses := true, apart := false, narrowed := true }
def OutflowOnceUptoSaid : Prop := outflowOnceUptoRow.holds Try.pinned (OpenSpec.upto outflowOnceSpec)

/-- 'aqueductlaw14.OutflowWindow', WHERE WHAT IT READS IS OF BULK AT MOST 1048576: true; the input reads as it did. -/
def outflowWindowUptoRow : OpenClaim := { program := "ytnclobnnnihpfaa", sum := "36d0661153a1ee0f0f3d84fad438a477e5ef7aba750b7fca2a8c3f4492e0cbba", func := "aqueduct/aqueductlaw14.OutflowWindow", spec := "outflowWindow", unfollowed := true, recurses := true, apart := false, narrowed := true }
def OutflowWindowUptoSaid : Prop := outflowWindowUptoRow.holds Try.pinned (OpenSpec.upto outflowWindowSpec)

/-- 'aqueductlaw14.OutflowFull', WHERE WHAT IT READS IS OF BULK AT MOST 1048576: true; the input reads as it did. -/
def outflowFullUptoRow : OpenClaim := { program := "ytnclobnnnihpfaa", sum := "36d0661153a1ee0f0f3d84fad438a477e5ef7aba750b7fca2a8c3f4492e0cbba", func := "aqueduct/aqueductlaw14.OutflowFull", spec := "outflowFull", unfollowed := true, recurses := true, apart := false, narrowed := true }
def OutflowFullUptoSaid : Prop := outflowFullUptoRow.holds Try.pinned (OpenSpec.upto outflowFullSpec)

/-- 'aqueductlaw14.OutflowPlays', WHERE WHAT IT READS IS OF BULK AT MOST 1048576: true; the input reads as it did. -/
def outflowPlaysUptoRow : OpenClaim := { program := "ytnclobnnnihpfaa", sum := "36d0661153a1ee0f0f3d84fad438a477e5ef7aba750b7fca2a8c3f4492e0cbba", func := "aqueduct/aqueductlaw14.OutflowPlays", spec := "outflowPlays", unfollowed := true, recurses := true, apart := false, narrowed := true }
def OutflowPlaysUptoSaid : Prop := outflowPlaysUptoRow.holds Try.pinned (OpenSpec.upto outflowPlaysSpec)

/-- 'aqueductlaw14.OutflowNil', WHERE WHAT IT READS IS OF BULK AT MOST 1048576: true; the input reads as it did. -/
def outflowNilUptoRow : OpenClaim := { program := "ytnclobnnnihpfaa", sum := "36d0661153a1ee0f0f3d84fad438a477e5ef7aba750b7fca2a8c3f4492e0cbba", func := "aqueduct/aqueductlaw14.OutflowNil", spec := "outflowNil", unfollowed := true, recurses := true, apart := false, narrowed := true }
def OutflowNilUptoSaid : Prop := outflowNilUptoRow.holds Try.pinned (OpenSpec.upto outflowNilSpec)

end Rows
end Go.Proofs.Ytnclobnnnihpfaa

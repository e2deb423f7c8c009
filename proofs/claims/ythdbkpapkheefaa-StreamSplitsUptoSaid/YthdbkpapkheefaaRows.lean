/-
  No cell of these rows narrows 'for every input' (looked for: loops, veiled, ifaces, maps, wideKeys, modest, calm, conditions, laid).
  DERIVED. THE GIVEN ROWS OF THIS SEAT. 4 by the template 'for every input the law returns true; each argument reads behind the call as it read before'; 0 by the template 'total and deterministic' (their statements: YthdbkpapkheefaaTotals.lean).
  GIVEN WITH THE SEED: the statements are not yours to turn. If you find one false, say at which input.
  Laid BY PROGRAM, IN A SANDBOX (cutbox-rows.mjs): the forced cells as the released guide's own fill.sh prints them over the translation 6cfbccd921ac544e… (all of the seat's roots in one cut). By AI agents, Wed Nov 11 2026. No macro, syntax, notation, axiom, sorry.
-/
import Derived.Test.YthdbkpapkheefaaChecked
import GoSem.Claim
import GoSem.ClaimJoined
import GoSem.ClaimMapViews
import Derived.JoinedTies
import Derived.KernelRfl
namespace Go.Proofs.Ythdbkpapkheefaa
/- THE CELL 'sum', in the pinned program and in every row, IS THE sha256 OF THE DUMP (.gsa) THAT YthdbkpapkheefaaProg.lean LOADS. Nothing in Lean hashes anything: it is a label: what it is worth is what the hold of that sum in a sandbox is worth. -/
noncomputable def Try.pinned : Pinned := { name := "ythdbkpapkheefaa", sum := "6cfbccd921ac544e3d42f1802fc3d7900f5b0fb5b51e6f33d521f1db1e4fcd00", checked := Try.checked }
namespace Rows
def none {H : Type} : Left H := { results := [], args := [] }

/-- 'aqueductlaw04.PropKinds': WHATEVER THE INPUT: true; the input reads as it did. -/
def propKindsSpec : ChangeSpec := { name := "propKinds", fn := fun _ => fun
  | [d] => { results := [.lit (.bool true)], args := [d] }
  | _ => none }
def propKindsRow : OpenClaim := { program := "ythdbkpapkheefaa", sum := "6cfbccd921ac544e3d42f1802fc3d7900f5b0fb5b51e6f33d521f1db1e4fcd00", func := "aqueduct/aqueductlaw04.PropKinds", spec := "propKinds", apart := false }
def PropKindsSaid : Prop := propKindsRow.holds Try.pinned (OpenSpec.ofChange propKindsSpec)

/-- ITS FALSE NEIGHBOUR: 'it returns false'. Refute it at one input. -/
def propKindsWrong : ChangeSpec := { name := "propKinds", fn := fun _ => fun
  | [d] => { results := [.lit (.bool false)], args := [d] }
  | _ => none }
def PropKindsWrongFalsely : Prop := propKindsRow.holds Try.pinned (OpenSpec.ofChange propKindsWrong)

/-- 'aqueductlaw04.PropFinds': WHATEVER THE INPUT: true; the input reads as it did. -/
def propFindsSpec : ChangeSpec := { name := "propFinds", fn := fun _ => fun
  | [d1, d2, d3] => { results := [.lit (.bool true)], args := [d1, d2, d3] }
  | _ => none }
def propFindsRow : OpenClaim := { program := "ythdbkpapkheefaa", sum := "6cfbccd921ac544e3d42f1802fc3d7900f5b0fb5b51e6f33d521f1db1e4fcd00", func := "aqueduct/aqueductlaw04.PropFinds", spec := "propFinds", unfollowed := true, recurses := true, apart := false }
def PropFindsSaid : Prop := propFindsRow.holds Try.pinned (OpenSpec.ofChange propFindsSpec)

/-- ITS FALSE NEIGHBOUR: 'it returns false'. Refute it at one input. -/
def propFindsWrong : ChangeSpec := { name := "propFinds", fn := fun _ => fun
  | [d1, d2, d3] => { results := [.lit (.bool false)], args := [d1, d2, d3] }
  | _ => none }
def PropFindsWrongFalsely : Prop := propFindsRow.holds Try.pinned (OpenSpec.ofChange propFindsWrong)

/-- 'aqueductlaw05.PacketAllows': WHATEVER THE INPUT: true; the input reads as it did. -/
def packetAllowsSpec : ChangeSpec := { name := "packetAllows", fn := fun _ => fun
  | [d1, d2] => { results := [.lit (.bool true)], args := [d1, d2] }
  | _ => none }
def packetAllowsRow : OpenClaim := { program := "ythdbkpapkheefaa", sum := "6cfbccd921ac544e3d42f1802fc3d7900f5b0fb5b51e6f33d521f1db1e4fcd00", func := "aqueduct/aqueductlaw05.PacketAllows", spec := "packetAllows", apart := false }
def PacketAllowsSaid : Prop := packetAllowsRow.holds Try.pinned (OpenSpec.ofChange packetAllowsSpec)

/-- ITS FALSE NEIGHBOUR: 'it returns false'. Refute it at one input. -/
def packetAllowsWrong : ChangeSpec := { name := "packetAllows", fn := fun _ => fun
  | [d1, d2] => { results := [.lit (.bool false)], args := [d1, d2] }
  | _ => none }
def PacketAllowsWrongFalsely : Prop := packetAllowsRow.holds Try.pinned (OpenSpec.ofChange packetAllowsWrong)

/-- 'aqueductlaw06.StreamSplits': WHATEVER THE INPUT: true; the input reads as it did. -/
def streamSplitsSpec : ChangeSpec := { name := "streamSplits", fn := fun _ => fun
  | [d1, d2] => { results := [.lit (.bool true)], args := [d1, d2] }
  | _ => none }
def streamSplitsRow : OpenClaim := { program := "ythdbkpapkheefaa", sum := "6cfbccd921ac544e3d42f1802fc3d7900f5b0fb5b51e6f33d521f1db1e4fcd00", func := "aqueduct/aqueductlaw06.StreamSplits", spec := "streamSplits", apart := false }
def StreamSplitsSaid : Prop := streamSplitsRow.holds Try.pinned (OpenSpec.ofChange streamSplitsSpec)

/-- ITS FALSE NEIGHBOUR: 'it returns false'. Refute it at one input. -/
def streamSplitsWrong : ChangeSpec := { name := "streamSplits", fn := fun _ => fun
  | [d1, d2] => { results := [.lit (.bool false)], args := [d1, d2] }
  | _ => none }
def StreamSplitsWrongFalsely : Prop := streamSplitsRow.holds Try.pinned (OpenSpec.ofChange streamSplitsWrong)

/- THE SECOND FORM. 'bulk': how many values and letters a reading holds, each counted each time it is reached (what is shared counts as often as it is met; a slice's spare places count too). A statement '..UptoSaid' is the law's where the arguments, and the package variables that the reading takes, are together of bulk at most 1048576: NARROWER than '..Said'. Prove '..Said' where nothing that the law and all that it calls make is longer than what came in: it says more and counts as full. Else prove '..UptoSaid'. A law counts once. -/
mutual
def uptoBulk {H : Type} : DataW H → Nat
  | .lit (.string bytes) => bytes.length + 1
  | .lit _ => 1
  | .nil => 1
  | .ptr d => uptoBulk d + 1
  | .slice elems spare => uptoBulkAll elems + uptoBulkAll spare + 1
  | .agg parts => uptoBulkAll parts + 1
  | .iface _ d => uptoBulk d + 1
  | .map entries => uptoBulkEntries entries + 1
  | .held _ => 1
def uptoBulkAll {H : Type} : List (DataW H) → Nat
  | [] => 0
  | d :: r => uptoBulk d + uptoBulkAll r
def uptoBulkEntries {H : Type} : List (Lit × DataW H) → Nat
  | [] => 0
  | x :: r => uptoBulkEntry x + uptoBulkEntries r
def uptoBulkEntry {H : Type} : Lit × DataW H → Nat
  | (.string bytes, d) => bytes.length + uptoBulk d + 1
  | (_, d) => uptoBulk d + 1
 end
def uptoSmall : (H : Type) → List (DataW H) → Bool := fun _ ds => decide (uptoBulkAll ds ≤ 1048576)
def OpenSpec.upto (s : _root_.Go.ChangeSpec) : _root_.Go.OpenSpec := { _root_.Go.OpenSpec.ofChange s with cond := some uptoSmall }

/-- 'aqueductlaw04.PropKinds', WHERE WHAT IT READS IS OF BULK AT MOST 1048576: true; the input reads as it did. -/
def propKindsUptoRow : OpenClaim := { program := "ythdbkpapkheefaa", sum := "6cfbccd921ac544e3d42f1802fc3d7900f5b0fb5b51e6f33d521f1db1e4fcd00", func := "aqueduct/aqueductlaw04.PropKinds", spec := "propKinds", apart := false, narrowed := true }
def PropKindsUptoSaid : Prop := propKindsUptoRow.holds Try.pinned (OpenSpec.upto propKindsSpec)

/-- 'aqueductlaw04.PropFinds', WHERE WHAT IT READS IS OF BULK AT MOST 1048576: true; the input reads as it did. -/
def propFindsUptoRow : OpenClaim := { program := "ythdbkpapkheefaa", sum := "6cfbccd921ac544e3d42f1802fc3d7900f5b0fb5b51e6f33d521f1db1e4fcd00", func := "aqueduct/aqueductlaw04.PropFinds", spec := "propFinds", unfollowed := true, recurses := true, apart := false, narrowed := true }
def PropFindsUptoSaid : Prop := propFindsUptoRow.holds Try.pinned (OpenSpec.upto propFindsSpec)

/-- 'aqueductlaw05.PacketAllows', WHERE WHAT IT READS IS OF BULK AT MOST 1048576: true; the input reads as it did. -/
def packetAllowsUptoRow : OpenClaim := { program := "ythdbkpapkheefaa", sum := "6cfbccd921ac544e3d42f1802fc3d7900f5b0fb5b51e6f33d521f1db1e4fcd00", func := "aqueduct/aqueductlaw05.PacketAllows", spec := "packetAllows", apart := false, narrowed := true }
def PacketAllowsUptoSaid : Prop := packetAllowsUptoRow.holds Try.pinned (OpenSpec.upto packetAllowsSpec)

/-- 'aqueductlaw06.StreamSplits', WHERE WHAT IT READS IS OF BULK AT MOST 1048576: true; the input reads as it did. -/
def streamSplitsUptoRow : OpenClaim := { program := "ythdbkpapkheefaa", sum := "6cfbccd921ac544e3d42f1802fc3d7900f5b0fb5b51e6f33d521f1db1e4fcd00", func := "aqueduct/aqueductlaw06.StreamSplits", spec := "streamSplits", apart := false, narrowed := true }
def StreamSplitsUptoSaid : Prop := streamSplitsUptoRow.holds Try.pinned (OpenSpec.upto streamSplitsSpec)

end Rows
end Go.Proofs.Ythdbkpapkheefaa

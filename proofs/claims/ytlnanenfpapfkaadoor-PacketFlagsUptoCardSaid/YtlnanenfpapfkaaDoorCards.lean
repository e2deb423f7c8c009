/-
  DERIVED. GIVEN WITH THE SEED: THE CARDS: each row of YtlnanenfpapfkaaDoorRows.lean that lists a variable, with what it lists TIED to the program's text (the seventh form; the later family's looks); each row that meets fmt, with fmt's text TOLD by the authors' own Lean function (tested against real Go, not proved from fmt's source: count such statements apart). THE CARD IS WHAT COUNTS. Prove the row's statement (the work); the ties are given (YtlnanenfpapfkaaDoorTie.lean); close each card by the builder's one call (the guide's Derived/Test/ToyasCard.lean, 'card_holds'). Laid BY PROGRAM, IN A SANDBOX (cutbox-door.mjs). By AI agents, Wed Nov 11 2026. No macro, syntax, notation, axiom, sorry.
-/
import Derived.Test.YtlnanenfpapfkaaDoorRows
import GoSem.ClaimSeven
namespace Go.Proofs.YtlnanenfpapfkaaDoor
namespace Rows

/-- THE TIED CARD OF 'aqueductlaw05.PacketPuts'. -/
def packetPutsCard : Claim7 := { stood := { row := packetPutsRow, standIns := [], harness := (true, "bc99cfc0ae286fb7b064897140e90999af089b4167cd803b28149df22b2f0097"), looks := true }, kinds := [], alts := [], laidByText := true, laidKinds := [.data, .pinned], laidTests := true, laidLooks := .later }
def PacketPutsCardSaid : Prop := Claim7.holds Tryd.pinned (.plain (OpenSpec.ofChange packetPutsSpec)) packetPutsCard

/-- THE TIED CARD OF 'aqueductlaw05.PacketBack'. -/
def packetBackCard : Claim7 := { stood := { row := packetBackRow, standIns := [], harness := (true, "bc99cfc0ae286fb7b064897140e90999af089b4167cd803b28149df22b2f0097"), looks := true }, kinds := [], alts := [], laidByText := true, laidKinds := [.data, .pinned], laidTests := true, laidLooks := .later }
def PacketBackCardSaid : Prop := Claim7.holds Tryd.pinned (.plain (OpenSpec.ofChange packetBackSpec)) packetBackCard

/-- THE TIED CARD OF 'aqueductlaw05.PacketTwice'. -/
def packetTwiceCard : Claim7 := { stood := { row := packetTwiceRow, standIns := [], harness := (true, "bc99cfc0ae286fb7b064897140e90999af089b4167cd803b28149df22b2f0097"), looks := true }, kinds := [], alts := [], laidByText := true, laidKinds := [.data, .pinned], laidTests := true, laidLooks := .later }
def PacketTwiceCardSaid : Prop := Claim7.holds Tryd.pinned (.plain (OpenSpec.ofChange packetTwiceSpec)) packetTwiceCard

/-- THE TIED CARD OF 'aqueductlaw05.PacketCuts'. -/
def packetCutsCard : Claim7 := { stood := { row := packetCutsRow, standIns := [], harness := (true, "bc99cfc0ae286fb7b064897140e90999af089b4167cd803b28149df22b2f0097"), looks := true }, kinds := [], alts := [], laidByText := true, laidKinds := [.data, .pinned], laidTests := true, laidLooks := .later }
def PacketCutsCardSaid : Prop := Claim7.holds Tryd.pinned (.plain (OpenSpec.ofChange packetCutsSpec)) packetCutsCard

/-- THE TIED CARD OF 'aqueductlaw05.PacketFlags'. -/
def packetFlagsCard : Claim7 := { stood := { row := packetFlagsRow, standIns := [], harness := (true, "bc99cfc0ae286fb7b064897140e90999af089b4167cd803b28149df22b2f0097"), looks := true }, kinds := [], alts := [], laidByText := true, laidKinds := [.data, .pinned], laidTests := true, laidLooks := .later }
def PacketFlagsCardSaid : Prop := Claim7.holds Tryd.pinned (.plain (OpenSpec.ofChange packetFlagsSpec)) packetFlagsCard

/-- THE SECOND FORM's CARD OF 'aqueductlaw05.PacketPuts'. -/
def packetPutsUptoCard : Claim7 := { stood := { row := packetPutsUptoRow, standIns := [], harness := (true, "bc99cfc0ae286fb7b064897140e90999af089b4167cd803b28149df22b2f0097"), looks := true }, kinds := [], alts := [], laidByText := true, laidKinds := [.data, .pinned], laidTests := true, laidLooks := .later }
def PacketPutsUptoCardSaid : Prop := Claim7.holds Tryd.pinned (.plain (OpenSpec.upto packetPutsSpec)) packetPutsUptoCard

/-- THE SECOND FORM's CARD OF 'aqueductlaw05.PacketBack'. -/
def packetBackUptoCard : Claim7 := { stood := { row := packetBackUptoRow, standIns := [], harness := (true, "bc99cfc0ae286fb7b064897140e90999af089b4167cd803b28149df22b2f0097"), looks := true }, kinds := [], alts := [], laidByText := true, laidKinds := [.data, .pinned], laidTests := true, laidLooks := .later }
def PacketBackUptoCardSaid : Prop := Claim7.holds Tryd.pinned (.plain (OpenSpec.upto packetBackSpec)) packetBackUptoCard

/-- THE SECOND FORM's CARD OF 'aqueductlaw05.PacketTwice'. -/
def packetTwiceUptoCard : Claim7 := { stood := { row := packetTwiceUptoRow, standIns := [], harness := (true, "bc99cfc0ae286fb7b064897140e90999af089b4167cd803b28149df22b2f0097"), looks := true }, kinds := [], alts := [], laidByText := true, laidKinds := [.data, .pinned], laidTests := true, laidLooks := .later }
def PacketTwiceUptoCardSaid : Prop := Claim7.holds Tryd.pinned (.plain (OpenSpec.upto packetTwiceSpec)) packetTwiceUptoCard

/-- THE SECOND FORM's CARD OF 'aqueductlaw05.PacketCuts'. -/
def packetCutsUptoCard : Claim7 := { stood := { row := packetCutsUptoRow, standIns := [], harness := (true, "bc99cfc0ae286fb7b064897140e90999af089b4167cd803b28149df22b2f0097"), looks := true }, kinds := [], alts := [], laidByText := true, laidKinds := [.data, .pinned], laidTests := true, laidLooks := .later }
def PacketCutsUptoCardSaid : Prop := Claim7.holds Tryd.pinned (.plain (OpenSpec.upto packetCutsSpec)) packetCutsUptoCard

/-- THE SECOND FORM's CARD OF 'aqueductlaw05.PacketFlags'. -/
def packetFlagsUptoCard : Claim7 := { stood := { row := packetFlagsUptoRow, standIns := [], harness := (true, "bc99cfc0ae286fb7b064897140e90999af089b4167cd803b28149df22b2f0097"), looks := true }, kinds := [], alts := [], laidByText := true, laidKinds := [.data, .pinned], laidTests := true, laidLooks := .later }
def PacketFlagsUptoCardSaid : Prop := Claim7.holds Tryd.pinned (.plain (OpenSpec.upto packetFlagsSpec)) packetFlagsUptoCard
end Rows
end Go.Proofs.YtlnanenfpapfkaaDoor

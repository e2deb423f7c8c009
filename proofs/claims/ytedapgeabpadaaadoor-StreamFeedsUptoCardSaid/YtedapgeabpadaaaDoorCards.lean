/-
  DERIVED. GIVEN WITH THE SEED: THE CARDS: each row of YtedapgeabpadaaaDoorRows.lean that lists a variable, with what it lists TIED to the program's text (the seventh form; the later family's looks); each row that meets fmt, with fmt's text TOLD by the authors' own Lean function (tested against real Go, not proved from fmt's source: count such statements apart). THE CARD IS WHAT COUNTS. Prove the row's statement (the work); the ties are given (YtedapgeabpadaaaDoorTie.lean); close each card by the builder's one call (the guide's Derived/Test/ToyasCard.lean, 'card_holds'). Laid BY PROGRAM, IN A SANDBOX (cutbox-door.mjs). By AI agents, Wed Nov 11 2026. No macro, syntax, notation, axiom, sorry.
-/
import Derived.Test.YtedapgeabpadaaaDoorRows
import GoSem.ClaimSeven
namespace Go.Proofs.YtedapgeabpadaaaDoor
namespace Rows

/-- THE TIED CARD OF 'aqueductlaw06.StreamFeeds'. -/
def streamFeedsCard : Claim7 := { stood := { row := streamFeedsRow, standIns := [], harness := (true, "9809857d24b730047f6e01f21f03856097a0a2a35a726ebaa99eb7d10115031a"), looks := true }, kinds := [], alts := [], laidByText := true, laidKinds := [.data, .pinned], laidTests := true, laidLooks := .later }
def StreamFeedsCardSaid : Prop := Claim7.holds Tryd.pinned (.plain (OpenSpec.ofChange streamFeedsSpec)) streamFeedsCard

/-- THE TIED CARD OF 'aqueductlaw06.StreamStops'. -/
def streamStopsCard : Claim7 := { stood := { row := streamStopsRow, standIns := [], harness := (true, "9809857d24b730047f6e01f21f03856097a0a2a35a726ebaa99eb7d10115031a"), looks := true }, kinds := [], alts := [], laidByText := true, laidKinds := [.data, .pinned], laidTests := true, laidLooks := .later }
def StreamStopsCardSaid : Prop := Claim7.holds Tryd.pinned (.plain (OpenSpec.ofChange streamStopsSpec)) streamStopsCard

/-- THE TIED CARD OF 'aqueductlaw06.StreamPieces'. -/
def streamPiecesCard : Claim7 := { stood := { row := streamPiecesRow, standIns := [], harness := (true, "9809857d24b730047f6e01f21f03856097a0a2a35a726ebaa99eb7d10115031a"), looks := true }, kinds := [], alts := [], laidByText := true, laidKinds := [.data, .pinned], laidTests := true, laidLooks := .later }
def StreamPiecesCardSaid : Prop := Claim7.holds Tryd.pinned (.plain (OpenSpec.ofChange streamPiecesSpec)) streamPiecesCard

/-- THE TIED CARD OF 'aqueductlaw06.StreamPackets'. -/
def streamPacketsCard : Claim7 := { stood := { row := streamPacketsRow, standIns := [], harness := (true, "9809857d24b730047f6e01f21f03856097a0a2a35a726ebaa99eb7d10115031a"), looks := true }, kinds := [], alts := [], laidByText := true, laidKinds := [.data, .pinned], laidTests := true, laidLooks := .later }
def StreamPacketsCardSaid : Prop := Claim7.holds Tryd.pinned (.plain (OpenSpec.ofChange streamPacketsSpec)) streamPacketsCard

/-- THE SECOND FORM's CARD OF 'aqueductlaw06.StreamFeeds'. -/
def streamFeedsUptoCard : Claim7 := { stood := { row := streamFeedsUptoRow, standIns := [], harness := (true, "9809857d24b730047f6e01f21f03856097a0a2a35a726ebaa99eb7d10115031a"), looks := true }, kinds := [], alts := [], laidByText := true, laidKinds := [.data, .pinned], laidTests := true, laidLooks := .later }
def StreamFeedsUptoCardSaid : Prop := Claim7.holds Tryd.pinned (.plain (OpenSpec.upto streamFeedsSpec)) streamFeedsUptoCard

/-- THE SECOND FORM's CARD OF 'aqueductlaw06.StreamStops'. -/
def streamStopsUptoCard : Claim7 := { stood := { row := streamStopsUptoRow, standIns := [], harness := (true, "9809857d24b730047f6e01f21f03856097a0a2a35a726ebaa99eb7d10115031a"), looks := true }, kinds := [], alts := [], laidByText := true, laidKinds := [.data, .pinned], laidTests := true, laidLooks := .later }
def StreamStopsUptoCardSaid : Prop := Claim7.holds Tryd.pinned (.plain (OpenSpec.upto streamStopsSpec)) streamStopsUptoCard

/-- THE SECOND FORM's CARD OF 'aqueductlaw06.StreamPieces'. -/
def streamPiecesUptoCard : Claim7 := { stood := { row := streamPiecesUptoRow, standIns := [], harness := (true, "9809857d24b730047f6e01f21f03856097a0a2a35a726ebaa99eb7d10115031a"), looks := true }, kinds := [], alts := [], laidByText := true, laidKinds := [.data, .pinned], laidTests := true, laidLooks := .later }
def StreamPiecesUptoCardSaid : Prop := Claim7.holds Tryd.pinned (.plain (OpenSpec.upto streamPiecesSpec)) streamPiecesUptoCard

/-- THE SECOND FORM's CARD OF 'aqueductlaw06.StreamPackets'. -/
def streamPacketsUptoCard : Claim7 := { stood := { row := streamPacketsUptoRow, standIns := [], harness := (true, "9809857d24b730047f6e01f21f03856097a0a2a35a726ebaa99eb7d10115031a"), looks := true }, kinds := [], alts := [], laidByText := true, laidKinds := [.data, .pinned], laidTests := true, laidLooks := .later }
def StreamPacketsUptoCardSaid : Prop := Claim7.holds Tryd.pinned (.plain (OpenSpec.upto streamPacketsSpec)) streamPacketsUptoCard
end Rows
end Go.Proofs.YtedapgeabpadaaaDoor

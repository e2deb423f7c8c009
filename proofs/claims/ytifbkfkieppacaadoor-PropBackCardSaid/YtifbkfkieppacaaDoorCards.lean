/-
  DERIVED. GIVEN WITH THE SEED: THE CARDS: each row of YtifbkfkieppacaaDoorRows.lean that lists a variable, with what it lists TIED to the program's text (the seventh form; the later family's looks); each row that meets fmt, with fmt's text TOLD by the authors' own Lean function (tested against real Go, not proved from fmt's source: count such statements apart). THE CARD IS WHAT COUNTS. Prove the row's statement (the work); the ties are given (YtifbkfkieppacaaDoorTie.lean); close each card by the builder's one call (the guide's Derived/Test/ToyasCard.lean, 'card_holds'). Laid BY PROGRAM, IN A SANDBOX (cutbox-door.mjs). By AI agents, Wed Nov 11 2026. No macro, syntax, notation, axiom, sorry.
-/
import Derived.Test.YtifbkfkieppacaaDoorRows
import GoSem.ClaimSeven
namespace Go.Proofs.YtifbkfkieppacaaDoor
namespace Rows

/-- THE TIED CARD OF 'aqueductlaw04.PropPuts'. -/
def propPutsCard : Claim7 := { stood := { row := propPutsRow, standIns := [], harness := (true, "2a527712ff64d69d1ad9317127d02e80f62a2d83937f415c72586e2af10ad766"), looks := false }, kinds := [], alts := [], laidByText := true, laidKinds := [.data, .pinned], laidTests := true, laidLooks := .later }
def PropPutsCardSaid : Prop := Claim7.holds Tryd.pinned (.plain (OpenSpec.ofChange propPutsSpec)) propPutsCard

/-- THE TIED CARD OF 'aqueductlaw04.PropGets'. -/
def propGetsCard : Claim7 := { stood := { row := propGetsRow, standIns := [], harness := (true, "2a527712ff64d69d1ad9317127d02e80f62a2d83937f415c72586e2af10ad766"), looks := false }, kinds := [], alts := [], laidByText := true, laidKinds := [.data, .pinned], laidTests := true, laidLooks := .later }
def PropGetsCardSaid : Prop := Claim7.holds Tryd.pinned (.plain (OpenSpec.ofChange propGetsSpec)) propGetsCard

/-- THE TIED CARD OF 'aqueductlaw04.PropBack'. -/
def propBackCard : Claim7 := { stood := { row := propBackRow, standIns := [], harness := (true, "2a527712ff64d69d1ad9317127d02e80f62a2d83937f415c72586e2af10ad766"), looks := false }, kinds := [], alts := [], laidByText := true, laidKinds := [.data, .pinned], laidTests := true, laidLooks := .later }
def PropBackCardSaid : Prop := Claim7.holds Tryd.pinned (.plain (OpenSpec.ofChange propBackSpec)) propBackCard

/-- THE TIED CARD OF 'aqueductlaw04.PropCuts'. -/
def propCutsCard : Claim7 := { stood := { row := propCutsRow, standIns := [], harness := (true, "2a527712ff64d69d1ad9317127d02e80f62a2d83937f415c72586e2af10ad766"), looks := false }, kinds := [], alts := [], laidByText := true, laidKinds := [.data, .pinned], laidTests := true, laidLooks := .later }
def PropCutsCardSaid : Prop := Claim7.holds Tryd.pinned (.plain (OpenSpec.ofChange propCutsSpec)) propCutsCard

/-- THE SECOND FORM's CARD OF 'aqueductlaw04.PropPuts'. -/
def propPutsUptoCard : Claim7 := { stood := { row := propPutsUptoRow, standIns := [], harness := (true, "2a527712ff64d69d1ad9317127d02e80f62a2d83937f415c72586e2af10ad766"), looks := false }, kinds := [], alts := [], laidByText := true, laidKinds := [.data, .pinned], laidTests := true, laidLooks := .later }
def PropPutsUptoCardSaid : Prop := Claim7.holds Tryd.pinned (.plain (OpenSpec.upto propPutsSpec)) propPutsUptoCard

/-- THE SECOND FORM's CARD OF 'aqueductlaw04.PropGets'. -/
def propGetsUptoCard : Claim7 := { stood := { row := propGetsUptoRow, standIns := [], harness := (true, "2a527712ff64d69d1ad9317127d02e80f62a2d83937f415c72586e2af10ad766"), looks := false }, kinds := [], alts := [], laidByText := true, laidKinds := [.data, .pinned], laidTests := true, laidLooks := .later }
def PropGetsUptoCardSaid : Prop := Claim7.holds Tryd.pinned (.plain (OpenSpec.upto propGetsSpec)) propGetsUptoCard

/-- THE SECOND FORM's CARD OF 'aqueductlaw04.PropBack'. -/
def propBackUptoCard : Claim7 := { stood := { row := propBackUptoRow, standIns := [], harness := (true, "2a527712ff64d69d1ad9317127d02e80f62a2d83937f415c72586e2af10ad766"), looks := false }, kinds := [], alts := [], laidByText := true, laidKinds := [.data, .pinned], laidTests := true, laidLooks := .later }
def PropBackUptoCardSaid : Prop := Claim7.holds Tryd.pinned (.plain (OpenSpec.upto propBackSpec)) propBackUptoCard

/-- THE SECOND FORM's CARD OF 'aqueductlaw04.PropCuts'. -/
def propCutsUptoCard : Claim7 := { stood := { row := propCutsUptoRow, standIns := [], harness := (true, "2a527712ff64d69d1ad9317127d02e80f62a2d83937f415c72586e2af10ad766"), looks := false }, kinds := [], alts := [], laidByText := true, laidKinds := [.data, .pinned], laidTests := true, laidLooks := .later }
def PropCutsUptoCardSaid : Prop := Claim7.holds Tryd.pinned (.plain (OpenSpec.upto propCutsSpec)) propCutsUptoCard
end Rows
end Go.Proofs.YtifbkfkieppacaaDoor

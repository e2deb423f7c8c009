/-
  DERIVED. GIVEN WITH THE SEED: THE CARDS: each row of YtenoaonlngndpaaDoorRows.lean that lists a variable, with what it lists TIED to the program's text (the seventh form; the later family's looks); each row that meets fmt, with fmt's text TOLD by the authors' own Lean function (tested against real Go, not proved from fmt's source: count such statements apart). THE CARD IS WHAT COUNTS. Prove the row's statement (the work); the ties are given (YtenoaonlngndpaaDoorTie.lean); close each card by the builder's one call (the guide's Derived/Test/ToyasCard.lean, 'card_holds'). Laid BY PROGRAM, IN A SANDBOX (cutbox-door.mjs). By AI agents, Wed Nov 11 2026. No macro, syntax, notation, axiom, sorry.
-/
import Derived.Test.YtenoaonlngndpaaDoorRows
import GoSem.ClaimSeven
namespace Go.Proofs.YtenoaonlngndpaaDoor
namespace Rows

/-- THE TIED CARD OF 'aqueductlaw22.ChasePlaces'. -/
def chasePlacesCard : Claim7 := { stood := { row := chasePlacesRow, standIns := [], harness := (true, "1a7dd969b44745e7f35186c707d72a979659c7c908b044c2c12ca5af17e7e698"), looks := false }, kinds := [], alts := [], laidByText := true, laidKinds := [.data, .pinned], laidTests := true, laidLooks := .later }
def ChasePlacesCardSaid : Prop := Claim7.holds Tryd.pinned (.plain (OpenSpec.ofChange chasePlacesSpec)) chasePlacesCard

/-- THE TIED CARD OF 'aqueductlaw22.ChaseWants'. -/
def chaseWantsCard : Claim7 := { stood := { row := chaseWantsRow, standIns := [], harness := (true, "1a7dd969b44745e7f35186c707d72a979659c7c908b044c2c12ca5af17e7e698"), looks := false }, kinds := [], alts := [], laidByText := true, laidKinds := [.data, .pinned], laidTests := true, laidLooks := .later }
def ChaseWantsCardSaid : Prop := Claim7.holds Tryd.pinned (.plain (OpenSpec.ofChange chaseWantsSpec)) chaseWantsCard

/-- THE TIED CARD OF 'aqueductlaw22.ChaseSafe'. -/
def chaseSafeCard : Claim7 := { stood := { row := chaseSafeRow, standIns := [], harness := (true, "1a7dd969b44745e7f35186c707d72a979659c7c908b044c2c12ca5af17e7e698"), looks := false }, kinds := [], alts := [], laidByText := true, laidKinds := [.data, .pinned], laidTests := true, laidLooks := .later }
def ChaseSafeCardSaid : Prop := Claim7.holds Tryd.pinned (.plain (OpenSpec.ofChange chaseSafeSpec)) chaseSafeCard

/-- THE TIED CARD OF 'aqueductlaw22.ChaseWays'. -/
def chaseWaysCard : Claim7 := { stood := { row := chaseWaysRow, standIns := [], harness := (true, "1a7dd969b44745e7f35186c707d72a979659c7c908b044c2c12ca5af17e7e698"), looks := false }, kinds := [], alts := [], laidByText := true, laidKinds := [.data, .pinned], laidTests := true, laidLooks := .later }
def ChaseWaysCardSaid : Prop := Claim7.holds Tryd.pinned (.plain (OpenSpec.ofChange chaseWaysSpec)) chaseWaysCard

/-- THE SECOND FORM's CARD OF 'aqueductlaw22.ChasePlaces'. -/
def chasePlacesUptoCard : Claim7 := { stood := { row := chasePlacesUptoRow, standIns := [], harness := (true, "1a7dd969b44745e7f35186c707d72a979659c7c908b044c2c12ca5af17e7e698"), looks := false }, kinds := [], alts := [], laidByText := true, laidKinds := [.data, .pinned], laidTests := true, laidLooks := .later }
def ChasePlacesUptoCardSaid : Prop := Claim7.holds Tryd.pinned (.plain (OpenSpec.upto chasePlacesSpec)) chasePlacesUptoCard

/-- THE SECOND FORM's CARD OF 'aqueductlaw22.ChaseWants'. -/
def chaseWantsUptoCard : Claim7 := { stood := { row := chaseWantsUptoRow, standIns := [], harness := (true, "1a7dd969b44745e7f35186c707d72a979659c7c908b044c2c12ca5af17e7e698"), looks := false }, kinds := [], alts := [], laidByText := true, laidKinds := [.data, .pinned], laidTests := true, laidLooks := .later }
def ChaseWantsUptoCardSaid : Prop := Claim7.holds Tryd.pinned (.plain (OpenSpec.upto chaseWantsSpec)) chaseWantsUptoCard

/-- THE SECOND FORM's CARD OF 'aqueductlaw22.ChaseSafe'. -/
def chaseSafeUptoCard : Claim7 := { stood := { row := chaseSafeUptoRow, standIns := [], harness := (true, "1a7dd969b44745e7f35186c707d72a979659c7c908b044c2c12ca5af17e7e698"), looks := false }, kinds := [], alts := [], laidByText := true, laidKinds := [.data, .pinned], laidTests := true, laidLooks := .later }
def ChaseSafeUptoCardSaid : Prop := Claim7.holds Tryd.pinned (.plain (OpenSpec.upto chaseSafeSpec)) chaseSafeUptoCard

/-- THE SECOND FORM's CARD OF 'aqueductlaw22.ChaseWays'. -/
def chaseWaysUptoCard : Claim7 := { stood := { row := chaseWaysUptoRow, standIns := [], harness := (true, "1a7dd969b44745e7f35186c707d72a979659c7c908b044c2c12ca5af17e7e698"), looks := false }, kinds := [], alts := [], laidByText := true, laidKinds := [.data, .pinned], laidTests := true, laidLooks := .later }
def ChaseWaysUptoCardSaid : Prop := Claim7.holds Tryd.pinned (.plain (OpenSpec.upto chaseWaysSpec)) chaseWaysUptoCard
end Rows
end Go.Proofs.YtenoaonlngndpaaDoor

/-
  DERIVED. GIVEN WITH THE SEED: THE CARDS: each row of YtichhppfdjkgkaaDoorRows.lean that lists a variable, with what it lists TIED to the program's text (the seventh form; the later family's looks); each row that meets fmt, with fmt's text TOLD by the authors' own Lean function (tested against real Go, not proved from fmt's source: count such statements apart). THE CARD IS WHAT COUNTS. Prove the row's statement (the work); the ties are given (YtichhppfdjkgkaaDoorTie.lean); close each card by the builder's one call (the guide's Derived/Test/ToyasCard.lean, 'card_holds'). Laid BY PROGRAM, IN A SANDBOX (cutbox-door.mjs). By AI agents, Wed Nov 11 2026. No macro, syntax, notation, axiom, sorry.
-/
import Derived.Test.YtichhppfdjkgkaaDoorRows
import GoSem.ClaimSeven
namespace Go.Proofs.YtichhppfdjkgkaaDoor
namespace Rows

/-- THE TIED CARD OF 'aqueductlaw08.OverlapHolds'. -/
def overlapHoldsCard : Claim7 := { stood := { row := overlapHoldsRow, standIns := [], harness := (true, "2e0b3e4899a6a27214da861148621f874c5cbf795dae703f9542413fde6b58f3"), looks := false }, kinds := [], alts := [], laidByText := true, laidKinds := [.data, .pinned], laidTests := true, laidLooks := .later }
def OverlapHoldsCardSaid : Prop := Claim7.holds Tryd.pinned (.plain (OpenSpec.ofChange overlapHoldsSpec)) overlapHoldsCard

/-- THE TIED CARD OF 'aqueductlaw08.OverlapWitness'. -/
def overlapWitnessCard : Claim7 := { stood := { row := overlapWitnessRow, standIns := [], harness := (true, "2e0b3e4899a6a27214da861148621f874c5cbf795dae703f9542413fde6b58f3"), looks := false }, kinds := [], alts := [], laidByText := true, laidKinds := [.data, .pinned], laidTests := true, laidLooks := .later }
def OverlapWitnessCardSaid : Prop := Claim7.holds Tryd.pinned (.plain (OpenSpec.ofChange overlapWitnessSpec)) overlapWitnessCard

/-- THE TIED CARD OF 'aqueductlaw08.OverlapGap'. -/
def overlapGapCard : Claim7 := { stood := { row := overlapGapRow, standIns := [], harness := (true, "2e0b3e4899a6a27214da861148621f874c5cbf795dae703f9542413fde6b58f3"), looks := false }, kinds := [], alts := [], laidByText := true, laidKinds := [.data, .pinned], laidTests := true, laidLooks := .later }
def OverlapGapCardSaid : Prop := Claim7.holds Tryd.pinned (.plain (OpenSpec.ofChange overlapGapSpec)) overlapGapCard

/-- THE TIED CARD OF 'aqueductlaw08.OverlapCovers'. -/
def overlapCoversCard : Claim7 := { stood := { row := overlapCoversRow, standIns := [], harness := (true, "2e0b3e4899a6a27214da861148621f874c5cbf795dae703f9542413fde6b58f3"), looks := false }, kinds := [], alts := [], laidByText := true, laidKinds := [.data, .pinned], laidTests := true, laidLooks := .later }
def OverlapCoversCardSaid : Prop := Claim7.holds Tryd.pinned (.plain (OpenSpec.ofChange overlapCoversSpec)) overlapCoversCard

/-- THE TIED CARD OF 'aqueductlaw08.OverlapOrders'. -/
def overlapOrdersCard : Claim7 := { stood := { row := overlapOrdersRow, standIns := [], harness := (true, "2e0b3e4899a6a27214da861148621f874c5cbf795dae703f9542413fde6b58f3"), looks := false }, kinds := [], alts := [], laidByText := true, laidKinds := [.data, .pinned], laidTests := true, laidLooks := .later }
def OverlapOrdersCardSaid : Prop := Claim7.holds Tryd.pinned (.plain (OpenSpec.ofChange overlapOrdersSpec)) overlapOrdersCard

/-- THE TIED CARD OF 'aqueductlaw08.OverlapReduces'. -/
def overlapReducesCard : Claim7 := { stood := { row := overlapReducesRow, standIns := [], harness := (true, "2e0b3e4899a6a27214da861148621f874c5cbf795dae703f9542413fde6b58f3"), looks := false }, kinds := [], alts := [], laidByText := true, laidKinds := [.data, .pinned], laidTests := true, laidLooks := .later }
def OverlapReducesCardSaid : Prop := Claim7.holds Tryd.pinned (.plain (OpenSpec.ofChange overlapReducesSpec)) overlapReducesCard

/-- THE TIED CARD OF 'aqueductlaw08.OverlapTopics'. -/
def overlapTopicsCard : Claim7 := { stood := { row := overlapTopicsRow, standIns := [], harness := (true, "2e0b3e4899a6a27214da861148621f874c5cbf795dae703f9542413fde6b58f3"), looks := false }, kinds := [], alts := [], laidByText := true, laidKinds := [.data, .pinned], laidTests := true, laidLooks := .later }
def OverlapTopicsCardSaid : Prop := Claim7.holds Tryd.pinned (.plain (OpenSpec.ofChange overlapTopicsSpec)) overlapTopicsCard

/-- THE TIED CARD OF 'aqueductlaw08.OverlapSame'. -/
def overlapSameCard : Claim7 := { stood := { row := overlapSameRow, standIns := [], harness := (true, "2e0b3e4899a6a27214da861148621f874c5cbf795dae703f9542413fde6b58f3"), looks := false }, kinds := [], alts := [], laidByText := true, laidKinds := [.data, .pinned], laidTests := true, laidLooks := .later }
def OverlapSameCardSaid : Prop := Claim7.holds Tryd.pinned (.plain (OpenSpec.ofChange overlapSameSpec)) overlapSameCard

/-- THE SECOND FORM's CARD OF 'aqueductlaw08.OverlapHolds'. -/
def overlapHoldsUptoCard : Claim7 := { stood := { row := overlapHoldsUptoRow, standIns := [], harness := (true, "2e0b3e4899a6a27214da861148621f874c5cbf795dae703f9542413fde6b58f3"), looks := false }, kinds := [], alts := [], laidByText := true, laidKinds := [.data, .pinned], laidTests := true, laidLooks := .later }
def OverlapHoldsUptoCardSaid : Prop := Claim7.holds Tryd.pinned (.plain (OpenSpec.upto overlapHoldsSpec)) overlapHoldsUptoCard

/-- THE SECOND FORM's CARD OF 'aqueductlaw08.OverlapWitness'. -/
def overlapWitnessUptoCard : Claim7 := { stood := { row := overlapWitnessUptoRow, standIns := [], harness := (true, "2e0b3e4899a6a27214da861148621f874c5cbf795dae703f9542413fde6b58f3"), looks := false }, kinds := [], alts := [], laidByText := true, laidKinds := [.data, .pinned], laidTests := true, laidLooks := .later }
def OverlapWitnessUptoCardSaid : Prop := Claim7.holds Tryd.pinned (.plain (OpenSpec.upto overlapWitnessSpec)) overlapWitnessUptoCard

/-- THE SECOND FORM's CARD OF 'aqueductlaw08.OverlapGap'. -/
def overlapGapUptoCard : Claim7 := { stood := { row := overlapGapUptoRow, standIns := [], harness := (true, "2e0b3e4899a6a27214da861148621f874c5cbf795dae703f9542413fde6b58f3"), looks := false }, kinds := [], alts := [], laidByText := true, laidKinds := [.data, .pinned], laidTests := true, laidLooks := .later }
def OverlapGapUptoCardSaid : Prop := Claim7.holds Tryd.pinned (.plain (OpenSpec.upto overlapGapSpec)) overlapGapUptoCard

/-- THE SECOND FORM's CARD OF 'aqueductlaw08.OverlapCovers'. -/
def overlapCoversUptoCard : Claim7 := { stood := { row := overlapCoversUptoRow, standIns := [], harness := (true, "2e0b3e4899a6a27214da861148621f874c5cbf795dae703f9542413fde6b58f3"), looks := false }, kinds := [], alts := [], laidByText := true, laidKinds := [.data, .pinned], laidTests := true, laidLooks := .later }
def OverlapCoversUptoCardSaid : Prop := Claim7.holds Tryd.pinned (.plain (OpenSpec.upto overlapCoversSpec)) overlapCoversUptoCard

/-- THE SECOND FORM's CARD OF 'aqueductlaw08.OverlapOrders'. -/
def overlapOrdersUptoCard : Claim7 := { stood := { row := overlapOrdersUptoRow, standIns := [], harness := (true, "2e0b3e4899a6a27214da861148621f874c5cbf795dae703f9542413fde6b58f3"), looks := false }, kinds := [], alts := [], laidByText := true, laidKinds := [.data, .pinned], laidTests := true, laidLooks := .later }
def OverlapOrdersUptoCardSaid : Prop := Claim7.holds Tryd.pinned (.plain (OpenSpec.upto overlapOrdersSpec)) overlapOrdersUptoCard

/-- THE SECOND FORM's CARD OF 'aqueductlaw08.OverlapReduces'. -/
def overlapReducesUptoCard : Claim7 := { stood := { row := overlapReducesUptoRow, standIns := [], harness := (true, "2e0b3e4899a6a27214da861148621f874c5cbf795dae703f9542413fde6b58f3"), looks := false }, kinds := [], alts := [], laidByText := true, laidKinds := [.data, .pinned], laidTests := true, laidLooks := .later }
def OverlapReducesUptoCardSaid : Prop := Claim7.holds Tryd.pinned (.plain (OpenSpec.upto overlapReducesSpec)) overlapReducesUptoCard

/-- THE SECOND FORM's CARD OF 'aqueductlaw08.OverlapTopics'. -/
def overlapTopicsUptoCard : Claim7 := { stood := { row := overlapTopicsUptoRow, standIns := [], harness := (true, "2e0b3e4899a6a27214da861148621f874c5cbf795dae703f9542413fde6b58f3"), looks := false }, kinds := [], alts := [], laidByText := true, laidKinds := [.data, .pinned], laidTests := true, laidLooks := .later }
def OverlapTopicsUptoCardSaid : Prop := Claim7.holds Tryd.pinned (.plain (OpenSpec.upto overlapTopicsSpec)) overlapTopicsUptoCard

/-- THE SECOND FORM's CARD OF 'aqueductlaw08.OverlapSame'. -/
def overlapSameUptoCard : Claim7 := { stood := { row := overlapSameUptoRow, standIns := [], harness := (true, "2e0b3e4899a6a27214da861148621f874c5cbf795dae703f9542413fde6b58f3"), looks := false }, kinds := [], alts := [], laidByText := true, laidKinds := [.data, .pinned], laidTests := true, laidLooks := .later }
def OverlapSameUptoCardSaid : Prop := Claim7.holds Tryd.pinned (.plain (OpenSpec.upto overlapSameSpec)) overlapSameUptoCard
end Rows
end Go.Proofs.YtichhppfdjkgkaaDoor

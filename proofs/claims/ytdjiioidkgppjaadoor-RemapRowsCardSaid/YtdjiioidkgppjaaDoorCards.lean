/-
  DERIVED. GIVEN WITH THE SEED: THE CARDS: each row of YtdjiioidkgppjaaDoorRows.lean that lists a variable, with what it lists TIED to the program's text (the seventh form; the later family's looks); each row that meets fmt, with fmt's text TOLD by the authors' own Lean function (tested against real Go, not proved from fmt's source: count such statements apart). THE CARD IS WHAT COUNTS. Prove the row's statement (the work); the ties are given (YtdjiioidkgppjaaDoorTie.lean); close each card by the builder's one call (the guide's Derived/Test/ToyasCard.lean, 'card_holds'). Laid BY PROGRAM, IN A SANDBOX (cutbox-door.mjs). By AI agents, Wed Nov 11 2026. No macro, syntax, notation, axiom, sorry.
-/
import Derived.Test.YtdjiioidkgppjaaDoorRows
import GoSem.ClaimSeven
namespace Go.Proofs.YtdjiioidkgppjaaDoor
namespace Rows

/-- THE TIED CARD OF 'aqueductlaw10.RemapChecks'. -/
def remapChecksCard : Claim7 := { stood := { row := remapChecksRow, standIns := [], harness := (true, "b2e41687643280a6e9b7d6cc10462fb63ecb7034c421bcf511018b7c78d40776"), looks := false }, kinds := [], alts := [], laidByText := true, laidKinds := [.data, .pinned], laidTests := true, laidLooks := .later }
def RemapChecksCardSaid : Prop := Claim7.holds Tryd.pinned (.plain (OpenSpec.ofChange remapChecksSpec)) remapChecksCard

/-- THE TIED CARD OF 'aqueductlaw10.RemapHops'. -/
def remapHopsCard : Claim7 := { stood := { row := remapHopsRow, standIns := [], harness := (true, "b2e41687643280a6e9b7d6cc10462fb63ecb7034c421bcf511018b7c78d40776"), looks := false }, kinds := [], alts := [], laidByText := true, laidKinds := [.data, .pinned], laidTests := true, laidLooks := .later }
def RemapHopsCardSaid : Prop := Claim7.holds Tryd.pinned (.plain (OpenSpec.ofChange remapHopsSpec)) remapHopsCard

/-- THE TIED CARD OF 'aqueductlaw10.RemapRows'. -/
def remapRowsCard : Claim7 := { stood := { row := remapRowsRow, standIns := [], harness := (true, "b2e41687643280a6e9b7d6cc10462fb63ecb7034c421bcf511018b7c78d40776"), looks := false }, kinds := [], alts := [], laidByText := true, laidKinds := [.data, .pinned], laidTests := true, laidLooks := .later }
def RemapRowsCardSaid : Prop := Claim7.holds Tryd.pinned (.plain (OpenSpec.ofChange remapRowsSpec)) remapRowsCard

/-- THE TIED CARD OF 'aqueductlaw10.RemapTurns'. -/
def remapTurnsCard : Claim7 := { stood := { row := remapTurnsRow, standIns := [], harness := (true, "b2e41687643280a6e9b7d6cc10462fb63ecb7034c421bcf511018b7c78d40776"), looks := false }, kinds := [], alts := [], laidByText := true, laidKinds := [.data, .pinned], laidTests := true, laidLooks := .later }
def RemapTurnsCardSaid : Prop := Claim7.holds Tryd.pinned (.plain (OpenSpec.ofChange remapTurnsSpec)) remapTurnsCard

/-- THE TIED CARD OF 'aqueductlaw10.RemapBack'. -/
def remapBackCard : Claim7 := { stood := { row := remapBackRow, standIns := [], harness := (true, "b2e41687643280a6e9b7d6cc10462fb63ecb7034c421bcf511018b7c78d40776"), looks := false }, kinds := [], alts := [], laidByText := true, laidKinds := [.data, .pinned], laidTests := true, laidLooks := .later }
def RemapBackCardSaid : Prop := Claim7.holds Tryd.pinned (.plain (OpenSpec.ofChange remapBackSpec)) remapBackCard

/-- THE TIED CARD OF 'aqueductlaw10.RemapRoutes'. -/
def remapRoutesCard : Claim7 := { stood := { row := remapRoutesRow, standIns := [], harness := (true, "b2e41687643280a6e9b7d6cc10462fb63ecb7034c421bcf511018b7c78d40776"), looks := false }, kinds := [], alts := [], laidByText := true, laidKinds := [.data, .pinned], laidTests := true, laidLooks := .later }
def RemapRoutesCardSaid : Prop := Claim7.holds Tryd.pinned (.plain (OpenSpec.ofChange remapRoutesSpec)) remapRoutesCard

/-- THE SECOND FORM's CARD OF 'aqueductlaw10.RemapChecks'. -/
def remapChecksUptoCard : Claim7 := { stood := { row := remapChecksUptoRow, standIns := [], harness := (true, "b2e41687643280a6e9b7d6cc10462fb63ecb7034c421bcf511018b7c78d40776"), looks := false }, kinds := [], alts := [], laidByText := true, laidKinds := [.data, .pinned], laidTests := true, laidLooks := .later }
def RemapChecksUptoCardSaid : Prop := Claim7.holds Tryd.pinned (.plain (OpenSpec.upto remapChecksSpec)) remapChecksUptoCard

/-- THE SECOND FORM's CARD OF 'aqueductlaw10.RemapHops'. -/
def remapHopsUptoCard : Claim7 := { stood := { row := remapHopsUptoRow, standIns := [], harness := (true, "b2e41687643280a6e9b7d6cc10462fb63ecb7034c421bcf511018b7c78d40776"), looks := false }, kinds := [], alts := [], laidByText := true, laidKinds := [.data, .pinned], laidTests := true, laidLooks := .later }
def RemapHopsUptoCardSaid : Prop := Claim7.holds Tryd.pinned (.plain (OpenSpec.upto remapHopsSpec)) remapHopsUptoCard

/-- THE SECOND FORM's CARD OF 'aqueductlaw10.RemapRows'. -/
def remapRowsUptoCard : Claim7 := { stood := { row := remapRowsUptoRow, standIns := [], harness := (true, "b2e41687643280a6e9b7d6cc10462fb63ecb7034c421bcf511018b7c78d40776"), looks := false }, kinds := [], alts := [], laidByText := true, laidKinds := [.data, .pinned], laidTests := true, laidLooks := .later }
def RemapRowsUptoCardSaid : Prop := Claim7.holds Tryd.pinned (.plain (OpenSpec.upto remapRowsSpec)) remapRowsUptoCard

/-- THE SECOND FORM's CARD OF 'aqueductlaw10.RemapTurns'. -/
def remapTurnsUptoCard : Claim7 := { stood := { row := remapTurnsUptoRow, standIns := [], harness := (true, "b2e41687643280a6e9b7d6cc10462fb63ecb7034c421bcf511018b7c78d40776"), looks := false }, kinds := [], alts := [], laidByText := true, laidKinds := [.data, .pinned], laidTests := true, laidLooks := .later }
def RemapTurnsUptoCardSaid : Prop := Claim7.holds Tryd.pinned (.plain (OpenSpec.upto remapTurnsSpec)) remapTurnsUptoCard

/-- THE SECOND FORM's CARD OF 'aqueductlaw10.RemapBack'. -/
def remapBackUptoCard : Claim7 := { stood := { row := remapBackUptoRow, standIns := [], harness := (true, "b2e41687643280a6e9b7d6cc10462fb63ecb7034c421bcf511018b7c78d40776"), looks := false }, kinds := [], alts := [], laidByText := true, laidKinds := [.data, .pinned], laidTests := true, laidLooks := .later }
def RemapBackUptoCardSaid : Prop := Claim7.holds Tryd.pinned (.plain (OpenSpec.upto remapBackSpec)) remapBackUptoCard

/-- THE SECOND FORM's CARD OF 'aqueductlaw10.RemapRoutes'. -/
def remapRoutesUptoCard : Claim7 := { stood := { row := remapRoutesUptoRow, standIns := [], harness := (true, "b2e41687643280a6e9b7d6cc10462fb63ecb7034c421bcf511018b7c78d40776"), looks := false }, kinds := [], alts := [], laidByText := true, laidKinds := [.data, .pinned], laidTests := true, laidLooks := .later }
def RemapRoutesUptoCardSaid : Prop := Claim7.holds Tryd.pinned (.plain (OpenSpec.upto remapRoutesSpec)) remapRoutesUptoCard
end Rows
end Go.Proofs.YtdjiioidkgppjaaDoor

/-
  DERIVED. GIVEN WITH THE SEED: THE CARDS: each row of YtoojgcblgmipeaaDoorRows.lean that lists a variable, with what it lists TIED to the program's text (the seventh form; the later family's looks); each row that meets fmt, with fmt's text TOLD by the authors' own Lean function (tested against real Go, not proved from fmt's source: count such statements apart). THE CARD IS WHAT COUNTS. Prove the row's statement (the work); the ties are given (YtoojgcblgmipeaaDoorTie.lean); close each card by the builder's one call (the guide's Derived/Test/ToyasCard.lean, 'card_holds'). Laid BY PROGRAM, IN A SANDBOX (cutbox-door.mjs). By AI agents, Wed Nov 11 2026. No macro, syntax, notation, axiom, sorry.
-/
import Derived.Test.YtoojgcblgmipeaaDoorRows
import GoSem.ClaimSeven
namespace Go.Proofs.YtoojgcblgmipeaaDoor
namespace Rows

/-- THE TIED CARD OF 'aqueductlaw02.TextCuts'. -/
def textCutsCard : Claim7 := { stood := { row := textCutsRow, standIns := [], harness := (true, "8a37dd9deda1972984db435d06f48ade03641c88a8cf17348cd84c8537f9efae"), looks := false }, kinds := [], alts := [], laidByText := true, laidKinds := [.data, .pinned], laidTests := true, laidLooks := .later }
def TextCutsCardSaid : Prop := Claim7.holds Tryd.pinned (.plain (OpenSpec.ofChange textCutsSpec)) textCutsCard

/-- THE TIED CARD OF 'aqueductlaw02.TextLongest'. -/
def textLongestCard : Claim7 := { stood := { row := textLongestRow, standIns := [], harness := (true, "8a37dd9deda1972984db435d06f48ade03641c88a8cf17348cd84c8537f9efae"), looks := false }, kinds := [], alts := [], laidByText := true, laidKinds := [.data, .pinned], laidTests := true, laidLooks := .later }
def TextLongestCardSaid : Prop := Claim7.holds Tryd.pinned (.plain (OpenSpec.ofChange textLongestSpec)) textLongestCard

/-- THE TIED CARD OF 'aqueductlaw02.TextFaults'. -/
def textFaultsCard : Claim7 := { stood := { row := textFaultsRow, standIns := [], harness := (true, "8a37dd9deda1972984db435d06f48ade03641c88a8cf17348cd84c8537f9efae"), looks := false }, kinds := [], alts := [], laidByText := true, laidKinds := [.data, .pinned], laidTests := true, laidLooks := .later }
def TextFaultsCardSaid : Prop := Claim7.holds Tryd.pinned (.plain (OpenSpec.ofChange textFaultsSpec)) textFaultsCard

/-- THE TIED CARD OF 'aqueductlaw02.TextWhole'. -/
def textWholeCard : Claim7 := { stood := { row := textWholeRow, standIns := [], harness := (true, "8a37dd9deda1972984db435d06f48ade03641c88a8cf17348cd84c8537f9efae"), looks := false }, kinds := [], alts := [], laidByText := true, laidKinds := [.data, .pinned], laidTests := true, laidLooks := .later }
def TextWholeCardSaid : Prop := Claim7.holds Tryd.pinned (.plain (OpenSpec.ofChange textWholeSpec)) textWholeCard

/-- THE TIED CARD OF 'aqueductlaw02.TextPuts'. -/
def textPutsCard : Claim7 := { stood := { row := textPutsRow, standIns := [], harness := (true, "8a37dd9deda1972984db435d06f48ade03641c88a8cf17348cd84c8537f9efae"), looks := false }, kinds := [], alts := [], laidByText := true, laidKinds := [.data, .pinned], laidTests := true, laidLooks := .later }
def TextPutsCardSaid : Prop := Claim7.holds Tryd.pinned (.plain (OpenSpec.ofChange textPutsSpec)) textPutsCard

/-- THE TIED CARD OF 'aqueductlaw02.TextGets'. -/
def textGetsCard : Claim7 := { stood := { row := textGetsRow, standIns := [], harness := (true, "8a37dd9deda1972984db435d06f48ade03641c88a8cf17348cd84c8537f9efae"), looks := false }, kinds := [], alts := [], laidByText := true, laidKinds := [.data, .pinned], laidTests := true, laidLooks := .later }
def TextGetsCardSaid : Prop := Claim7.holds Tryd.pinned (.plain (OpenSpec.ofChange textGetsSpec)) textGetsCard

/-- THE TIED CARD OF 'aqueductlaw02.TextJoins'. -/
def textJoinsCard : Claim7 := { stood := { row := textJoinsRow, standIns := [], harness := (true, "8a37dd9deda1972984db435d06f48ade03641c88a8cf17348cd84c8537f9efae"), looks := false }, kinds := [], alts := [], laidByText := true, laidKinds := [.data, .pinned], laidTests := true, laidLooks := .later }
def TextJoinsCardSaid : Prop := Claim7.holds Tryd.pinned (.plain (OpenSpec.ofChange textJoinsSpec)) textJoinsCard

/-- THE SECOND FORM's CARD OF 'aqueductlaw02.TextCuts'. -/
def textCutsUptoCard : Claim7 := { stood := { row := textCutsUptoRow, standIns := [], harness := (true, "8a37dd9deda1972984db435d06f48ade03641c88a8cf17348cd84c8537f9efae"), looks := false }, kinds := [], alts := [], laidByText := true, laidKinds := [.data, .pinned], laidTests := true, laidLooks := .later }
def TextCutsUptoCardSaid : Prop := Claim7.holds Tryd.pinned (.plain (OpenSpec.upto textCutsSpec)) textCutsUptoCard

/-- THE SECOND FORM's CARD OF 'aqueductlaw02.TextLongest'. -/
def textLongestUptoCard : Claim7 := { stood := { row := textLongestUptoRow, standIns := [], harness := (true, "8a37dd9deda1972984db435d06f48ade03641c88a8cf17348cd84c8537f9efae"), looks := false }, kinds := [], alts := [], laidByText := true, laidKinds := [.data, .pinned], laidTests := true, laidLooks := .later }
def TextLongestUptoCardSaid : Prop := Claim7.holds Tryd.pinned (.plain (OpenSpec.upto textLongestSpec)) textLongestUptoCard

/-- THE SECOND FORM's CARD OF 'aqueductlaw02.TextFaults'. -/
def textFaultsUptoCard : Claim7 := { stood := { row := textFaultsUptoRow, standIns := [], harness := (true, "8a37dd9deda1972984db435d06f48ade03641c88a8cf17348cd84c8537f9efae"), looks := false }, kinds := [], alts := [], laidByText := true, laidKinds := [.data, .pinned], laidTests := true, laidLooks := .later }
def TextFaultsUptoCardSaid : Prop := Claim7.holds Tryd.pinned (.plain (OpenSpec.upto textFaultsSpec)) textFaultsUptoCard

/-- THE SECOND FORM's CARD OF 'aqueductlaw02.TextWhole'. -/
def textWholeUptoCard : Claim7 := { stood := { row := textWholeUptoRow, standIns := [], harness := (true, "8a37dd9deda1972984db435d06f48ade03641c88a8cf17348cd84c8537f9efae"), looks := false }, kinds := [], alts := [], laidByText := true, laidKinds := [.data, .pinned], laidTests := true, laidLooks := .later }
def TextWholeUptoCardSaid : Prop := Claim7.holds Tryd.pinned (.plain (OpenSpec.upto textWholeSpec)) textWholeUptoCard

/-- THE SECOND FORM's CARD OF 'aqueductlaw02.TextPuts'. -/
def textPutsUptoCard : Claim7 := { stood := { row := textPutsUptoRow, standIns := [], harness := (true, "8a37dd9deda1972984db435d06f48ade03641c88a8cf17348cd84c8537f9efae"), looks := false }, kinds := [], alts := [], laidByText := true, laidKinds := [.data, .pinned], laidTests := true, laidLooks := .later }
def TextPutsUptoCardSaid : Prop := Claim7.holds Tryd.pinned (.plain (OpenSpec.upto textPutsSpec)) textPutsUptoCard

/-- THE SECOND FORM's CARD OF 'aqueductlaw02.TextGets'. -/
def textGetsUptoCard : Claim7 := { stood := { row := textGetsUptoRow, standIns := [], harness := (true, "8a37dd9deda1972984db435d06f48ade03641c88a8cf17348cd84c8537f9efae"), looks := false }, kinds := [], alts := [], laidByText := true, laidKinds := [.data, .pinned], laidTests := true, laidLooks := .later }
def TextGetsUptoCardSaid : Prop := Claim7.holds Tryd.pinned (.plain (OpenSpec.upto textGetsSpec)) textGetsUptoCard

/-- THE SECOND FORM's CARD OF 'aqueductlaw02.TextJoins'. -/
def textJoinsUptoCard : Claim7 := { stood := { row := textJoinsUptoRow, standIns := [], harness := (true, "8a37dd9deda1972984db435d06f48ade03641c88a8cf17348cd84c8537f9efae"), looks := false }, kinds := [], alts := [], laidByText := true, laidKinds := [.data, .pinned], laidTests := true, laidLooks := .later }
def TextJoinsUptoCardSaid : Prop := Claim7.holds Tryd.pinned (.plain (OpenSpec.upto textJoinsSpec)) textJoinsUptoCard
end Rows
end Go.Proofs.YtoojgcblgmipeaaDoor

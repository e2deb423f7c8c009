/-
  DERIVED. GIVEN WITH THE SEED: THE CARDS: each row of YtjkpmccnieodjaaDoorRows.lean that lists a variable, with what it lists TIED to the program's text (the seventh form; the later family's looks); each row that meets fmt, with fmt's text TOLD by the authors' own Lean function (tested against real Go, not proved from fmt's source: count such statements apart). THE CARD IS WHAT COUNTS. Prove the row's statement (the work); the ties are given (YtjkpmccnieodjaaDoorTie.lean); close each card by the builder's one call (the guide's Derived/Test/ToyasCard.lean, 'card_holds'). Laid BY PROGRAM, IN A SANDBOX (cutbox-door.mjs). By AI agents, Wed Nov 11 2026. No macro, syntax, notation, axiom, sorry.
-/
import Derived.Test.YtjkpmccnieodjaaDoorRows
import GoSem.ClaimSeven
namespace Go.Proofs.YtjkpmccnieodjaaDoor
namespace Rows

/-- THE TIED CARD OF 'aqueductlaw07.TopicChecks'. -/
def topicChecksCard : Claim7 := { stood := { row := topicChecksRow, standIns := [], harness := (true, "5274e52bf0c966f569a27e58c8e638e7d1dd81da4144ee20aaaa4a660ed34d32"), looks := false }, kinds := [], alts := [], laidByText := true, laidKinds := [.data, .pinned], laidTests := true, laidLooks := .later }
def TopicChecksCardSaid : Prop := Claim7.holds Tryd.pinned (.plain (OpenSpec.ofChange topicChecksSpec)) topicChecksCard

/-- THE TIED CARD OF 'aqueductlaw07.TopicLevels'. -/
def topicLevelsCard : Claim7 := { stood := { row := topicLevelsRow, standIns := [], harness := (true, "5274e52bf0c966f569a27e58c8e638e7d1dd81da4144ee20aaaa4a660ed34d32"), looks := false }, kinds := [], alts := [], laidByText := true, laidKinds := [.data, .pinned], laidTests := true, laidLooks := .later }
def TopicLevelsCardSaid : Prop := Claim7.holds Tryd.pinned (.plain (OpenSpec.ofChange topicLevelsSpec)) topicLevelsCard

/-- THE TIED CARD OF 'aqueductlaw07.TopicMatches'. -/
def topicMatchesCard : Claim7 := { stood := { row := topicMatchesRow, standIns := [], harness := (true, "5274e52bf0c966f569a27e58c8e638e7d1dd81da4144ee20aaaa4a660ed34d32"), looks := false }, kinds := [], alts := [], laidByText := true, laidKinds := [.data, .pinned], laidTests := true, laidLooks := .later }
def TopicMatchesCardSaid : Prop := Claim7.holds Tryd.pinned (.plain (OpenSpec.ofChange topicMatchesSpec)) topicMatchesCard

/-- THE TIED CARD OF 'aqueductlaw07.TopicMore'. -/
def topicMoreCard : Claim7 := { stood := { row := topicMoreRow, standIns := [], harness := (true, "5274e52bf0c966f569a27e58c8e638e7d1dd81da4144ee20aaaa4a660ed34d32"), looks := false }, kinds := [], alts := [], laidByText := true, laidKinds := [.data, .pinned], laidTests := true, laidLooks := .later }
def TopicMoreCardSaid : Prop := Claim7.holds Tryd.pinned (.plain (OpenSpec.ofChange topicMoreSpec)) topicMoreCard

/-- THE TIED CARD OF 'aqueductlaw07.TopicBack'. -/
def topicBackCard : Claim7 := { stood := { row := topicBackRow, standIns := [], harness := (true, "5274e52bf0c966f569a27e58c8e638e7d1dd81da4144ee20aaaa4a660ed34d32"), looks := false }, kinds := [], alts := [], laidByText := true, laidKinds := [.data, .pinned], laidTests := true, laidLooks := .later }
def TopicBackCardSaid : Prop := Claim7.holds Tryd.pinned (.plain (OpenSpec.ofChange topicBackSpec)) topicBackCard

/-- THE TIED CARD OF 'aqueductlaw07.TopicOwn'. -/
def topicOwnCard : Claim7 := { stood := { row := topicOwnRow, standIns := [], harness := (true, "5274e52bf0c966f569a27e58c8e638e7d1dd81da4144ee20aaaa4a660ed34d32"), looks := false }, kinds := [], alts := [], laidByText := true, laidKinds := [.data, .pinned], laidTests := true, laidLooks := .later }
def TopicOwnCardSaid : Prop := Claim7.holds Tryd.pinned (.plain (OpenSpec.ofChange topicOwnSpec)) topicOwnCard

/-- THE SECOND FORM's CARD OF 'aqueductlaw07.TopicChecks'. -/
def topicChecksUptoCard : Claim7 := { stood := { row := topicChecksUptoRow, standIns := [], harness := (true, "5274e52bf0c966f569a27e58c8e638e7d1dd81da4144ee20aaaa4a660ed34d32"), looks := false }, kinds := [], alts := [], laidByText := true, laidKinds := [.data, .pinned], laidTests := true, laidLooks := .later }
def TopicChecksUptoCardSaid : Prop := Claim7.holds Tryd.pinned (.plain (OpenSpec.upto topicChecksSpec)) topicChecksUptoCard

/-- THE SECOND FORM's CARD OF 'aqueductlaw07.TopicLevels'. -/
def topicLevelsUptoCard : Claim7 := { stood := { row := topicLevelsUptoRow, standIns := [], harness := (true, "5274e52bf0c966f569a27e58c8e638e7d1dd81da4144ee20aaaa4a660ed34d32"), looks := false }, kinds := [], alts := [], laidByText := true, laidKinds := [.data, .pinned], laidTests := true, laidLooks := .later }
def TopicLevelsUptoCardSaid : Prop := Claim7.holds Tryd.pinned (.plain (OpenSpec.upto topicLevelsSpec)) topicLevelsUptoCard

/-- THE SECOND FORM's CARD OF 'aqueductlaw07.TopicMatches'. -/
def topicMatchesUptoCard : Claim7 := { stood := { row := topicMatchesUptoRow, standIns := [], harness := (true, "5274e52bf0c966f569a27e58c8e638e7d1dd81da4144ee20aaaa4a660ed34d32"), looks := false }, kinds := [], alts := [], laidByText := true, laidKinds := [.data, .pinned], laidTests := true, laidLooks := .later }
def TopicMatchesUptoCardSaid : Prop := Claim7.holds Tryd.pinned (.plain (OpenSpec.upto topicMatchesSpec)) topicMatchesUptoCard

/-- THE SECOND FORM's CARD OF 'aqueductlaw07.TopicMore'. -/
def topicMoreUptoCard : Claim7 := { stood := { row := topicMoreUptoRow, standIns := [], harness := (true, "5274e52bf0c966f569a27e58c8e638e7d1dd81da4144ee20aaaa4a660ed34d32"), looks := false }, kinds := [], alts := [], laidByText := true, laidKinds := [.data, .pinned], laidTests := true, laidLooks := .later }
def TopicMoreUptoCardSaid : Prop := Claim7.holds Tryd.pinned (.plain (OpenSpec.upto topicMoreSpec)) topicMoreUptoCard

/-- THE SECOND FORM's CARD OF 'aqueductlaw07.TopicBack'. -/
def topicBackUptoCard : Claim7 := { stood := { row := topicBackUptoRow, standIns := [], harness := (true, "5274e52bf0c966f569a27e58c8e638e7d1dd81da4144ee20aaaa4a660ed34d32"), looks := false }, kinds := [], alts := [], laidByText := true, laidKinds := [.data, .pinned], laidTests := true, laidLooks := .later }
def TopicBackUptoCardSaid : Prop := Claim7.holds Tryd.pinned (.plain (OpenSpec.upto topicBackSpec)) topicBackUptoCard

/-- THE SECOND FORM's CARD OF 'aqueductlaw07.TopicOwn'. -/
def topicOwnUptoCard : Claim7 := { stood := { row := topicOwnUptoRow, standIns := [], harness := (true, "5274e52bf0c966f569a27e58c8e638e7d1dd81da4144ee20aaaa4a660ed34d32"), looks := false }, kinds := [], alts := [], laidByText := true, laidKinds := [.data, .pinned], laidTests := true, laidLooks := .later }
def TopicOwnUptoCardSaid : Prop := Claim7.holds Tryd.pinned (.plain (OpenSpec.upto topicOwnSpec)) topicOwnUptoCard
end Rows
end Go.Proofs.YtjkpmccnieodjaaDoor

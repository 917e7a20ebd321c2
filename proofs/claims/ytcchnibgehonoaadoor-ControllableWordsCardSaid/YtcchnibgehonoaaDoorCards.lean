/-
  DERIVED. GIVEN WITH THE SEED: THE CARDS: each row of YtcchnibgehonoaaDoorRows.lean that lists a variable, with what it lists TIED to the program's text (the seventh form; the later family's looks); each row that meets fmt, with fmt's text TOLD by the authors' own Lean function (tested against real Go, not proved from fmt's source: count such statements apart). THE CARD IS WHAT COUNTS. Prove the row's statement (the work); the ties are given (YtcchnibgehonoaaDoorTie.lean); close each card by the builder's one call (the guide's Derived/Test/ToyasCard.lean, 'card_holds'). Laid BY PROGRAM, IN A SANDBOX (cutbox-door.mjs). By AI agents, Wed Nov 11 2026. No macro, syntax, notation, axiom, sorry.
-/
import Derived.Test.YtcchnibgehonoaaDoorRows
import GoSem.ClaimSeven
namespace Go.Proofs.YtcchnibgehonoaaDoor
namespace Rows

/-- THE TIED CARD OF 'overseerlaw26.ControllableErrors'. -/
def controllableErrorsCard : Claim7 := { stood := { row := controllableErrorsRow, standIns := [], harness := (true, "a5829825ead11087ee325a5f3a8566a4c70d8d40f462914a58db63c5e3fdb6b8"), looks := false }, kinds := [], alts := [], laidByText := true, laidKinds := [.data, .data, .data], laidTests := true, laidLooks := .later }
def ControllableErrorsCardSaid : Prop := Claim7.holds Tryd.pinned (.plain (OpenSpec.ofChange controllableErrorsSpec)) controllableErrorsCard

/-- THE TIED CARD OF 'overseerlaw26.ControllableInvariant'. -/
def controllableInvariantCard : Claim7 := { stood := { row := controllableInvariantRow, standIns := [], harness := (true, "a5829825ead11087ee325a5f3a8566a4c70d8d40f462914a58db63c5e3fdb6b8"), looks := false }, kinds := [], alts := [], laidByText := true, laidKinds := [.data, .data, .data], laidTests := true, laidLooks := .later }
def ControllableInvariantCardSaid : Prop := Claim7.holds Tryd.pinned (.plain (OpenSpec.ofChange controllableInvariantSpec)) controllableInvariantCard

/-- THE TIED CARD OF 'overseerlaw26.ControllableSupremal'. -/
def controllableSupremalCard : Claim7 := { stood := { row := controllableSupremalRow, standIns := [], harness := (true, "a5829825ead11087ee325a5f3a8566a4c70d8d40f462914a58db63c5e3fdb6b8"), looks := false }, kinds := [], alts := [], laidByText := true, laidKinds := [.data, .data, .data], laidTests := true, laidLooks := .later }
def ControllableSupremalCardSaid : Prop := Claim7.holds Tryd.pinned (.plain (OpenSpec.ofChange controllableSupremalSpec)) controllableSupremalCard

/-- THE TIED CARD OF 'overseerlaw26.ControllableAgain'. -/
def controllableAgainCard : Claim7 := { stood := { row := controllableAgainRow, standIns := [], harness := (true, "a5829825ead11087ee325a5f3a8566a4c70d8d40f462914a58db63c5e3fdb6b8"), looks := false }, kinds := [], alts := [], laidByText := true, laidKinds := [.data, .data, .data], laidTests := true, laidLooks := .later }
def ControllableAgainCardSaid : Prop := Claim7.holds Tryd.pinned (.plain (OpenSpec.ofChange controllableAgainSpec)) controllableAgainCard

/-- THE TIED CARD OF 'overseerlaw26.ControllableSets'. -/
def controllableSetsCard : Claim7 := { stood := { row := controllableSetsRow, standIns := [], harness := (true, "a5829825ead11087ee325a5f3a8566a4c70d8d40f462914a58db63c5e3fdb6b8"), looks := false }, kinds := [], alts := [], laidByText := true, laidKinds := [.data, .data, .data], laidTests := true, laidLooks := .later }
def ControllableSetsCardSaid : Prop := Claim7.holds Tryd.pinned (.plain (OpenSpec.ofChange controllableSetsSpec)) controllableSetsCard

/-- THE TIED CARD OF 'overseerlaw26.ControllableWords'. -/
def controllableWordsCard : Claim7 := { stood := { row := controllableWordsRow, standIns := [], harness := (true, "a5829825ead11087ee325a5f3a8566a4c70d8d40f462914a58db63c5e3fdb6b8"), looks := false }, kinds := [], alts := [], laidByText := true, laidKinds := [.data, .data, .data], laidTests := true, laidLooks := .later }
def ControllableWordsCardSaid : Prop := Claim7.holds Tryd.pinned (.plain (OpenSpec.ofChange controllableWordsSpec)) controllableWordsCard

/-- THE TIED CARD OF 'overseerlaw26.ControllableLess'. -/
def controllableLessCard : Claim7 := { stood := { row := controllableLessRow, standIns := [], harness := (true, "a5829825ead11087ee325a5f3a8566a4c70d8d40f462914a58db63c5e3fdb6b8"), looks := false }, kinds := [], alts := [], laidByText := true, laidKinds := [.data, .data, .data], laidTests := true, laidLooks := .later }
def ControllableLessCardSaid : Prop := Claim7.holds Tryd.pinned (.plain (OpenSpec.ofChange controllableLessSpec)) controllableLessCard

/-- THE TIED CARD OF 'overseerlaw26.ControllableChecks'. -/
def controllableChecksCard : Claim7 := { stood := { row := controllableChecksRow, standIns := [], harness := (true, "a5829825ead11087ee325a5f3a8566a4c70d8d40f462914a58db63c5e3fdb6b8"), looks := false }, kinds := [], alts := [], laidByText := true, laidKinds := [.data, .data, .data], laidTests := true, laidLooks := .later }
def ControllableChecksCardSaid : Prop := Claim7.holds Tryd.pinned (.plain (OpenSpec.ofChange controllableChecksSpec)) controllableChecksCard

/-- THE SECOND FORM's CARD OF 'overseerlaw26.ControllableErrors'. -/
def controllableErrorsUptoCard : Claim7 := { stood := { row := controllableErrorsUptoRow, standIns := [], harness := (true, "a5829825ead11087ee325a5f3a8566a4c70d8d40f462914a58db63c5e3fdb6b8"), looks := false }, kinds := [], alts := [], laidByText := true, laidKinds := [.data, .data, .data], laidTests := true, laidLooks := .later }
def ControllableErrorsUptoCardSaid : Prop := Claim7.holds Tryd.pinned (.plain (OpenSpec.upto controllableErrorsSpec)) controllableErrorsUptoCard

/-- THE SECOND FORM's CARD OF 'overseerlaw26.ControllableInvariant'. -/
def controllableInvariantUptoCard : Claim7 := { stood := { row := controllableInvariantUptoRow, standIns := [], harness := (true, "a5829825ead11087ee325a5f3a8566a4c70d8d40f462914a58db63c5e3fdb6b8"), looks := false }, kinds := [], alts := [], laidByText := true, laidKinds := [.data, .data, .data], laidTests := true, laidLooks := .later }
def ControllableInvariantUptoCardSaid : Prop := Claim7.holds Tryd.pinned (.plain (OpenSpec.upto controllableInvariantSpec)) controllableInvariantUptoCard

/-- THE SECOND FORM's CARD OF 'overseerlaw26.ControllableSupremal'. -/
def controllableSupremalUptoCard : Claim7 := { stood := { row := controllableSupremalUptoRow, standIns := [], harness := (true, "a5829825ead11087ee325a5f3a8566a4c70d8d40f462914a58db63c5e3fdb6b8"), looks := false }, kinds := [], alts := [], laidByText := true, laidKinds := [.data, .data, .data], laidTests := true, laidLooks := .later }
def ControllableSupremalUptoCardSaid : Prop := Claim7.holds Tryd.pinned (.plain (OpenSpec.upto controllableSupremalSpec)) controllableSupremalUptoCard

/-- THE SECOND FORM's CARD OF 'overseerlaw26.ControllableAgain'. -/
def controllableAgainUptoCard : Claim7 := { stood := { row := controllableAgainUptoRow, standIns := [], harness := (true, "a5829825ead11087ee325a5f3a8566a4c70d8d40f462914a58db63c5e3fdb6b8"), looks := false }, kinds := [], alts := [], laidByText := true, laidKinds := [.data, .data, .data], laidTests := true, laidLooks := .later }
def ControllableAgainUptoCardSaid : Prop := Claim7.holds Tryd.pinned (.plain (OpenSpec.upto controllableAgainSpec)) controllableAgainUptoCard

/-- THE SECOND FORM's CARD OF 'overseerlaw26.ControllableSets'. -/
def controllableSetsUptoCard : Claim7 := { stood := { row := controllableSetsUptoRow, standIns := [], harness := (true, "a5829825ead11087ee325a5f3a8566a4c70d8d40f462914a58db63c5e3fdb6b8"), looks := false }, kinds := [], alts := [], laidByText := true, laidKinds := [.data, .data, .data], laidTests := true, laidLooks := .later }
def ControllableSetsUptoCardSaid : Prop := Claim7.holds Tryd.pinned (.plain (OpenSpec.upto controllableSetsSpec)) controllableSetsUptoCard

/-- THE SECOND FORM's CARD OF 'overseerlaw26.ControllableWords'. -/
def controllableWordsUptoCard : Claim7 := { stood := { row := controllableWordsUptoRow, standIns := [], harness := (true, "a5829825ead11087ee325a5f3a8566a4c70d8d40f462914a58db63c5e3fdb6b8"), looks := false }, kinds := [], alts := [], laidByText := true, laidKinds := [.data, .data, .data], laidTests := true, laidLooks := .later }
def ControllableWordsUptoCardSaid : Prop := Claim7.holds Tryd.pinned (.plain (OpenSpec.upto controllableWordsSpec)) controllableWordsUptoCard

/-- THE SECOND FORM's CARD OF 'overseerlaw26.ControllableLess'. -/
def controllableLessUptoCard : Claim7 := { stood := { row := controllableLessUptoRow, standIns := [], harness := (true, "a5829825ead11087ee325a5f3a8566a4c70d8d40f462914a58db63c5e3fdb6b8"), looks := false }, kinds := [], alts := [], laidByText := true, laidKinds := [.data, .data, .data], laidTests := true, laidLooks := .later }
def ControllableLessUptoCardSaid : Prop := Claim7.holds Tryd.pinned (.plain (OpenSpec.upto controllableLessSpec)) controllableLessUptoCard

/-- THE SECOND FORM's CARD OF 'overseerlaw26.ControllableChecks'. -/
def controllableChecksUptoCard : Claim7 := { stood := { row := controllableChecksUptoRow, standIns := [], harness := (true, "a5829825ead11087ee325a5f3a8566a4c70d8d40f462914a58db63c5e3fdb6b8"), looks := false }, kinds := [], alts := [], laidByText := true, laidKinds := [.data, .data, .data], laidTests := true, laidLooks := .later }
def ControllableChecksUptoCardSaid : Prop := Claim7.holds Tryd.pinned (.plain (OpenSpec.upto controllableChecksSpec)) controllableChecksUptoCard
end Rows
end Go.Proofs.YtcchnibgehonoaaDoor

/-
  DERIVED. GIVEN WITH THE SEED: THE CARDS: each row of YtioijhpbedmeaaaGreatDoorRows.lean that lists a variable, with what it lists TIED to the program's text (the seventh form; the later family's looks); each row that meets fmt, with fmt's text TOLD by the authors' own Lean function (tested against real Go, not proved from fmt's source: count such statements apart). THE CARD IS WHAT COUNTS. Prove the row's statement (the work); the ties are given (YtioijhpbedmeaaaGreatDoorTie.lean); close each card by the builder's one call (the guide's Derived/Test/ToyasCard.lean, 'card_holds'). Laid BY PROGRAM, IN A SANDBOX (cutbox-door.mjs). By AI agents, Wed Nov 11 2026. No macro, syntax, notation, axiom, sorry.
-/
import Derived.Test.YtioijhpbedmeaaaGreatDoorRows
import GoSem.ClaimSeven
namespace Go.Proofs.YtioijhpbedmeaaaGreatDoor
namespace Rows

/-- THE TIED CARD OF 'overseerlaw45.ForcingLives'. -/
def forcingLivesCard : Claim7 := { stood := { row := forcingLivesRow, standIns := [], harness := (true, "2d6a6e86f48b91308e1578fff34c83b77d1011c55bd1ebae6f2f5c08f73f4341"), looks := false }, kinds := [], alts := [], laidByText := true, laidKinds := [.data, .data, .data], laidTests := true, laidLooks := .later }
def ForcingLivesCardSaid : Prop := Claim7.holds Tryz.pinned (.plain (OpenSpec.ofChange forcingLivesSpec)) forcingLivesCard

/-- THE TIED CARD OF 'overseerlaw45.ForcingLoops'. -/
def forcingLoopsCard : Claim7 := { stood := { row := forcingLoopsRow, standIns := [], harness := (true, "2d6a6e86f48b91308e1578fff34c83b77d1011c55bd1ebae6f2f5c08f73f4341"), looks := false }, kinds := [], alts := [], laidByText := true, laidKinds := [.data, .data, .data], laidTests := true, laidLooks := .later }
def ForcingLoopsCardSaid : Prop := Claim7.holds Tryz.pinned (.plain (OpenSpec.ofChange forcingLoopsSpec)) forcingLoopsCard

/-- THE TIED CARD OF 'overseerlaw45.ForcingForces'. -/
def forcingForcesCard : Claim7 := { stood := { row := forcingForcesRow, standIns := [], harness := (true, "2d6a6e86f48b91308e1578fff34c83b77d1011c55bd1ebae6f2f5c08f73f4341"), looks := false }, kinds := [], alts := [], laidByText := true, laidKinds := [.data, .data, .data], laidTests := true, laidLooks := .later }
def ForcingForcesCardSaid : Prop := Claim7.holds Tryz.pinned (.plain (OpenSpec.ofChange forcingForcesSpec)) forcingForcesCard

/-- THE TIED CARD OF 'overseerlaw45.ForcingDecides'. -/
def forcingDecidesCard : Claim7 := { stood := { row := forcingDecidesRow, standIns := [], harness := (true, "2d6a6e86f48b91308e1578fff34c83b77d1011c55bd1ebae6f2f5c08f73f4341"), looks := false }, kinds := [], alts := [], laidByText := true, laidKinds := [.data, .data, .data], laidTests := true, laidLooks := .later }
def ForcingDecidesCardSaid : Prop := Claim7.holds Tryz.pinned (.plain (OpenSpec.ofChange forcingDecidesSpec)) forcingDecidesCard

/-- THE TIED CARD OF 'overseerlaw45.ForcingVerifies'. -/
def forcingVerifiesCard : Claim7 := { stood := { row := forcingVerifiesRow, standIns := [], harness := (true, "2d6a6e86f48b91308e1578fff34c83b77d1011c55bd1ebae6f2f5c08f73f4341"), looks := false }, kinds := [], alts := [], laidByText := true, laidKinds := [.data, .data, .data], laidTests := true, laidLooks := .later }
def ForcingVerifiesCardSaid : Prop := Claim7.holds Tryz.pinned (.plain (OpenSpec.ofChange forcingVerifiesSpec)) forcingVerifiesCard

/-- THE TIED CARD OF 'overseerlaw45.ForcingStops'. -/
def forcingStopsCard : Claim7 := { stood := { row := forcingStopsRow, standIns := [], harness := (true, "2d6a6e86f48b91308e1578fff34c83b77d1011c55bd1ebae6f2f5c08f73f4341"), looks := false }, kinds := [], alts := [], laidByText := true, laidKinds := [.data, .data, .data], laidTests := true, laidLooks := .later }
def ForcingStopsCardSaid : Prop := Claim7.holds Tryz.pinned (.plain (OpenSpec.ofChange forcingStopsSpec)) forcingStopsCard

/-- THE TIED CARD OF 'overseerlaw45.ForcingRefuses'. -/
def forcingRefusesCard : Claim7 := { stood := { row := forcingRefusesRow, standIns := [], harness := (true, "2d6a6e86f48b91308e1578fff34c83b77d1011c55bd1ebae6f2f5c08f73f4341"), looks := false }, kinds := [], alts := [], laidByText := true, laidKinds := [.data, .data, .data], laidTests := true, laidLooks := .later }
def ForcingRefusesCardSaid : Prop := Claim7.holds Tryz.pinned (.plain (OpenSpec.ofChange forcingRefusesSpec)) forcingRefusesCard

/-- THE SECOND FORM's CARD OF 'overseerlaw45.ForcingLives'. -/
def forcingLivesUptoCard : Claim7 := { stood := { row := forcingLivesUptoRow, standIns := [], harness := (true, "2d6a6e86f48b91308e1578fff34c83b77d1011c55bd1ebae6f2f5c08f73f4341"), looks := false }, kinds := [], alts := [], laidByText := true, laidKinds := [.data, .data, .data], laidTests := true, laidLooks := .later }
def ForcingLivesUptoCardSaid : Prop := Claim7.holds Tryz.pinned (.plain (OpenSpec.upto forcingLivesSpec)) forcingLivesUptoCard

/-- THE SECOND FORM's CARD OF 'overseerlaw45.ForcingLoops'. -/
def forcingLoopsUptoCard : Claim7 := { stood := { row := forcingLoopsUptoRow, standIns := [], harness := (true, "2d6a6e86f48b91308e1578fff34c83b77d1011c55bd1ebae6f2f5c08f73f4341"), looks := false }, kinds := [], alts := [], laidByText := true, laidKinds := [.data, .data, .data], laidTests := true, laidLooks := .later }
def ForcingLoopsUptoCardSaid : Prop := Claim7.holds Tryz.pinned (.plain (OpenSpec.upto forcingLoopsSpec)) forcingLoopsUptoCard

/-- THE SECOND FORM's CARD OF 'overseerlaw45.ForcingForces'. -/
def forcingForcesUptoCard : Claim7 := { stood := { row := forcingForcesUptoRow, standIns := [], harness := (true, "2d6a6e86f48b91308e1578fff34c83b77d1011c55bd1ebae6f2f5c08f73f4341"), looks := false }, kinds := [], alts := [], laidByText := true, laidKinds := [.data, .data, .data], laidTests := true, laidLooks := .later }
def ForcingForcesUptoCardSaid : Prop := Claim7.holds Tryz.pinned (.plain (OpenSpec.upto forcingForcesSpec)) forcingForcesUptoCard

/-- THE SECOND FORM's CARD OF 'overseerlaw45.ForcingDecides'. -/
def forcingDecidesUptoCard : Claim7 := { stood := { row := forcingDecidesUptoRow, standIns := [], harness := (true, "2d6a6e86f48b91308e1578fff34c83b77d1011c55bd1ebae6f2f5c08f73f4341"), looks := false }, kinds := [], alts := [], laidByText := true, laidKinds := [.data, .data, .data], laidTests := true, laidLooks := .later }
def ForcingDecidesUptoCardSaid : Prop := Claim7.holds Tryz.pinned (.plain (OpenSpec.upto forcingDecidesSpec)) forcingDecidesUptoCard

/-- THE SECOND FORM's CARD OF 'overseerlaw45.ForcingVerifies'. -/
def forcingVerifiesUptoCard : Claim7 := { stood := { row := forcingVerifiesUptoRow, standIns := [], harness := (true, "2d6a6e86f48b91308e1578fff34c83b77d1011c55bd1ebae6f2f5c08f73f4341"), looks := false }, kinds := [], alts := [], laidByText := true, laidKinds := [.data, .data, .data], laidTests := true, laidLooks := .later }
def ForcingVerifiesUptoCardSaid : Prop := Claim7.holds Tryz.pinned (.plain (OpenSpec.upto forcingVerifiesSpec)) forcingVerifiesUptoCard

/-- THE SECOND FORM's CARD OF 'overseerlaw45.ForcingStops'. -/
def forcingStopsUptoCard : Claim7 := { stood := { row := forcingStopsUptoRow, standIns := [], harness := (true, "2d6a6e86f48b91308e1578fff34c83b77d1011c55bd1ebae6f2f5c08f73f4341"), looks := false }, kinds := [], alts := [], laidByText := true, laidKinds := [.data, .data, .data], laidTests := true, laidLooks := .later }
def ForcingStopsUptoCardSaid : Prop := Claim7.holds Tryz.pinned (.plain (OpenSpec.upto forcingStopsSpec)) forcingStopsUptoCard

/-- THE SECOND FORM's CARD OF 'overseerlaw45.ForcingRefuses'. -/
def forcingRefusesUptoCard : Claim7 := { stood := { row := forcingRefusesUptoRow, standIns := [], harness := (true, "2d6a6e86f48b91308e1578fff34c83b77d1011c55bd1ebae6f2f5c08f73f4341"), looks := false }, kinds := [], alts := [], laidByText := true, laidKinds := [.data, .data, .data], laidTests := true, laidLooks := .later }
def ForcingRefusesUptoCardSaid : Prop := Claim7.holds Tryz.pinned (.plain (OpenSpec.upto forcingRefusesSpec)) forcingRefusesUptoCard
end Rows
end Go.Proofs.YtioijhpbedmeaaaGreatDoor

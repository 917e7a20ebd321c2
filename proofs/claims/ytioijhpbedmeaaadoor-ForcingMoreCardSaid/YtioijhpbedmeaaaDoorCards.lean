/-
  DERIVED. GIVEN WITH THE SEED: THE CARDS: each row of YtioijhpbedmeaaaDoorRows.lean that lists a variable, with what it lists TIED to the program's text (the seventh form; the later family's looks); each row that meets fmt, with fmt's text TOLD by the authors' own Lean function (tested against real Go, not proved from fmt's source: count such statements apart). THE CARD IS WHAT COUNTS. Prove the row's statement (the work); the ties are given (YtioijhpbedmeaaaDoorTie.lean); close each card by the builder's one call (the guide's Derived/Test/ToyasCard.lean, 'card_holds'). Laid BY PROGRAM, IN A SANDBOX (cutbox-door.mjs). By AI agents, Wed Nov 11 2026. No macro, syntax, notation, axiom, sorry.
-/
import Derived.Test.YtioijhpbedmeaaaDoorRows
import GoSem.ClaimSeven
namespace Go.Proofs.YtioijhpbedmeaaaDoor
namespace Rows

/-- THE TIED CARD OF 'overseerlaw45.ForcingMore'. -/
def forcingMoreCard : Claim7 := { stood := { row := forcingMoreRow, standIns := [], harness := (true, "7cebe9f384a3b13cf07541516dfb63a55690268f528a8769f4b581f32ca7f398"), looks := false }, kinds := [], alts := [], laidByText := true, laidKinds := [.data, .data, .data], laidTests := true, laidLooks := .later }
def ForcingMoreCardSaid : Prop := Claim7.holds Tryd.pinned (.plain (OpenSpec.ofChange forcingMoreSpec)) forcingMoreCard

/-- THE SECOND FORM's CARD OF 'overseerlaw45.ForcingMore'. -/
def forcingMoreUptoCard : Claim7 := { stood := { row := forcingMoreUptoRow, standIns := [], harness := (true, "7cebe9f384a3b13cf07541516dfb63a55690268f528a8769f4b581f32ca7f398"), looks := false }, kinds := [], alts := [], laidByText := true, laidKinds := [.data, .data, .data], laidTests := true, laidLooks := .later }
def ForcingMoreUptoCardSaid : Prop := Claim7.holds Tryd.pinned (.plain (OpenSpec.upto forcingMoreSpec)) forcingMoreUptoCard
end Rows
end Go.Proofs.YtioijhpbedmeaaaDoor

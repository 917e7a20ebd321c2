/- Plain laws: the chapter's first example. -/
import Derived.Test.YtbdliebjalghmaaDoorQe
import Derived.KernelRfl
namespace Go.Proofs.YtbdliebjalghmaaDoor
def twoL : List Aut := [⟨[0, 1], 2, [0], [⟨0, 0, 1⟩, ⟨1, 1, 0⟩]⟩, ⟨[1, 2], 2, [0], [⟨0, 1, 1⟩, ⟨1, 2, 0⟩]⟩]
def knA : Aut := ⟨[0, 1, 2], 4, [0], [⟨0, 0, 1⟩, ⟨1, 1, 2⟩, ⟨2, 0, 3⟩, ⟨2, 2, 0⟩, ⟨3, 2, 1⟩]⟩
def knT : List (List Int) := [[0, 0], [1, 0], [0, 1], [1, 1]]
theorem synR_two : synR twoL = some (knA, knT) := by kernel_rfl
theorem chkL_two : chkL twoL = 0 := by kernel_rfl
theorem synR_nil : synR [] = some (⟨[], 1, [0], []⟩, [[]]) := by kernel_rfl
theorem chkL_nil : chkL [] = 0 := by kernel_rfl
end Go.Proofs.YtbdliebjalghmaaDoor

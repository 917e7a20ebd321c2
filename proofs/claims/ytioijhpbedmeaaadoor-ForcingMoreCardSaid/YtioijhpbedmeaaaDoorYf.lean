/- Walks: the law's loop. -/
import Derived.Test.YtioijhpbedmeaaaDoorYe
import Derived.Deep.Cut
import Derived.Deep.CutRange
namespace Go.Proofs.YtioijhpbedmeaaaDoor
open Go.RowKit Go

theorem cl1 {α : Type} {l m : List α} {i : Nat} {x : α} (h : l <+: m) (hx : l[i]? = some x) : m[i]? = some x := by
  obtain ⟨r, rfl⟩ := h
  rw [List.getElem?_append_left (List.getElem?_eq_some_iff.1 hx).1]; exact hx

end Go.Proofs.YtioijhpbedmeaaaDoor

/- From a row's readings to the walks' words: slices of integers that came in. -/
import Derived.Test.YtbdliebjalghmaaDoorRows
import Derived.Test.YtbdliebjalghmaaDoorBase
import Derived.ProofKit
import Derived.OpenShut
import Derived.ShutString
import Derived.ChangeOld
namespace Go.Proofs.YtbdliebjalghmaaDoor
open Go.ChangeShapes Go.WideShapes Go.ChangeAt Go.RowKit Go

theorem own : ownKnob Tryd.prog.godebug = none := by kernel_rfl
theorem laidOut : laidOutB Tryd.prog = true := by kernel_rfl

/-- A slice of integers of kind k that came in: its elements, its room, each fitting its kind. -/
def SlArg (k : IntKind) (w : World) (A : Option Addr) (len cap : Nat) (l : List Int) : Prop :=
  l.length = len ∧ len ≤ cap ∧ cap ≤ 9223372036854775807 ∧ RdV w w.heap.size A (l.map (Value.int k)) ∧ ∀ x ∈ l, (Lit.int k x).wf = true

theorem slArg_of {H : Type} {enc : TypeId × Value → H} {W : World} {spare : Nat → Bool} {held : Bool} {t e : TypeId} {k : IntKind} {a : Option Addr} {len cap : Nat} {d : DataW H} {p : List MemPlace}
    (ht : Tryd.prog.underlying t = some (.slice e)) (he : Tryd.prog.underlying e = some (.int k)) (hc : Tryd.prog.cellsOf e = 1) (h : DataW.Trod enc Tryd.prog W 0 spare held t (.slice a len cap) d p) (hsp : ∀ b, spare b = true) :
    ∃ l, SlArg k W a len cap l := by
  obtain ⟨fuel, hf⟩ := h
  rcases open_ints ht he hc hf with ⟨hcs, _⟩ | ⟨x, n, c, zs, hcs, _, hl, hm, hz, _, hcell, hwz⟩
  · simp [Value.cells] at hcs
    obtain ⟨rfl, rfl, rfl⟩ := hcs
    exact ⟨[], rfl, Nat.le_refl _, by omega, RdV.nil, fun x hx => by simp at hx⟩
  · simp [Value.cells] at hcs
    obtain ⟨rfl, rfl, rfl⟩ := hcs
    have hz' : zs.length = cap := by simpa [hsp] using hz
    refine ⟨zs.take len, by rw [List.length_take]; omega, hl, by simpa [maxLen] using hm, fun j u hu => ?_, fun y hy => hwz y (List.mem_of_mem_take hy)⟩
    rw [List.getElem?_map] at hu
    obtain ⟨y, hy, rfl⟩ := Option.map_eq_some_iff.1 hu
    have hj : j < (zs.take len).length := (List.getElem?_eq_some_iff.1 hy).1
    rw [List.length_take] at hj
    have hcj := hcell j (by omega)
    have hgy : zs.getD j 0 = y := by
      rw [List.getElem?_take, if_pos (by omega)] at hy
      simp [List.getD, hy]
    rw [hgy] at hcj
    refine ⟨x, rfl, ?_, hcj⟩
    have := World.block_lt_of_cell? W _ hcj
    rwa [block_of_add] at this
theorem SlArg.rd {w : World} {A : Option Addr} {len cap : Nat} {l : List Int} (h : SlArg .i64 w A len cap l) : RdI w w.heap.size A l := h.2.2.2.1
theorem SlArg.rb {w : World} {A : Option Addr} {len cap : Nat} {l : List Int} (h : SlArg .u8 w A len cap l) : RdB w w.heap.size A l := h.2.2.2.1
theorem SlArg.bytes {w : World} {A : Option Addr} {len cap : Nat} {l : List Int} (h : SlArg .u8 w A len cap l) : ∀ (k : Nat) (x : Int), l[k]? = some x → 0 ≤ x ∧ x ≤ 255 := fun k x hx => by
  have := h.2.2.2.2 x (List.mem_of_getElem? hx)
  simp [Lit.wf, IntKind.min, IntKind.max, IntKind.bits, IntKind.signed] at this
  omega
end Go.Proofs.YtbdliebjalghmaaDoor

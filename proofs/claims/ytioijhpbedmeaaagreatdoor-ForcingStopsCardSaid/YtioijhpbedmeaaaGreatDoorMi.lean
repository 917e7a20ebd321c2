/- Walks: slices.Equal at edges, automaton.Equal; the law's same, sameAll, none. -/
import Derived.Test.YtioijhpbedmeaaaGreatDoorSa
import Derived.Test.YtioijhpbedmeaaaGreatDoorAa
import Derived.Test.YtioijhpbedmeaaaGreatDoorMh
import Derived.Test.YtioijhpbedmeaaaGreatDoorMa
import Derived.Test.YtioijhpbedmeaaaGreatDoorQa
namespace Go.Proofs.YtioijhpbedmeaaaGreatDoor
open Go.RowKit Go

end Go.Proofs.YtioijhpbedmeaaaGreatDoor




/- Walks: the law's two, none; what is read of blocks written out. -/
namespace Go.Proofs.YtioijhpbedmeaaaGreatDoor
open Go.RowKit Go Go.Maps

section
variable {w : World} {b : Nat} {t : TypeId} {vs : List Value}
theorem Blk.al (h : Blk w b t vs) (o : Obj) : Blk (w.alloc o) b t vs := h.below (box_below _ _) h.lt
theorem Blk.at_ (w : World) (t : TypeId) (vs : List Value) (h : w.heap.size = b) : Blk (w.alloc (.cells vs.toArray t)) b t vs := by subst h; exact Blk.new _ _ _
theorem Blk.rdv (h : Blk w b t vs) : RdV w w.heap.size (some ⟨b, 0, none⟩) vs := fun k u hu => ⟨_, rfl, h.lt, by rw [add_lit0]; exact h.cell hu⟩
theorem Blk.rdi {l : List Int} (h : Blk w b t (iv l)) : RdI w w.heap.size (some ⟨b, 0, none⟩) l := h.rdv
theorem Blk.rdr {α : Type} {f : α → List Value} {sz : Nat} {l : List α} (hs : ∀ x ∈ l, (f x).length = sz) (h : Blk w b t (l.flatMap f)) : RdR sz f w w.heap.size (some ⟨b, 0, none⟩) l := fun k x hx =>
 ⟨_, rfl, h.lt, fun j u hj => by rw [add_lit0]; exact h.cell (flat_get f sz l hs k x j u hx hj)⟩
theorem Blk.rdx {l : List Ed} (h : Blk w b t (l.flatMap edc)) : RdX w w.heap.size (some ⟨b, 0, none⟩) l := Blk.rdr (fun _ _ => rfl) h
theorem Blk.rdl {l : List AV} (h : Blk w b t (l.flatMap avc)) : RdR 4 avc w w.heap.size (some ⟨b, 0, none⟩) l := Blk.rdr (fun _ _ => rfl) h
end

end Go.Proofs.YtioijhpbedmeaaaGreatDoor

/- Walks: product.Compose with a fresh result, at few automata. -/
namespace Go.Proofs.YtioijhpbedmeaaaGreatDoor
open Go.RowKit Go Go.Maps

/-- what the walks want of a few small automata -/
structure FewL (l : List Aut) : Prop where
 chk : chkL l = 0
 st : ∀ a ∈ l, a.st ≤ 100
 wf : ∀ a ∈ l, WF a
 len : l.length ≤ 3
 syn : ∃ a T, synR l = some (a, T)
 nm : noSt l = false → ¬ Many 4096 (stp l) (evs l) (ini l)
/-- what the walks want of a few automata -/
theorem FewL.of_prod {l : List Aut} (hw : ∀ a ∈ l, WF a) (hs : ∀ a ∈ l, a.st ≤ 100) (hl : l.length ≤ 3) (hp : prodN l ≤ 4096) : FewL l := by
 refine ⟨chkL_mk (by omega) hw, hs, hw, hl, ?_, fun hn hm => not_many (box l) (by rw [box_len]; exact hp) (fun x hx => box_mem.2 (rch_tup hw hn hx)) hm⟩
 unfold synR
 by_cases hn : noSt l = true
 ·rw [if_pos hn]; exact ⟨_, _, rfl⟩
 ·rw [if_neg hn]
  obtain ⟨s, hs, _⟩ := synS_some hw (by simpa using hn) hp
  rw [hs]; exact ⟨_, _, rfl⟩
theorem AutR.ok {w : World} {B : Nat} {A : Option Addr} {na ca : Nat} {M : Option Addr} {nm cm : Nat} {E : Option Addr} {ne ce : Nat} {a : Aut} (h : AutR w B A na ca M nm cm E ne ce a) : (AV.mk A na ca M nm cm E ne ce a).ok w B := h
theorem two_rdl {w : World} {b : Nat} {x y : AV} (h : Blk w b 33 (avc x ++ avc y)) (hx : x.ok w w.heap.size) (hy : y.ok w w.heap.size) : RdL w w.heap.size (some ⟨b, 0, none⟩) [x, y] :=
 ⟨Blk.rdl (by simpa using h), fun z hz => by
  rcases List.mem_cons.1 hz with rfl | hz
  ·exact hx
  ·obtain rfl := List.mem_singleton.1 hz; exact hy⟩
end Go.Proofs.YtioijhpbedmeaaaGreatDoor

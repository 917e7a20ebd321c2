/- Walks: the law's two, none; what is read of blocks written out. -/
import Derived.Test.YtbdliebjalghmaaDoorMj
import Derived.Test.YtbdliebjalghmaaDoorMl
import Derived.Test.YtbdliebjalghmaaDoorQh
namespace Go.Proofs.YtbdliebjalghmaaDoor
open Go.RowKit Go Go.Maps

section
variable {w : World} {b : Nat} {t : TypeId} {vs : List Value}
theorem Blk.al (h : Blk w b t vs) (o : Obj) : Blk (w.alloc o) b t vs := h.below (box_below _ _) h.lt
theorem Blk.at_ (w : World) (t : TypeId) (vs : List Value) (h : w.heap.size = b) : Blk (w.alloc (.cells vs.toArray t)) b t vs := by subst h; exact Blk.new _ _ _
theorem Blk.rdv (h : Blk w b t vs) : RdV w w.heap.size (some ⟨b, 0, none⟩) vs := fun k u hu => ⟨_, rfl, h.lt, by rw [add_lit0]; exact h.cell hu⟩
theorem Blk.rdi {l : List Int} (h : Blk w b t (iv l)) : RdI w w.heap.size (some ⟨b, 0, none⟩) l := h.rdv
theorem Blk.rdr {α : Type} {f : α → List Value} {sz : Nat} {l : List α} (hs : ∀ x ∈ l, (f x).length = sz) (h : Blk w b t (l.flatMap f)) : RdR sz f w w.heap.size (some ⟨b, 0, none⟩) l := fun k x hx =>
  ⟨_, rfl, h.lt, fun j u hj => by rw [add_lit0]; exact h.cell (flat_get f sz l hs k x j u hx hj)⟩
theorem Blk.rdx {l : List Ed} (h : Blk w b t (l.flatMap edc)) : RdX w w.heap.size (some ⟨b, 0, none⟩) l := Blk.rdr (fun _ _ => rfl) h
theorem Blk.rdl {l : List AV} (h : Blk w b t (l.flatMap avc)) : RdR 4 avc w w.heap.size (some ⟨b, 0, none⟩) l := Blk.rdr (fun _ _ => rfl) h
end

set_option maxRecDepth 100000 in
set_option maxHeartbeats 3200000 in
theorem law_two (w : World) : Calls Tryd.prog 43 #[] w fun e w' => Below w.heap.size w w' ∧ ∃ (A : Option Addr) (xs : List AV), e = .returned (.slice A 2 2) ∧ xs.length = 2 ∧ RdL w' w'.heap.size A xs ∧ xs.map AV.a = twoL := by
  go_enter Tryd.func43, Tryd.ntmps43
  go_wp2
  go_ret
  have hB : ∀ o1 o2 o3 o4 o5 o6 o7 : Obj, Below w.heap.size w (((((((w.alloc o1).alloc o2).alloc o3).alloc o4).alloc o5).alloc o6).alloc o7) := fun o1 o2 o3 o4 o5 o6 o7 =>
    ((((((((Below.refl _ w).alloc (Nat.le_refl _) o1).alloc (by simp) o2).alloc (by simp; omega) o3).alloc (by simp; omega) o4).alloc (by simp; omega) o5).alloc (by simp; omega) o6).alloc (by simp; omega) o7)
  refine ⟨hB _ _ _ _ _ _ _, some ⟨w.heap.size + 6, 0, none⟩, [⟨some ⟨w.heap.size, 0, none⟩, 2, 2, some ⟨w.heap.size + 1, 0, none⟩, 1, 1, some ⟨w.heap.size + 2, 0, none⟩, 2, 2, ⟨[0, 1], 2, [0], [⟨0, 0, 1⟩, ⟨1, 1, 0⟩]⟩⟩, ⟨some ⟨w.heap.size + 3, 0, none⟩, 2, 2, some ⟨w.heap.size + 4, 0, none⟩, 1, 1, some ⟨w.heap.size + 5, 0, none⟩, 2, 2, ⟨[1, 2], 2, [0], [⟨0, 1, 1⟩, ⟨1, 2, 0⟩]⟩⟩], rfl, rfl, ⟨Blk.rdl (t := 29) (by (repeat (first | (refine Blk.at_ _ _ _ ?_; simp; done) | (refine Blk.at_ _ _ _ rfl) | refine Blk.al ?_ _))), fun x hx => ?_⟩, rfl⟩
  rcases List.mem_cons.1 hx with rfl | hx
  · exact ⟨rfl, by simp, by simp, Blk.rdi (t := 3) (by (repeat (first | (refine Blk.at_ _ _ _ ?_; simp; done) | (refine Blk.at_ _ _ _ rfl) | refine Blk.al ?_ _))), rfl, by simp, by simp, Blk.rdi (t := 3) (by (repeat (first | (refine Blk.at_ _ _ _ ?_; simp; done) | (refine Blk.at_ _ _ _ rfl) | refine Blk.al ?_ _))), rfl, by simp, by simp, Blk.rdx (t := 43) (by (repeat (first | (refine Blk.at_ _ _ _ ?_; simp; done) | (refine Blk.at_ _ _ _ rfl) | refine Blk.al ?_ _)))⟩
  · obtain rfl := List.mem_singleton.1 hx
    exact ⟨rfl, by simp, by simp, Blk.rdi (t := 3) (by (repeat (first | (refine Blk.at_ _ _ _ ?_; simp; done) | (refine Blk.at_ _ _ _ rfl) | refine Blk.al ?_ _))), rfl, by simp, by simp, Blk.rdi (t := 3) (by (repeat (first | (refine Blk.at_ _ _ _ ?_; simp; done) | (refine Blk.at_ _ _ _ rfl) | refine Blk.al ?_ _))), rfl, by simp, by simp, Blk.rdx (t := 43) (by (repeat (first | (refine Blk.at_ _ _ _ ?_; simp; done) | (refine Blk.at_ _ _ _ rfl) | refine Blk.al ?_ _)))⟩
end Go.Proofs.YtbdliebjalghmaaDoor

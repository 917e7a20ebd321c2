/- Plain: the words that lead to the states of a search, as the edges grow (chapter 45). -/
import Derived.Test.YtioijhpbedmeaaaGreatDoorUa
namespace Go.Proofs.YtioijhpbedmeaaaGreatDoor

/-- the first edge to each state comes from a state before it -/
def FstI (n : Nat) (es : List Ed) : Prop := (∀ y ∈ es, y.t < (n : Int)) ∧ ∀ k : Nat, 1 ≤ k → k < n → ∃ (j : Nat) (x : Ed), idxP (toB k) es = j ∧ es[j]? = some x ∧ x.t = (k : Int) ∧ 0 ≤ x.f ∧ x.f < (k : Int)
theorem FstI.start : FstI 1 [] := ⟨fun y hy => (by cases hy), fun k h1 h2 => by omega⟩
theorem idxP_app {p : Ed → Bool} {l m : List Ed} {j : Nat} {x : Ed} (h : idxP p l = j) (hx : l[j]? = some x) : idxP p (l ++ m) = j := by
 rcases idxP_spec (p := p) l with ⟨h1, _⟩ | ⟨k, y, h1, h2, h3, h4⟩
 ·rw [h1] at h; omega
 ·have hkj : k = j := by rw [h1] at h; omega
  subst hkj
  have hk := (List.getElem?_eq_some_iff.1 h2).1
  exact idxP_at (by rw [List.getElem?_append_left hk]; exact h2) h3 (fun i z hi hz => h4 i z hi (by rw [List.getElem?_append_left (by omega)] at hz; exact hz))
theorem FstI.old {n : Nat} {es : List Ed} {x : Ed} (h : FstI n es) (hx : x.t < (n : Int)) : FstI n (es ++ [x]) := by
 refine ⟨fun y hy => ?_, fun k h1 h2 => ?_⟩
 ·rcases List.mem_append.1 hy with h3 | h3
  ·exact h.1 y h3
  ·obtain rfl := List.mem_singleton.1 h3; exact hx
 ·obtain ⟨j, y, g1, g2, g3, g4, g5⟩ := h.2 k h1 h2
  exact ⟨j, y, idxP_app g1 g2, by rw [List.getElem?_append_left (List.getElem?_eq_some_iff.1 g2).1]; exact g2, g3, g4, g5⟩
theorem idxP_new {n : Nat} {es : List Ed} {x : Ed} (h : FstI n es) (hx : x.t = (n : Int)) : idxP (toB n) (es ++ [x]) = (es.length : Nat) := by
 refine idxP_at (x := x) (by simp) (by unfold toB; rw [beq_iff_eq]; exact hx) (fun j y hj hy => ?_)
 rw [List.getElem?_append_left hj] at hy
 have := h.1 y (List.mem_of_getElem? hy)
 unfold toB
 rw [beq_eq_false_iff_ne]; omega
theorem FstI.new {n i : Nat} {es : List Ed} {v : Int} (h : FstI n es) (hi : i < n) : FstI (n + 1) (es ++ [⟨i, v, n⟩]) := by
 refine ⟨fun y hy => ?_, fun k h1 h2 => ?_⟩
 ·rcases List.mem_append.1 hy with h3 | h3
  ·have := h.1 y h3; omega
  ·obtain rfl := List.mem_singleton.1 h3; show ((n : Nat) : Int) < _; omega
 ·by_cases hk : k < n
  ·obtain ⟨j, y, g1, g2, g3, g4, g5⟩ := h.2 k h1 hk
   exact ⟨j, y, idxP_app g1 g2, by rw [List.getElem?_append_left (List.getElem?_eq_some_iff.1 g2).1]; exact g2, g3, g4, g5⟩
  ·obtain rfl : k = n := by omega
   exact ⟨es.length, ⟨i, v, k⟩, idxP_new h rfl, by simp, rfl, by show (0 : Int) ≤ (i : Int); omega, by show (i : Int) < (k : Int); omega⟩
theorem fst_any {n : Nat} {es : List Ed} (h : FstI n es) : ∀ (s g m : Nat), s < n → s ≤ g → s ≤ m → pathW es g s = pathW es m s := by
 intro s
 induction s using Nat.strongRecOn with
 | ind s ih =>
  intro g m hs hg hm
  by_cases h0 : s = 0
  ·subst h0
   rw [pathW_end (by omega), pathW_end (by omega)]
  ·obtain ⟨j, x, h1, h2, h3, h4, h5⟩ := h.2 s (by omega) hs
   obtain ⟨g, rfl⟩ : ∃ k, g = k + 1 := ⟨g - 1, by omega⟩
   obtain ⟨m, rfl⟩ : ∃ k, m = k + 1 := ⟨m - 1, by omega⟩
   rw [pathW_step (by omega) h1 h2, pathW_step (by omega) h1 h2]
   have := ih x.f.toNat (by omega) g m (by omega) (by omega) (by omega)
   rw [show ((x.f.toNat : Nat) : Int) = x.f by omega] at this
   rw [this]
theorem fst_app {n : Nat} {es : List Ed} {y : Ed} (h : FstI n es) : ∀ (s g : Nat), s < n → s ≤ g → pathW (es ++ [y]) g s = pathW es g s := by
 intro s
 induction s using Nat.strongRecOn with
 | ind s ih =>
  intro g hs hg
  by_cases h0 : s = 0
  ·subst h0
   rw [pathW_end (by omega), pathW_end (by omega)]
  ·obtain ⟨j, x, h1, h2, h3, h4, h5⟩ := h.2 s (by omega) hs
   obtain ⟨g, rfl⟩ : ∃ k, g = k + 1 := ⟨g - 1, by omega⟩
   rw [pathW_step (by omega) h1 h2, pathW_step (by omega) (idxP_app h1 h2) (by rw [List.getElem?_append_left (List.getElem?_eq_some_iff.1 h2).1]; exact h2)]
   have := ih x.f.toNat (by omega) g (by omega) (by omega)
   rw [show ((x.f.toNat : Nat) : Int) = x.f by omega] at this
   rw [this]
/-- the words that lead to the states -/
def wdsOf (n : Nat) (es : List Ed) : List (List Int) := (List.range n).map fun k => (pathW es k k).reverse
theorem wdsOf_get {n : Nat} {es : List Ed} {k : Nat} (h : k < n) : (wdsOf n es)[k]? = some (pathW es k k).reverse := by
 simp [wdsOf, h]
theorem wdsOf_old {n : Nat} {es : List Ed} {x : Ed} (h : FstI n es) : wdsOf n (es ++ [x]) = wdsOf n es := by
 unfold wdsOf
 refine List.map_congr_left fun k hk => ?_
 rw [fst_app h k k (List.mem_range.1 hk) (Nat.le_refl _)]
theorem wdsOf_new {n i : Nat} {es : List Ed} {v : Int} (h : FstI n es) (hi : i < n) : wdsOf (n + 1) (es ++ [⟨i, v, n⟩]) = wdsOf n es ++ [(pathW es i i).reverse ++ [v]] := by
 have h1 : wdsOf (n + 1) (es ++ [⟨i, v, n⟩]) = wdsOf n (es ++ [⟨i, v, n⟩]) ++ [(pathW (es ++ [⟨i, v, n⟩]) n n).reverse] := by
  unfold wdsOf
  rw [List.range_succ, List.map_append]; rfl
 rw [h1, wdsOf_old h]
 congr 2
 obtain ⟨m, rfl⟩ : ∃ m, n = m + 1 := ⟨n - 1, by omega⟩
 rw [pathW_step (by omega) (idxP_new (x := ⟨i, v, ((m + 1 : Nat) : Int)⟩) h rfl) (x := ⟨i, v, ((m + 1 : Nat) : Int)⟩) (by simp), List.reverse_cons]
 show (pathW (es ++ [⟨i, v, ((m + 1 : Nat) : Int)⟩]) m (i : Int)).reverse ++ [v] = _
 rw [fst_app h i m hi (by omega), fst_any h i m i hi (by omega) (Nat.le_refl _)]
end Go.Proofs.YtioijhpbedmeaaaGreatDoor

/- Plain: what a closure holds; a set is invariant exactly if its closure has no more states. -/
import Derived.Test.YtcchnibgehonoaaDoorDj
namespace Go.Proofs.YtcchnibgehonoaaDoor

theorem clS_mem {ed : List Ed} {V set : List Int} {back : Bool} {n : Nat} (hs : ∀ s ∈ set, 0 ≤ s ∧ s < (n : Int)) (he : EdIn n ed) {s : Int} : s ∈ clS ed V back n set ↔ (0 ≤ s ∧ s < (n : Int)) ∧ Con ed V back set s := by
 have hf := itF_fl (inF_Fl (ed := ed) (V := V) (back := back) hs) (fun s h => (hs s h).1) he n
 have hc := itF_clo (V := V) (back := back) (N := inF n set) (inF_len n set) he
 unfold clS
 rw [onF_mem, hf.len]
 constructor
 ·rintro ⟨h1, h2⟩; exact ⟨h1, (hf.done hc h1.1).1 h2⟩
 ·rintro ⟨h1, h2⟩; exact ⟨h1, (hf.done hc h1.1).2 h2⟩
theorem clS_sub {ed : List Ed} {V set : List Int} {back : Bool} {n : Nat} (hs : ∀ s ∈ set, 0 ≤ s ∧ s < (n : Int)) (he : EdIn n ed) : ∀ s ∈ set, s ∈ clS ed V back n set := fun s h => (clS_mem hs he).2 ⟨hs s h, .base h⟩
theorem inc_nodup {l : List Int} (h : Inc l) : l.Nodup := h.imp fun {a b} hab => by omega
theorem lv_none {ed : List Ed} {V set : List Int} (h : ed.any (lvB set V) = false) {s : Int} (hc : Con ed V false set s) : s ∈ set := by
 induction hc with
 | base h => exact h
 | @step x _ hx hv ih =>
  have hl : lvB set V x = false := by
   have := List.any_eq_false.1 h x hx
   simpa using this
  unfold lvB at hl
  rw [hv, Bool.and_true, show hasB set x.f = true from hasB_mem.2 ih, Bool.true_and] at hl
  have h2 : hasB set x.t = true := by simpa using hl
  exact hasB_mem.1 h2
theorem inv_len {ed : List Ed} {V set : List Int} {n : Nat} (hi : Inc set) (hs : ∀ s ∈ set, 0 ≤ s ∧ s < (n : Int)) (he : EdIn n ed) : (!ed.any (lvB set V)) = decide ((clS ed V false n set).length = set.length) := by
 cases hq : ed.any (lvB set V) with
 | false =>
  have e : clS ed V false n set = set := inc_unique clS_inc hi fun s => ⟨fun h => lv_none hq ((clS_mem hs he).1 h).2, fun h => clS_sub hs he s h⟩
  rw [e]; simp
 | true =>
  obtain ⟨x, hx, hl⟩ := List.any_eq_true.1 hq
  unfold lvB at hl
  simp only [Bool.and_eq_true, Bool.not_eq_true'] at hl
  obtain ⟨h1, h2, h3⟩ := hl
  have h4 : x.t ∉ set := fun h => by rw [hasB_mem.2 h] at h2; cases h2
  have h5 : x.t ∈ clS ed V false n set := (clS_mem hs he).2 ⟨(he x hx).2, .step (x := x) (.base (hasB_mem.1 h1)) hx h3⟩
  have h6 := nodup_le (l := x.t :: set) (m := clS ed V false n set) (List.nodup_cons.2 ⟨h4, inc_nodup hi⟩) (fun s h => by
   rcases List.mem_cons.1 h with rfl | h
   ·exact h5
   ·exact clS_sub hs he s h)
  rw [List.length_cons] at h6
  symm
  simp
  omega
end Go.Proofs.YtcchnibgehonoaaDoor

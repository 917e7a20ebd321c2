/- Plain: forward and backward sets are invariant. -/
import Derived.Test.YtcchnibgehonoaaDoorDk
namespace Go.Proofs.YtcchnibgehonoaaDoor

theorem minS_mem {a b : List Int} {z : Int} : z ∈ minS a b ↔ z ∈ a ∧ z ∉ b := by
  unfold minS
  rw [List.mem_filter, Bool.not_eq_true', ← Bool.not_eq_true, hasB_mem]
theorem minS_zero {a b : List Int} (h : ∀ z ∈ a, z ∈ b) : (minS a b).length = 0 := by
  rw [List.length_eq_zero_iff]
  unfold minS
  rw [List.filter_eq_nil_iff]
  intro z hz
  rw [show hasB b z = true from hasB_mem.2 (h z hz)]
  simp
theorem inv_fwd {ed : List Ed} {V set : List Int} {n : Nat} (hs : ∀ s ∈ set, 0 ≤ s ∧ s < (n : Int)) (he : EdIn n ed) : ed.any (lvB (clS ed V false n set) V) = false := by
  rw [List.any_eq_false]
  intro x hx hl
  unfold lvB at hl
  simp only [Bool.and_eq_true, Bool.not_eq_true'] at hl
  obtain ⟨h1, h2, h3⟩ := hl
  have h4 := ((clS_mem hs he).1 (hasB_mem.1 h1)).2
  have h5 : x.t ∈ clS ed V false n set := (clS_mem hs he).2 ⟨(he x hx).2, .step (x := x) h4 hx h3⟩
  rw [show hasB (clS ed V false n set) x.t = true from hasB_mem.2 h5] at h2
  cases h2
theorem inv_back {ed : List Ed} {V set : List Int} {n : Nat} (hs : ∀ s ∈ set, 0 ≤ s ∧ s < (n : Int)) (he : EdIn n ed) : ed.any (lvB (minS (rngI (n : Int)) (clS ed V true n set)) V) = false := by
  rw [List.any_eq_false]
  intro x hx hl
  unfold lvB at hl
  simp only [Bool.and_eq_true, Bool.not_eq_true'] at hl
  obtain ⟨h1, h2, h3⟩ := hl
  obtain ⟨h4, h5⟩ := minS_mem.1 (hasB_mem.1 h1)
  have ht : x.t ∈ clS ed V true n set := by
    by_cases hm : x.t ∈ clS ed V true n set
    · exact hm
    · have : x.t ∈ minS (rngI (n : Int)) (clS ed V true n set) := minS_mem.2 ⟨rngI_mem.2 (he x hx).2, hm⟩
      rw [show hasB _ x.t = true from hasB_mem.2 this] at h2
      cases h2
  exact h5 ((clS_mem hs he).2 ⟨(he x hx).1, .step (x := x) ((clS_mem hs he).1 ht).2 hx h3⟩)
theorem minS_snoc (B : List Int) (k : Nat) : minS (rngI ((k + 1 : Nat) : Int)) B = minS (rngI (k : Int)) B ++ (if hasB B (k : Int) = true then [] else [(k : Int)]) := by
  unfold minS
  rw [rngI_succ, List.filter_append]
  congr 1
  cases h : hasB B (k : Int) <;> simp [h]
theorem setErr_ok {l : List Int} {m : Int} (h : Inc l) (hr : ∀ x ∈ l, 0 ≤ x ∧ x < m) : setErr l m = 0 := by
  unfold setErr
  have key : ∀ (l : List Int) (p : Option Int), Inc l → (∀ x ∈ l, 0 ≤ x ∧ x < m) → (∀ q, p = some q → ∀ x ∈ l, q < x) → setErrG m p l = 0 := by
    intro l
    induction l with
    | nil => intro p _ _ _; cases p <;> rfl
    | cons x r ih =>
      intro p hi hr hp
      obtain ⟨h1, h2⟩ := List.pairwise_cons.1 hi
      have hx := hr x (List.mem_cons_self ..)
      unfold setErrG
      rw [if_neg (by omega), if_neg]
      · exact ih (some x) h2 (fun y hy => hr y (List.mem_cons_of_mem _ hy)) (fun q hq y hy => by injection hq with hq; subst hq; exact h1 y hy)
      · cases p with
        | none => simp
        | some q =>
          have := hp q rfl x (List.mem_cons_self ..)
          simp; omega
  exact key l none h hr (fun q hq => by cases hq)
theorem ckS_zero {a : Aut} {set u : List Int} {n : Nat} (hw : WF a) (hn : a.st = (n : Int)) (hi : Inc set) (hs : ∀ s ∈ set, 0 ≤ s ∧ s < (n : Int)) (hu : Inc u) (hur : ∀ x ∈ u, 0 ≤ x ∧ x < 32) : ckS a set u = 0 := by
  unfold ckS
  rw [if_neg (by simp [hw.chk]), if_neg (by rw [hn]; simp [setErr_ok hi hs])]
  exact setErr_ok hu hur
end Go.Proofs.YtcchnibgehonoaaDoor

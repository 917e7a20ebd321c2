/- Plain: forward and backward sets are invariant. -/
import Derived.Test.YtcchnibgehonoaaDoorDk
namespace Go.Proofs.YtcchnibgehonoaaDoor

theorem minS_mem {a b : List Int} {z : Int} : z ∈ minS a b ↔ z ∈ a ∧ z ∉ b := by
 unfold minS
 rw [List.mem_filter, Bool.not_eq_true', ← Bool.not_eq_true, hasB_mem]
theorem setErr_ok {l : List Int} {m : Int} (h : Inc l) (hr : ∀ x ∈ l, 0 ≤ x ∧ x < m) : setErr l m = 0 := by
 unfold setErr
 have key : ∀ (l : List Int) (p : Option Int), Inc l → (∀ x ∈ l, 0 ≤ x ∧ x < m) → (∀ q, p = some q → ∀ x ∈ l, q < x) → setErrG m p l = 0 := by
  intro l
  induction l with
  | nil => intro p _ _ _; cases p <;> rfl
  | cons x r ih =>
   intro p hi hr hp
   obtain ⟨h1, h2⟩ := List.pairwise_cons.1 hi
   have hx := hr x (List.mem_cons_self ..)
   unfold setErrG
   rw [if_neg (by omega), if_neg]
   ·exact ih (some x) h2 (fun y hy => hr y (List.mem_cons_of_mem _ hy)) (fun q hq y hy => by injection hq with hq; subst hq; exact h1 y hy)
   ·cases p with
    | none => simp
    | some q =>
     have := hp q rfl x (List.mem_cons_self ..)
     simp; omega
 exact key l none h hr (fun q hq => by cases hq)
end Go.Proofs.YtcchnibgehonoaaDoor

/- Plain laws, sixth text: projections of words are over their sets. -/
import Derived.Test.YtcbhencebflgcaaPo
namespace Go.Proofs.Ytcbhencebflgcaa
open Go

theorem setErrG_of {n : Int} : ∀ {l : List Int} {p : Option Int}, (∀ q, p = some q → ∀ x ∈ l, q < x) → Inc l → (∀ x ∈ l, 0 ≤ x ∧ x < n) → setErrG n p l = 0
  | [], p, _, _, _ => by cases p <;> rfl
  | x :: r, p, h1, h2, h3 => by
    obtain ⟨a, b⟩ := List.pairwise_cons.1 h2
    have hx := h3 x (List.mem_cons_self ..)
    have ih := setErrG_of (p := some x) (l := r) (fun q e y hy => by injection e with e; subst e; exact a y hy) b (fun y hy => h3 y (List.mem_cons_of_mem _ hy))
    unfold setErrG
    rw [if_neg (by omega), if_neg, ih]
    cases p with
    | none => simp
    | some q =>
      have := h1 q rfl x (List.mem_cons_self ..)
      simp
      omega
theorem setErr_of {n : Int} {l : List Int} (h : Inc l) (hr : ∀ x ∈ l, 0 ≤ x ∧ x < n) : setErr l n = 0 := setErrG_of (fun q e => by cases e) h hr
theorem proj_over (v s : List Int) : OverB (projW v s) s := fun x hx => by
  unfold projW at hx
  exact (List.mem_filter.1 hx).2
theorem proj_len (v s : List Int) : (projW v s).length ≤ v.length := List.length_filter_le _ _
theorem setB_err (x : Int) : setErr (setB x 5) 32 = 0 := setErr_of (setB_inc x 5) (fun y hy => by
  obtain ⟨k, h1, h2, _⟩ := setB_range hy
  omega)
theorem chk_over {v s : List Int} (h : setErr s 32 = 0) (hl : v.length ≤ 4096) (ho : OverB v s) : chkW v s = 0 := by
  refine chkW_ok h (by omega) ?_
  unfold badB
  rw [List.any_eq_false]
  intro x hx
  simpa using ho x hx
theorem matW_proj {f s a b : List Int} (ha : OverB a f) (hb : OverB b s) (hp : projW a s = projW b f) : projW (matW f s a b) f = a ∧ projW (matW f s a b) s = b :=
  mtW_proj f s _ a b (Nat.le_refl _) ha hb hp
theorem mtW_le (f s : List Int) : ∀ (n : Nat) (a b : List Int), (mtW f s n a b).length ≤ n
  | 0, a, b => by simp [mtW]
  | n + 1, a, b => by
    have h1 := mtW_le f s n (a.drop 1) b
    have h2 := mtW_le f s n a (b.drop 1)
    have h3 := mtW_le f s n (a.drop 1) (b.drop 1)
    simp only [mtW]
    split
    · simp
    · simp at h1 ⊢; omega
    · simp at h2 ⊢; omega
    · split
      · simp at h1 ⊢; omega
      · split
        · simp at h2 ⊢; omega
        · simp at h3 ⊢; omega
theorem matW_le (f s a b : List Int) : (matW f s a b).length ≤ a.length + b.length := mtW_le f s _ a b
end Go.Proofs.Ytcbhencebflgcaa

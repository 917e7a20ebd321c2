/- Plain: the supremal and the infimal language are their own ones (the laws' words). -/
import Derived.Test.YtcchnibgehonoaaDoorDr
namespace Go.Proofs.YtcchnibgehonoaaDoor

/-- the empty language, or a behaviour of the plant that refuses no uncontrollable event -/
def OwnZ (P S : Aut) (u : List Int) : Prop := S = ⟨P.al, 0, [], []⟩ ∨ ∃ ψ, Own P S u ψ
section
variable {P R S q q1 : Aut} {u : List Int} {T T1 : List (List Int)}
theorem OwnZ.al (h : OwnZ P S u) : S.al = P.al := by
 rcases h with rfl | ⟨ψ, h⟩
 ·rfl
 ·exact h.al
theorem OwnZ.wf (h : OwnZ P S u) (hP : WF P) : WF S := by
 rcases h with rfl | ⟨ψ, h⟩
 ·exact ⟨hP.inc, hP.rng, Int.le_refl _, by show (0 : Int) ≤ 4096; omega, List.Pairwise.nil, fun x hx => absurd hx List.not_mem_nil, List.Pairwise.nil, fun x hx => absurd hx List.not_mem_nil⟩
 ·exact h.wf
theorem OwnZ.bad (h : OwnZ P S u) (hp : Prob P S u q1 T1) : badI P S (intS u P.al) T1 T1.length = [] := by
 rw [← badI_mem hp.wp]
 rcases h with rfl | ⟨ψ, h⟩
 ·have h0 : q1.st = 0 := by
   by_cases h0 : q1.st = 0
   ·exact h0
   ·exact absurd rfl (hp.q0.1 h0).2
  have := hp.st_all
  rw [show T1.length = 0 by omega]; rfl
 ·exact h.bad hp _ (Nat.le_refl _)
theorem clo_zero (hp : Prob P S u q1 T1) (h0 : q1.st = 0) : cloA q1 = ⟨P.al, 0, [], []⟩ := by
 rw [clo_can hp.can]
 have := mrk_zero h0
 rw [hp.can, hp.alq] at this
 exact this
theorem OwnZ.clo (h : OwnZ P S u) (hp : Prob P S u q1 T1) : cloA q1 = S := by
 rcases h with rfl | ⟨ψ, h⟩
 ·have h0 : q1.st = 0 := by
   by_cases h0 : q1.st = 0
   ·exact h0
   ·exact absurd rfl (hp.q0.1 h0).2
  exact clo_zero hp h0
 ·exact h.clo hp
end
end Go.Proofs.YtcchnibgehonoaaDoor

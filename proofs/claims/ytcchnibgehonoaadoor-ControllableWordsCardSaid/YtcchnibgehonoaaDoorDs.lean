/- Plain: the supremal and the infimal language are their own ones (the laws' words). -/
import Derived.Test.YtcchnibgehonoaaDoorDr
namespace Go.Proofs.YtcchnibgehonoaaDoor

/-- the empty language, or a behaviour of the plant that refuses no uncontrollable event -/
def OwnZ (P S : Aut) (u : List Int) : Prop := S = ⟨P.al, 0, [], []⟩ ∨ ∃ ψ, Own P S u ψ
section
variable {P R S q q1 : Aut} {u : List Int} {T T1 : List (List Int)}
theorem gR_zero {σ : Type} [DecidableEq σ] {st : σ → Int → Option σ} {V : List Int} {x0 : σ} (h : (gR st V x0).st = 0) : gR st V x0 = ⟨V, 0, [], []⟩ := by
 rcases bfs_spec (C := 4096) (st := st) (V := V) (x0 := x0) (by omega) with ⟨s, hs, hb⟩ | ⟨hs, _⟩
 ·unfold gR at h
  rw [hs] at h
  have h : (s.ts.length : Int) = 0 := h
  have := hb.pos
  omega
 ·unfold gR
  rw [hs]; rfl
theorem sup_ownz (h : Prob P R u q T) : OwnZ P (supA P R (intS u P.al) q T T.length) u := by
 by_cases h0 : (supA P R (intS u P.al) q T T.length).st = 0
 ·left
  unfold supA at h0 ⊢
  unfold witA at h0 ⊢
  by_cases hz : hasB (supK P R (intS u P.al) q T T.length) 0 = true
  ·rw [if_pos hz] at h0 ⊢
   by_cases hq : (rstA q (supK P R (intS u P.al) q T T.length)).st = 0
   ·rw [mrk_zero hq]
    show Aut.mk q.al _ _ _ = _
    rw [h.alq]
   ·rw [mrk_gR hq] at h0 ⊢
    rw [gR_zero h0]
    show Aut.mk q.al _ _ _ = _
    rw [h.alq]
  ·rw [if_neg hz]
   show Aut.mk q.al 0 [] [] = _
   rw [h.alq]
 ·exact .inr (sup_own h h0)
theorem inf_ownz (h : Prob P R u q T) : OwnZ P (infA P R (intS u P.al) q) u := by
 by_cases h0 : (infA P R (intS u P.al) q).st = 0
 ·left
  by_cases hq : q.st = 0
  ·exact inf_no hq
  ·rw [inf_gR hq] at h0 ⊢
   exact gR_zero h0
 ·exact .inr (inf_own h h0)
theorem OwnZ.al (h : OwnZ P S u) : S.al = P.al := by
 rcases h with rfl | ⟨ψ, h⟩
 ·rfl
 ·exact h.al
theorem OwnZ.wf (h : OwnZ P S u) (hP : WF P) : WF S := by
 rcases h with rfl | ⟨ψ, h⟩
 ·exact ⟨hP.inc, hP.rng, Int.le_refl _, by show (0 : Int) ≤ 4096; omega, List.Pairwise.nil, fun x hx => absurd hx List.not_mem_nil, List.Pairwise.nil, fun x hx => absurd hx List.not_mem_nil⟩
 ·exact h.wf
theorem OwnZ.bad (h : OwnZ P S u) (hp : Prob P S u q1 T1) : badI P S (intS u P.al) T1 T1.length = [] := by
 rw [← badI_mem hp.wp]
 rcases h with rfl | ⟨ψ, h⟩
 ·have h0 : q1.st = 0 := by
   by_cases h0 : q1.st = 0
   ·exact h0
   ·exact absurd rfl (hp.q0.1 h0).2
  have := hp.st_all
  rw [show T1.length = 0 by omega]; rfl
 ·exact h.bad hp _ (Nat.le_refl _)
theorem clo_zero (hp : Prob P S u q1 T1) (h0 : q1.st = 0) : cloA q1 = ⟨P.al, 0, [], []⟩ := by
 rw [clo_can hp.can]
 have := mrk_zero h0
 rw [hp.can, hp.alq] at this
 exact this
theorem OwnZ.clo (h : OwnZ P S u) (hp : Prob P S u q1 T1) : cloA q1 = S := by
 rcases h with rfl | ⟨ψ, h⟩
 ·have h0 : q1.st = 0 := by
   by_cases h0 : q1.st = 0
   ·exact h0
   ·exact absurd rfl (hp.q0.1 h0).2
  exact clo_zero hp h0
 ·exact h.clo hp
end
end Go.Proofs.YtcchnibgehonoaaDoor

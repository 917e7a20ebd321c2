/- The law ControllableErrors: its walk. -/
import Derived.Test.YtcchnibgehonoaaDoorDh
namespace Go.Proofs.YtcchnibgehonoaaDoor
open Go.RowKit Go Go.Maps

theorem prob_of {P R : Aut} {u : List Int} (h : prbE P R u = 0) (hp : P.st ≤ 60) (hr : R.st ≤ 60) : ∃ p T, Prob P R u p T := by
 obtain ⟨h1, h2, h3, h4⟩ := prbE_zero h
 have wp := chkA_wf h1
 have wr := chkA_wf h2
 have hw : ∀ a ∈ [P, R], WF a := fun a ha => by simp at ha; rcases ha with rfl | rfl <;> assumption
 have hs : ∀ a ∈ [P, R], a.st ≤ 100 := fun a ha => by simp at ha; rcases ha with rfl | rfl <;> omega
 have hf : FewL [P, R] := FewL.of_prod hw hs (by simp) (by
  show P.st.toNat * (R.st.toNat * 1) ≤ 4096
  have := Nat.mul_le_mul (show P.st.toNat ≤ 60 by omega) (show R.st.toNat * 1 ≤ 60 by omega)
  omega)
 obtain ⟨p, T, hq⟩ := hf.syn
 exact ⟨p, T, wp, wr, (setErr_inc h3).1, (setErr_inc h3).2, h, hp, hr, hq⟩
theorem Prob.pz {P R p : Aut} {u : List Int} {T : List (List Int)} (h : Prob P R u p T) (hn : T.length ≠ 0) : P.st ≠ 0 ∧ R.st ≠ 0 := by
 have hs := h.syn
 have key : noSt [P, R] = false := by
  cases hq : noSt [P, R] with
  | false => rfl
  | true =>
   unfold synR at hs
   rw [if_pos hq] at hs
   injection hs with hs
   injection hs with _ hs
   subst hs
   exact absurd rfl hn
 unfold noSt at key
 simp at key
 exact key
end Go.Proofs.YtcchnibgehonoaaDoor

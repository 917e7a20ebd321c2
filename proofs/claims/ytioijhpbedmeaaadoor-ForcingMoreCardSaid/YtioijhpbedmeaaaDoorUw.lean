/- Walks: forcing.Verify. -/
import Derived.Test.YtioijhpbedmeaaaDoorUv
namespace Go.Proofs.YtioijhpbedmeaaaDoor
open Go.RowKit Go Go.Maps

/-- the state to which a word leads from the first one -/
def endE (q : Aut) (ws : List Int) : Option Int := if q.st = 0 then none else goS (stA q) 0 ws
/-- what Verify answers -/
def verE (P q : Aut) (T : List (List Int)) (U F : List Int) (tick : Int) (ws : List Int) (ev : Int) : Int := match endE q ws with
  | none => 24
  | some s => if hasB (wrgE P q T U F tick s) ev = true then 0 else 24
theorem gA_end {q : Aut} {ws : List Int} : gA q ws = (endE q ws).isSome := by
  unfold gA endE
  by_cases h : q.st = 0
  · rw [if_pos h, decide_eq_true h]; rfl
  · rw [if_neg h, decide_eq_false h]; rfl
theorem endE_run {q : Aut} {ws : List Int} {s : Int} (h : endE q ws = some s) : q.st ≠ 0 ∧ goS (stA q) 0 ws = some s ∧ runS (stA q) 0 ws = (s, ws.length) := by
  unfold endE at h
  by_cases h0 : q.st = 0
  · rw [if_pos h0] at h; cases h
  · rw [if_neg h0] at h
    refine ⟨h0, h, ?_⟩
    rw [goS_run] at h
    split at h
    · rename_i hq; injection h with h; exact Prod.ext h hq
    · cases h
theorem goS_rng {a : Aut} (h : WF a) : ∀ (ws : List Int) (t x : Int), 0 ≤ t → t < a.st → goS (stA a) t ws = some x → 0 ≤ x ∧ x < a.st
  | [], t, x, h1, h2, e => by injection e with e; subst e; exact ⟨h1, h2⟩
  | v :: ws, t, x, h1, h2, e => by
    unfold goS at e
    cases hs : stA a t v with
    | none => rw [hs] at e; cases e
    | some y =>
      rw [hs] at e
      have hx := (nxt_ed h).2 (stA_some.1 hs)
      have := h.ev_rng hx
      exact goS_rng h ws y x (by have := (stA_some.1 hs).2; omega) (by dsimp only at this; omega) e
end Go.Proofs.YtioijhpbedmeaaaDoor

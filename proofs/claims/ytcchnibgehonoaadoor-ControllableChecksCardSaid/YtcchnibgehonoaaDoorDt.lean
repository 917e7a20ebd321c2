/- Plain: the words of the supremal and of the infimal language (for ControllableLess and ControllableWords). -/
import Derived.Test.YtcchnibgehonoaaDoorDs
import Derived.Test.YtcchnibgehonoaaDoorNa
namespace Go.Proofs.YtcchnibgehonoaaDoor

theorem goS_app {σ : Type} {st : σ → Int → Option σ} : ∀ (a b : List Int) (t : σ), goS st t (a ++ b) = (goS st t a).bind (fun x => goS st x b)
 | [], _, _ => rfl
 | v :: a, b, t => by
  show (st t v).bind (fun x => goS st x (a ++ b)) = ((st t v).bind (fun x => goS st x a)).bind (fun x => goS st x b)
  cases st t v with
  | none => rfl
  | some x => exact goS_app a b x
theorem stA_al {a : Aut} (h : WF a) {t v x : Int} (hs : stA a t v = some x) : v ∈ a.al := by
 obtain ⟨h1, h2⟩ := (show stA a t v = some x ↔ _ from stA_some).1 hs
 exact hasB_mem.1 (h.nxt_rng (s := t) (v := v) (by omega)).2.2.1
theorem goS_al {a : Aut} (h : WF a) : ∀ (ws : List Int) (t x : Int), goS (stA a) t ws = some x → ∀ v ∈ ws, v ∈ a.al
 | [], _, _, _ => fun v hv => by cases hv
 | v :: ws, t, x, e => fun y hy => by
  unfold goS at e
  cases hs : stA a t v with
  | none => rw [hs] at e; cases e
  | some z =>
   rw [hs] at e
   rcases List.mem_cons.1 hy with rfl | hy
   ·exact stA_al h hs
   ·exact goS_al h ws z x e y hy
section
variable {P R q : Aut} {u u' : List Int} {T : List (List Int)}
theorem Prob.V (h : Prob P R u q T) : Inc P.al ∧ ∀ v ∈ P.al, 0 ≤ v ∧ v < 32 := ⟨h.wp.inc, h.wp.rng⟩
/-- the states that the supremal language keeps -/
def KK (P R q : Aut) (u : List Int) (T : List (List Int)) : List Int := supK P R (intS u P.al) q T T.length
end
/-- what Words finds are words -/
theorem wgo_sound {a : Aut} (hw : WF a) {m : Nat} : ∀ (n i : Nat) (all l : List (List Int × Int)), (∀ x ∈ all, goS (stA a) 0 x.1 = some x.2) → wgo a m n i all = some l → ∀ x ∈ l, goS (stA a) 0 x.1 = some x.2
 | 0, _, all, l, h, e => by unfold wgo at e; injection e with e; subst e; exact h
 | n + 1, i, all, l, h, e => by
  unfold wgo at e
  cases hi : all[i]? with
  | none => rw [hi] at e; injection e with e; subst e; exact h
  | some x =>
   rw [hi] at e
   simp only at e
   split at e
   ·injection e with e; subst e; exact h
   ·split at e
    ·cases e
    ·refine wgo_sound hw n (i + 1) _ l (fun y hy => ?_) e
     rcases List.mem_append.1 hy with hy | hy
     ·exact h y hy
     ·obtain ⟨z, hz, rfl⟩ := List.mem_map.1 hy
      obtain ⟨g1, g2⟩ := outE_mem.1 hz
      show goS (stA a) 0 (x.1 ++ [z.e]) = some z.t
      rw [goS_app, h x (List.mem_of_getElem? hi)]
      show (stA a x.2 z.e).bind _ = _
      have hst : stA a x.2 z.e = some z.t := by
       rw [stA_some]
       obtain ⟨f, v, t⟩ := z
       simp only at g2
       subst g2
       exact (nxt_ed hw).1 g1
      rw [hst]; rfl
end Go.Proofs.YtcchnibgehonoaaDoor

/- Plain: the supremal and the infimal language are behaviours of the plant that refuse no uncontrollable event. -/
import Derived.Test.YtcchnibgehonoaaDoorDq
namespace Go.Proofs.YtcchnibgehonoaaDoor

section
variable {σ : Type} [DecidableEq σ]
theorem gra_aut {C : Nat} {st : σ → Int → Option σ} {V : List Int} {x0 : σ} {s : Bs σ} (_h : BInv C st V x0 s.ts.length s) : gra V (some s) = autOf V (fun _ => true) s := by
 have e : rngI (s.ts.length : Int) = mksN (fun _ => true) s.ts s.ts.length := by
  refine inc_unique (rng_inc _) (mksN_inc _ _ _) fun x => ?_
  rw [rngI_mem, mksN_mem]
  constructor
  ·intro hx
   obtain ⟨k, t, rfl, hk⟩ := stAt_some hx
   exact ⟨k, t, (List.getElem?_eq_some_iff.1 hk).1, rfl, hk, rfl⟩
  ·rintro ⟨j, t, h1, h2, _⟩
   subst h2; omega
 show Aut.mk V _ (rngI (s.ts.length : Int)) _ = _
 rw [e]; rfl
/-- a search whose states stand for states of the plant -/
theorem Own.of {P : Aut} {u : List Int} {st : σ → Int → Option σ} {x0 : σ} {s : Bs σ} {φ : σ → Int} (hP : WF P) (hb : BInv 4096 st P.al x0 s.ts.length s) (he : bfs 4096 st P.al x0 = some s) (h0 : φ x0 = 0) (hr : ∀ t ∈ s.ts, 0 ≤ φ t ∧ φ t < P.st)
  (hs : ∀ t v y, t ∈ s.ts → v ∈ P.al → st t v = some y → nxt P (φ t) v = φ y) (hc : ∀ t v, t ∈ s.ts → v ∈ P.al → hasB u v = true → 0 ≤ nxt P (φ t) v → st t v ≠ none) : Own P (gra P.al (some s)) u (fun k => φ (stAt s.ts x0 k)) := by
 have hg := gra_aut hb
 have hp := hb.pos
 have hnx : ∀ (k v : Int), 0 ≤ k ∧ k < (s.ts.length : Int) → v ∈ P.al → ∃ t, t ∈ s.ts ∧ stAt s.ts x0 k = t ∧ nxt (gra P.al (some s)) k v = match st t v with | some y => idx s.ts y | none => -1 := fun k v hk hv => by
  obtain ⟨j, t, rfl, hj⟩ := stAt_some hk
  refine ⟨t, List.mem_of_getElem? hj, stAt_get hj, ?_⟩
  rw [hg, hb.nxt hP.inc hj hv]
  cases st t v <;> rfl
 have hix : ∀ t v y, t ∈ s.ts → v ∈ P.al → st t v = some y → 0 ≤ idx s.ts y ∧ stAt s.ts x0 (idx s.ts y) = y := fun t v y ht hv hy => by
  obtain ⟨j, hj⟩ := List.getElem?_of_mem ht
  obtain ⟨m, hm, hm2⟩ := idx_yes (hb.clo j t v y (List.getElem?_eq_some_iff.1 hj).1 hj hv hy)
  rw [hm]
  exact ⟨by omega, stAt_get hm2⟩
 refine ⟨?_, rfl, ?_, ?_, ?_, fun k hk => ?_, fun k v hk hv hn => ?_, fun k v hk hv hu hn => ?_⟩
 ·rw [hg]; exact hb.wf (Nat.le_refl _) hP.inc hP.rng
 ·rw [hg, hb.canon he hP.inc, gR_autOf]; exact hg
 ·show (s.ts.length : Int) ≠ 0; omega
 ·show φ (stAt s.ts x0 0) = 0
  rw [hb.at0, h0]
 ·have hk : 0 ≤ k ∧ k < (s.ts.length : Int) := hk
  obtain ⟨j, t, rfl, hj⟩ := stAt_some hk
  show 0 ≤ φ (stAt s.ts x0 _) ∧ φ (stAt s.ts x0 _) < P.st
  rw [stAt_get hj]
  exact hr t (List.mem_of_getElem? hj)
 ·obtain ⟨t, ht, e1, e2⟩ := hnx k v hk hv
  rw [e2] at hn ⊢
  show nxt P (φ (stAt s.ts x0 k)) v = φ (stAt s.ts x0 _)
  rw [e1]
  cases hy : st t v with
  | none => rw [hy] at hn; simp at hn
  | some y =>
   simp only
   rw [(hix t v y ht hv hy).2]
   exact hs t v y ht hv hy
 ·obtain ⟨t, ht, e1, e2⟩ := hnx k v hk hv
  have hn : 0 ≤ nxt P (φ (stAt s.ts x0 k)) v := hn
  rw [e1] at hn
  rw [e2]
  cases hy : st t v with
  | none => exact absurd hy (hc t v ht hv hu hn)
  | some y => exact (hix t v y ht hv hy).1
end
section
variable {P R q : Aut} {u : List Int} {T : List (List Int)}
theorem nxt_ed {a : Aut} (h : WF a) {s v t : Int} : (⟨s, v, t⟩ : Ed) ∈ a.ed ↔ nxt a s v = t ∧ 0 ≤ t := by
 constructor
 ·intro hx
  have h1 := h.ev_rng hx
  exact ⟨nxtE_of h.einc hx rfl rfl, by simp only at h1; omega⟩
 ·rintro ⟨h1, h2⟩
  obtain ⟨x, hx, e1, e2, e3⟩ := nxtE_mem (s := s) (v := v) (l := a.ed) (by show nxt a s v ≠ -1; omega)
  obtain ⟨f, e, t'⟩ := x
  simp only at e1 e2 e3
  rw [show nxtE s v a.ed = nxt a s v from rfl, h1] at e3
  subst e1 e2 e3
  exact hx
theorem stA_some {a : Aut} {s v t : Int} : stA a s v = some t ↔ nxt a s v = t ∧ 0 ≤ t := by
 unfold stA
 by_cases h : nxt a s v < 0
 ·rw [if_pos h]; constructor
  ·intro h; cases h
  ·rintro ⟨h1, h2⟩; omega
 ·rw [if_neg h]; constructor
  ·intro h1; injection h1 with h1; exact ⟨h1, by omega⟩
  ·rintro ⟨h1, _⟩; rw [h1]
theorem Prob.st_all (h : Prob P R u q T) : q.st = (T.length : Int) := h.tups.1
end
end Go.Proofs.YtcchnibgehonoaaDoor

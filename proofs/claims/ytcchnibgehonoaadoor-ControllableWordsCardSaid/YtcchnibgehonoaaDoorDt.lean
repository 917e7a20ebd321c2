/- Plain: the words of the supremal and of the infimal language (for ControllableLess and ControllableWords). -/
import Derived.Test.YtcchnibgehonoaaDoorDs
import Derived.Test.YtcchnibgehonoaaDoorNa
namespace Go.Proofs.YtcchnibgehonoaaDoor

theorem stA_al {a : Aut} (h : WF a) {t v x : Int} (hs : stA a t v = some x) : v ∈ a.al := by
 obtain ⟨h1, h2⟩ := (show stA a t v = some x ↔ _ from stA_some).1 hs
 exact hasB_mem.1 (h.nxt_rng (s := t) (v := v) (by omega)).2.2.1
theorem goS_al {a : Aut} (h : WF a) : ∀ (ws : List Int) (t x : Int), goS (stA a) t ws = some x → ∀ v ∈ ws, v ∈ a.al
 | [], _, _, _ => fun v hv => by cases hv
 | v :: ws, t, x, e => fun y hy => by
  unfold goS at e
  cases hs : stA a t v with
  | none => rw [hs] at e; cases e
  | some z =>
   rw [hs] at e
   rcases List.mem_cons.1 hy with rfl | hy
   ·exact stA_al h hs
   ·exact goS_al h ws z x e y hy
/-- the words of a graph that a search found -/
theorem gR_gen {σ : Type} [DecidableEq σ] {st : σ → Int → Option σ} {V : List Int} {x0 : σ} (hV : Inc V) (hr : ∀ v ∈ V, 0 ≤ v ∧ v < 32) (h0 : (gR st V x0).st ≠ 0) (ws : List Int) : gA (gR st V x0) ws = true ↔ (∀ v ∈ ws, v ∈ V) ∧ (goS st x0 ws).isSome = true := by
 rcases bfs_spec (C := 4096) (st := st) (V := V) (x0 := x0) (by omega) with ⟨s, hs, hb⟩ | ⟨hs, _⟩
 ·have hg : gR st V x0 = autOf V (fun _ => true) s := by unfold gR; rw [hs]; exact gra_aut hb
  have hsim := hb.sim (p := fun _ => true) hV
  have hp := hb.pos
  have hw : WF (autOf V (fun _ => true) s) := hb.wf (Nat.le_refl _) hV hr
  rw [hg] at h0 ⊢
  unfold gA
  rw [decide_eq_false h0]
  simp only [Bool.not_false, Bool.true_and]
  have key := fun (hv : ∀ v ∈ ws, v ∈ V) => (goS_sim hsim ws 0 (show (0 : Int) ≤ 0 ∧ (0 : Int) < (s.ts.length : Int) by omega) hv).1
  rw [hb.at0] at key
  constructor
  ·intro h
   obtain ⟨x, hx⟩ := Option.isSome_iff_exists.1 h
   have hal := goS_al hw ws 0 x hx
   refine ⟨hal, ?_⟩
   rw [key hal, hx]; rfl
  ·rintro ⟨h1, h2⟩
   rw [key h1] at h2
   cases hx : goS (stA (autOf V (fun _ => true) s)) 0 ws with
   | none => rw [hx] at h2; cases h2
   | some x => rfl
 ·exfalso
  apply h0
  unfold gR
  rw [hs]; rfl
section
variable {P R q : Aut} {u u' : List Int} {T : List (List Int)}
theorem Prob.V (h : Prob P R u q T) : Inc P.al ∧ ∀ v ∈ P.al, 0 ≤ v ∧ v < 32 := ⟨h.wp.inc, h.wp.rng⟩
/-- the states that the supremal language keeps -/
def KK (P R q : Aut) (u : List Int) (T : List (List Int)) : List Int := supK P R (intS u P.al) q T T.length
theorem supA_eq (h : Prob P R u q T) : supA P R (intS u P.al) q T T.length = if hasB (KK P R q u T) 0 = true then gR (stA (rstA q (KK P R q u T))) P.al 0 else ⟨P.al, 0, [], []⟩ := by
 unfold supA witA KK
 by_cases hz : hasB (supK P R (intS u P.al) q T T.length) 0 = true
 ·have hm := (supK_mem h).1 (hasB_mem.1 hz)
  rw [if_pos hz, if_pos hz, mrk_gR (show (rstA q _).st ≠ 0 from by show q.st ≠ 0; omega), show (rstA q (supK P R (intS u P.al) q T T.length)).al = q.al from rfl, h.alq]
 ·rw [if_neg hz, if_neg hz]
  show Aut.mk q.al 0 [] [] = _
  rw [h.alq]
theorem sup_st0 (h : Prob P R u q T) : (supA P R (intS u P.al) q T T.length).st ≠ 0 ↔ (0 : Int) ∈ KK P R q u T := by
 constructor
 ·intro h0
  by_cases hz : hasB (KK P R q u T) 0 = true
  ·exact hasB_mem.1 hz
  ·rw [supA_eq h, if_neg hz] at h0; exact absurd rfl h0
 ·intro hz
  have hm := (supK_mem h).1 hz
  have hz' : hasB (supK P R (intS u P.al) q T T.length) 0 = true := hasB_mem.2 hz
  unfold supA witA
  rw [if_pos hz']
  exact (canA_st (rst_wf h.pwf)).2.2 (by show q.st ≠ 0; omega)
/-- the words of the supremal language -/
theorem sup_gen (h : Prob P R u q T) (ws : List Int) : gA (supA P R (intS u P.al) q T T.length) ws = true ↔ (0 : Int) ∈ KK P R q u T ∧ (goS (stA (rstA q (KK P R q u T))) 0 ws).isSome = true := by
 by_cases hz : (0 : Int) ∈ KK P R q u T
 ·have h0 := (sup_st0 h).2 hz
  rw [supA_eq h, if_pos (hasB_mem.2 hz)] at h0 ⊢
  rw [gR_gen h.V.1 h.V.2 h0]
  constructor
  ·rintro ⟨_, h2⟩; exact ⟨hz, h2⟩
  ·rintro ⟨_, h2⟩
   refine ⟨?_, h2⟩
   obtain ⟨x, hx⟩ := Option.isSome_iff_exists.1 h2
   have := goS_al (rst_wf h.pwf) ws 0 x hx
   rw [← h.alq]; exact this
 ·have h0 : (supA P R (intS u P.al) q T T.length).st = 0 := by
   by_cases h0 : (supA P R (intS u P.al) q T T.length).st = 0
   ·exact h0
   ·exact absurd ((sup_st0 h).1 h0) hz
  unfold gA
  rw [h0]
  simp [hz]
theorem inf_st0 (h : Prob P R u q T) : (infA P R (intS u P.al) q).st ≠ 0 ↔ q.st ≠ 0 := by
 constructor
 ·intro h0 hq; exact h0 (by rw [inf_no hq])
 ·intro hq
  obtain ⟨hP0, hR0⟩ := h.q0.1 hq
  rw [inf_gR hq]
  rcases bfs_spec (C := 4096) (st := nxI P R (intS u P.al)) (V := P.al) (x0 := ((0 : Int), (0 : Int))) (by omega) with ⟨s, hs, hb⟩ | ⟨_, hm⟩
  ·unfold gR
   rw [hs]
   have := hb.pos
   show (s.ts.length : Int) ≠ 0
   omega
  ·exact absurd hm (few_pairs h.wp h.wr hP0 hR0 h.sp h.sr)
theorem nxI_al (h : Prob P R u q T) {U : List Int} {z y : Int × Int} {v : Int} (hy : nxI P R U z v = some y) : v ∈ P.al := by
 unfold nxI at hy
 rw [lkE_of_nxt h.wp] at hy
 by_cases hn : nxt P z.1 v < 0
 ·rw [if_pos hn] at hy; cases hy
 ·exact hasB_mem.1 (h.wp.nxt_rng (s := z.1) (v := v) (by omega)).2.2.1
theorem goI_al (h : Prob P R u q T) {U : List Int} : ∀ (ws : List Int) (z y : Int × Int), goS (nxI P R U) z ws = some y → ∀ v ∈ ws, v ∈ P.al
 | [], _, _, _ => fun v hv => by cases hv
 | v :: ws, z, y, e => fun x hx => by
  unfold goS at e
  cases hs : nxI P R U z v with
  | none => rw [hs] at e; cases e
  | some t =>
   rw [hs] at e
   rcases List.mem_cons.1 hx with rfl | hx
   ·exact nxI_al h hs
   ·exact goI_al h ws t y e x hx
/-- the words of the infimal language -/
theorem inf_gen (h : Prob P R u q T) (ws : List Int) : gA (infA P R (intS u P.al) q) ws = true ↔ q.st ≠ 0 ∧ (goS (nxI P R (intS u P.al)) (0, 0) ws).isSome = true := by
 by_cases hq : q.st = 0
 ·rw [inf_no hq]
  unfold gA
  simp [hq]
 ·have h0 := (inf_st0 h).2 hq
  rw [inf_gR hq] at h0 ⊢
  rw [gR_gen h.V.1 h.V.2 h0]
  constructor
  ·rintro ⟨_, h2⟩; exact ⟨hq, h2⟩
  ·rintro ⟨_, h2⟩
   obtain ⟨x, hx⟩ := Option.isSome_iff_exists.1 h2
   exact ⟨goI_al h ws _ x hx, h2⟩
end
end Go.Proofs.YtcchnibgehonoaaDoor

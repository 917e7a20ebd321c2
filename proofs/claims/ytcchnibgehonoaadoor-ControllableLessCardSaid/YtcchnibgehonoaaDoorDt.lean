/- Plain: the words of the supremal and of the infimal language (for ControllableLess and ControllableWords). -/
import Derived.Test.YtcchnibgehonoaaDoorDs
import Derived.Test.YtcchnibgehonoaaDoorNa
namespace Go.Proofs.YtcchnibgehonoaaDoor

theorem goS_app {σ : Type} {st : σ → Int → Option σ} : ∀ (a b : List Int) (t : σ), goS st t (a ++ b) = (goS st t a).bind (fun x => goS st x b)
 | [], _, _ => rfl
 | v :: a, b, t => by
  show (st t v).bind (fun x => goS st x (a ++ b)) = ((st t v).bind (fun x => goS st x a)).bind (fun x => goS st x b)
  cases st t v with
  | none => rfl
  | some x => exact goS_app a b x
theorem goS_mono {σ : Type} {st st' : σ → Int → Option σ} (h : ∀ t v y, st t v = some y → st' t v = some y) : ∀ (ws : List Int) (t x : σ), goS st t ws = some x → goS st' t ws = some x
 | [], _, _, e => e
 | v :: ws, t, x, e => by
  unfold goS at e ⊢
  cases hs : st t v with
  | none => rw [hs] at e; cases e
  | some y =>
   rw [hs] at e
   rw [h t v y hs]
   exact goS_mono h ws y x e
theorem stA_al {a : Aut} (h : WF a) {t v x : Int} (hs : stA a t v = some x) : v ∈ a.al := by
 obtain ⟨h1, h2⟩ := (show stA a t v = some x ↔ _ from stA_some).1 hs
 exact hasB_mem.1 (h.nxt_rng (s := t) (v := v) (by omega)).2.2.1
theorem goS_al {a : Aut} (h : WF a) : ∀ (ws : List Int) (t x : Int), goS (stA a) t ws = some x → ∀ v ∈ ws, v ∈ a.al
 | [], _, _, _ => fun v hv => by cases hv
 | v :: ws, t, x, e => fun y hy => by
  unfold goS at e
  cases hs : stA a t v with
  | none => rw [hs] at e; cases e
  | some z =>
   rw [hs] at e
   rcases List.mem_cons.1 hy with rfl | hy
   ·exact stA_al h hs
   ·exact goS_al h ws z x e y hy
/-- the words of a graph that a search found -/
theorem gR_gen {σ : Type} [DecidableEq σ] {st : σ → Int → Option σ} {V : List Int} {x0 : σ} (hV : Inc V) (hr : ∀ v ∈ V, 0 ≤ v ∧ v < 32) (h0 : (gR st V x0).st ≠ 0) (ws : List Int) : gA (gR st V x0) ws = true ↔ (∀ v ∈ ws, v ∈ V) ∧ (goS st x0 ws).isSome = true := by
 rcases bfs_spec (C := 4096) (st := st) (V := V) (x0 := x0) (by omega) with ⟨s, hs, hb⟩ | ⟨hs, _⟩
 ·have hg : gR st V x0 = autOf V (fun _ => true) s := by unfold gR; rw [hs]; exact gra_aut hb
  have hsim := hb.sim (p := fun _ => true) hV
  have hp := hb.pos
  have hw : WF (autOf V (fun _ => true) s) := hb.wf (Nat.le_refl _) hV hr
  rw [hg] at h0 ⊢
  unfold gA
  rw [decide_eq_false h0]
  simp only [Bool.not_false, Bool.true_and]
  have key := fun (hv : ∀ v ∈ ws, v ∈ V) => (goS_sim hsim ws 0 (show (0 : Int) ≤ 0 ∧ (0 : Int) < (s.ts.length : Int) by omega) hv).1
  rw [hb.at0] at key
  constructor
  ·intro h
   obtain ⟨x, hx⟩ := Option.isSome_iff_exists.1 h
   have hal := goS_al hw ws 0 x hx
   refine ⟨hal, ?_⟩
   rw [key hal, hx]; rfl
  ·rintro ⟨h1, h2⟩
   rw [key h1] at h2
   cases hx : goS (stA (autOf V (fun _ => true) s)) 0 ws with
   | none => rw [hx] at h2; cases h2
   | some x => rfl
 ·exfalso
  apply h0
  unfold gR
  rw [hs]; rfl
section
variable {P R q : Aut} {u u' : List Int} {T : List (List Int)}
theorem Prob.chg (h : Prob P R u q T) (hi : Inc u') (hr : ∀ x ∈ u', 0 ≤ x ∧ x < 32) : Prob P R u' q T := by
 obtain ⟨h1, h2, _, h4⟩ := prbE_zero h.err
 refine ⟨h.wp, h.wr, hi, hr, ?_, h.sp, h.sr, h.syn⟩
 unfold prbE
 rw [if_neg (by rw [h1]; simp), if_neg (by rw [h2]; simp), if_neg (by rw [setErr_ok hi hr]; simp), if_pos h4]
theorem Prob.V (h : Prob P R u q T) : Inc P.al ∧ ∀ v ∈ P.al, 0 ≤ v ∧ v < 32 := ⟨h.wp.inc, h.wp.rng⟩
/-- the states that the supremal language keeps -/
def KK (P R q : Aut) (u : List Int) (T : List (List Int)) : List Int := supK P R (intS u P.al) q T T.length
theorem supA_eq (h : Prob P R u q T) : supA P R (intS u P.al) q T T.length = if hasB (KK P R q u T) 0 = true then gR (stA (rstA q (KK P R q u T))) P.al 0 else ⟨P.al, 0, [], []⟩ := by
 unfold supA witA KK
 by_cases hz : hasB (supK P R (intS u P.al) q T T.length) 0 = true
 ·have hm := (supK_mem h).1 (hasB_mem.1 hz)
  rw [if_pos hz, if_pos hz, mrk_gR (show (rstA q _).st ≠ 0 from by show q.st ≠ 0; omega), show (rstA q (supK P R (intS u P.al) q T T.length)).al = q.al from rfl, h.alq]
 ·rw [if_neg hz, if_neg hz]
  show Aut.mk q.al 0 [] [] = _
  rw [h.alq]
theorem sup_st0 (h : Prob P R u q T) : (supA P R (intS u P.al) q T T.length).st ≠ 0 ↔ (0 : Int) ∈ KK P R q u T := by
 constructor
 ·intro h0
  by_cases hz : hasB (KK P R q u T) 0 = true
  ·exact hasB_mem.1 hz
  ·rw [supA_eq h, if_neg hz] at h0; exact absurd rfl h0
 ·intro hz
  have hm := (supK_mem h).1 hz
  have hz' : hasB (supK P R (intS u P.al) q T T.length) 0 = true := hasB_mem.2 hz
  unfold supA witA
  rw [if_pos hz']
  exact (canA_st (rst_wf h.pwf)).2.2 (by show q.st ≠ 0; omega)
/-- the words of the supremal language -/
theorem sup_gen (h : Prob P R u q T) (ws : List Int) : gA (supA P R (intS u P.al) q T T.length) ws = true ↔ (0 : Int) ∈ KK P R q u T ∧ (goS (stA (rstA q (KK P R q u T))) 0 ws).isSome = true := by
 by_cases hz : (0 : Int) ∈ KK P R q u T
 ·have h0 := (sup_st0 h).2 hz
  rw [supA_eq h, if_pos (hasB_mem.2 hz)] at h0 ⊢
  rw [gR_gen h.V.1 h.V.2 h0]
  constructor
  ·rintro ⟨_, h2⟩; exact ⟨hz, h2⟩
  ·rintro ⟨_, h2⟩
   refine ⟨?_, h2⟩
   obtain ⟨x, hx⟩ := Option.isSome_iff_exists.1 h2
   have := goS_al (rst_wf h.pwf) ws 0 x hx
   rw [← h.alq]; exact this
 ·have h0 : (supA P R (intS u P.al) q T T.length).st = 0 := by
   by_cases h0 : (supA P R (intS u P.al) q T T.length).st = 0
   ·exact h0
   ·exact absurd ((sup_st0 h).1 h0) hz
  unfold gA
  rw [h0]
  simp [hz]
theorem con_mono {ed : List Ed} {V V' : List Int} {back : Bool} {B B' : List Int} (hV : ∀ x ∈ ed, hasB V x.e = true → hasB V' x.e = true) (hB : ∀ i ∈ B, i ∈ B') {s : Int} (h : Con ed V back B s) : Con ed V' back B' s := by
 induction h with
 | base h => exact .base (hB _ h)
 | step _ hx hv ih => exact .step ih hx (hV _ hx hv)
/-- more uncontrollable events keep less -/
theorem KK_mono (h : Prob P R u q T) (h' : Prob P R u' q T) (hu : ∀ v ∈ u, v ∈ u') {i : Int} (hi : i ∈ KK P R q u' T) : i ∈ KK P R q u T := by
 have h1 := (supK_mem h').1 hi
 refine (supK_mem h).2 ⟨h1.1, fun hc => h1.2 (con_mono (fun x _ hx => ?_) (fun j hj => ?_) hc)⟩
 ·have hx := hasB_mem.1 hx
  unfold intS at hx
  rw [List.mem_filter] at hx
  exact hasB_mem.2 (List.mem_filter.2 ⟨hu _ hx.1, hx.2⟩)
 ·have hjr := badI_rng j hj
  have hst := h.st_all
  obtain ⟨x, y, ht, _⟩ := h.two_at (i := j) (by omega)
  obtain ⟨v, hv, hb⟩ := (bad_mem h (by omega) ht).1 hj
  exact (bad_mem h' (by omega) ht).2 ⟨v, hu v hv, hb⟩
theorem sup_less (h : Prob P R u q T) (h' : Prob P R u' q T) (hu : ∀ v ∈ u, v ∈ u') {ws : List Int} (hg : gA (supA P R (intS u' P.al) q T T.length) ws = true) : gA (supA P R (intS u P.al) q T T.length) ws = true := by
 obtain ⟨h1, h2⟩ := (sup_gen h' ws).1 hg
 refine (sup_gen h ws).2 ⟨KK_mono h h' hu h1, ?_⟩
 obtain ⟨x, hx⟩ := Option.isSome_iff_exists.1 h2
 rw [goS_mono (fun t v y hy => ?_) ws 0 x hx]
 ·rfl
 ·obtain ⟨g1, g2, g3⟩ := (rst_ed h.pwf).1 (stA_some.1 hy)
  exact stA_some.2 ((rst_ed h.pwf).2 ⟨g1, KK_mono h h' hu g2, KK_mono h h' hu g3⟩)
theorem inf_st0 (h : Prob P R u q T) : (infA P R (intS u P.al) q).st ≠ 0 ↔ q.st ≠ 0 := by
 constructor
 ·intro h0 hq; exact h0 (by rw [inf_no hq])
 ·intro hq
  obtain ⟨hP0, hR0⟩ := h.q0.1 hq
  rw [inf_gR hq]
  rcases bfs_spec (C := 4096) (st := nxI P R (intS u P.al)) (V := P.al) (x0 := ((0 : Int), (0 : Int))) (by omega) with ⟨s, hs, hb⟩ | ⟨_, hm⟩
  ·unfold gR
   rw [hs]
   have := hb.pos
   show (s.ts.length : Int) ≠ 0
   omega
  ·exact absurd hm (few_pairs h.wp h.wr hP0 hR0 h.sp h.sr)
theorem nxI_al (h : Prob P R u q T) {U : List Int} {z y : Int × Int} {v : Int} (hy : nxI P R U z v = some y) : v ∈ P.al := by
 unfold nxI at hy
 rw [lkE_of_nxt h.wp] at hy
 by_cases hn : nxt P z.1 v < 0
 ·rw [if_pos hn] at hy; cases hy
 ·exact hasB_mem.1 (h.wp.nxt_rng (s := z.1) (v := v) (by omega)).2.2.1
theorem goI_al (h : Prob P R u q T) {U : List Int} : ∀ (ws : List Int) (z y : Int × Int), goS (nxI P R U) z ws = some y → ∀ v ∈ ws, v ∈ P.al
 | [], _, _, _ => fun v hv => by cases hv
 | v :: ws, z, y, e => fun x hx => by
  unfold goS at e
  cases hs : nxI P R U z v with
  | none => rw [hs] at e; cases e
  | some t =>
   rw [hs] at e
   rcases List.mem_cons.1 hx with rfl | hx
   ·exact nxI_al h hs
   ·exact goI_al h ws t y e x hx
/-- the words of the infimal language -/
theorem inf_gen (h : Prob P R u q T) (ws : List Int) : gA (infA P R (intS u P.al) q) ws = true ↔ q.st ≠ 0 ∧ (goS (nxI P R (intS u P.al)) (0, 0) ws).isSome = true := by
 by_cases hq : q.st = 0
 ·rw [inf_no hq]
  unfold gA
  simp [hq]
 ·have h0 := (inf_st0 h).2 hq
  rw [inf_gR hq] at h0 ⊢
  rw [gR_gen h.V.1 h.V.2 h0]
  constructor
  ·rintro ⟨_, h2⟩; exact ⟨hq, h2⟩
  ·rintro ⟨_, h2⟩
   obtain ⟨x, hx⟩ := Option.isSome_iff_exists.1 h2
   exact ⟨goI_al h ws _ x hx, h2⟩
theorem nxI_mono (h : Prob P R u q T) (hu : ∀ v ∈ u, v ∈ u') {z y : Int × Int} {v : Int} (hy : nxI P R (intS u P.al) z v = some y) : nxI P R (intS u' P.al) z v = some y := by
 have hv := nxI_al h hy
 have key : hasB (intS u P.al) v = true → hasB (intS u' P.al) v = true := by
  rw [int_al hv, int_al hv, hasB_mem, hasB_mem]; exact hu v
 unfold nxI at hy ⊢
 split at hy
 ·cases hy
 ·split at hy
  ·rename_i hz
   simp only [if_pos hz]
   split at hy
   ·rename_i hk; rw [if_pos (key hk)]; exact hy
   ·cases hy
  ·rename_i hz
   simp only [if_neg hz]
   split at hy
   ·rename_i hr; rw [if_pos hr]; exact hy
   ·rename_i hr
    rw [if_neg hr]
    split at hy
    ·exact hy
    ·split at hy
     ·rename_i hk; rw [if_pos (key hk)]; exact hy
     ·cases hy
theorem inf_less (h : Prob P R u q T) (h' : Prob P R u' q T) (hu : ∀ v ∈ u, v ∈ u') {ws : List Int} (hg : gA (infA P R (intS u P.al) q) ws = true) : gA (infA P R (intS u' P.al) q) ws = true := by
 obtain ⟨h1, h2⟩ := (inf_gen h ws).1 hg
 obtain ⟨x, hx⟩ := Option.isSome_iff_exists.1 h2
 refine (inf_gen h' ws).2 ⟨h1, ?_⟩
 rw [goS_mono (fun t v y hy => nxI_mono h hu hy) ws _ x hx]; rfl
end
/-- what Words finds are words -/
theorem wgo_sound {a : Aut} (hw : WF a) {m : Nat} : ∀ (n i : Nat) (all l : List (List Int × Int)), (∀ x ∈ all, goS (stA a) 0 x.1 = some x.2) → wgo a m n i all = some l → ∀ x ∈ l, goS (stA a) 0 x.1 = some x.2
 | 0, _, all, l, h, e => by unfold wgo at e; injection e with e; subst e; exact h
 | n + 1, i, all, l, h, e => by
  unfold wgo at e
  cases hi : all[i]? with
  | none => rw [hi] at e; injection e with e; subst e; exact h
  | some x =>
   rw [hi] at e
   simp only at e
   split at e
   ·injection e with e; subst e; exact h
   ·split at e
    ·cases e
    ·refine wgo_sound hw n (i + 1) _ l (fun y hy => ?_) e
     rcases List.mem_append.1 hy with hy | hy
     ·exact h y hy
     ·obtain ⟨z, hz, rfl⟩ := List.mem_map.1 hy
      obtain ⟨g1, g2⟩ := outE_mem.1 hz
      show goS (stA a) 0 (x.1 ++ [z.e]) = some z.t
      rw [goS_app, h x (List.mem_of_getElem? hi)]
      show (stA a x.2 z.e).bind _ = _
      have hst : stA a x.2 z.e = some z.t := by
       rw [stA_some]
       obtain ⟨f, v, t⟩ := z
       simp only at g2
       subst g2
       exact (nxt_ed hw).1 g1
      rw [hst]; rfl
theorem wrd_sound {a : Aut} (hw : WF a) {m : Nat} {l : List (List Int × Int)} (h : wrd a m = some l) : ∀ x ∈ l, gA a x.1 = true := fun x hx => by
 unfold wrd at h
 by_cases h0 : a.st = 0
 ·rw [if_pos h0] at h; injection h with h; subst h; cases hx
 ·rw [if_neg h0] at h
  have := wgo_sound hw _ _ _ l (fun y hy => by obtain rfl := List.mem_singleton.1 hy; rfl) h x hx
  unfold gA
  rw [this]
  simp [h0]
end Go.Proofs.YtcchnibgehonoaaDoor

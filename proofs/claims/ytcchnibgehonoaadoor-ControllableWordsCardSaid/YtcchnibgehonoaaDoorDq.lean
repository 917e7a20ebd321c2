/- Plain: the supremal and the infimal language as graphs of searches; a behaviour of the plant that refuses no uncontrollable event is its own supremal and infimal language. -/
import Derived.Test.YtcchnibgehonoaaDoorDo
import Derived.Test.YtcchnibgehonoaaDoorDk
import Derived.Test.YtcchnibgehonoaaDoorLw
namespace Go.Proofs.YtcchnibgehonoaaDoor

section
variable {σ τ : Type} [DecidableEq σ] [DecidableEq τ]
/-- the marked graph of a search -/
def gra (V : List Int) : Option (Bs σ) → Aut
 | some s => ⟨V, s.ts.length, rngI s.ts.length, s.es⟩
 | none => ⟨V, 0, [], []⟩
def gR (st : σ → Int → Option σ) (V : List Int) (x0 : σ) : Aut := gra V (bfs 4096 st V x0)
theorem simG {st : σ → Int → Option σ} {st' : τ → Int → Option τ} {V : List Int} {φ : σ → τ} {Q : σ → Prop} {x0 : σ} (h : Sim st st' V φ Q) (h0 : Q x0) : gR st' V (φ x0) = gR st V x0 := by
 unfold gR
 rw [(h.bfs h0).1]
 cases bfs 4096 st V x0 with
 | none => rfl
 | some s => simp [gra, Bs.map]
omit [DecidableEq σ] in
theorem gR_autOf {V : List Int} {q : σ → Bool} {s : Bs σ} : mrkA (autOf V q s) = gra V (some s) := rfl
end
theorem inf_gR {P R q : Aut} {U : List Int} (h : q.st ≠ 0) : infA P R U q = gR (nxI P R U) P.al (0, 0) := by
 unfold infA infS gR
 rw [if_neg h]
 cases bfs 4096 (nxI P R U) P.al (0, 0) <;> rfl
theorem inf_no {P R q : Aut} {U : List Int} (h : q.st = 0) : infA P R U q = ⟨P.al, 0, [], []⟩ := by
 unfold infA infS
 rw [if_pos h]; rfl
theorem mrk_gR {a : Aut} (h0 : a.st ≠ 0) : mrkA (canA a) = gR (stA a) a.al 0 := by
 unfold canA gR
 rw [if_neg h0]
 unfold canS
 cases bfs 4096 (stA a) a.al 0 <;> rfl
theorem mrk_zero {a : Aut} (h0 : a.st = 0) : mrkA (canA a) = ⟨a.al, 0, [], []⟩ := by
 unfold canA
 rw [if_pos h0]; rfl
section
variable {P R q : Aut} {u : List Int} {T : List (List Int)}
/-- the product's search -/
theorem Prob.bi (h : Prob P R u q T) (h0 : q.st ≠ 0) : ∃ s, synS [P, R] = some s ∧ BInv 4096 (stp [P, R]) (evs [P, R]) (ini [P, R]) s.ts.length s ∧ s.ts = T ∧ q = autOf (evs [P, R]) (mkT [P, R]) s := by
 have hn : noSt [P, R] = false := by
  cases hq : noSt [P, R] with
  | false => rfl
  | true => exact absurd (by rw [syn_no hq h.syn]) h0
 obtain ⟨s, hs, hr⟩ := syn_get hn h.syn
 refine ⟨s, hs, syn_inv h.two hs hn (Nat.le_trans h.prod (by omega)), ?_, hr⟩
 have h2 := h.syn
 unfold synR at h2
 rw [if_neg (by rw [hn]; decide), hs] at h2
 injection h2 with h2
 injection h2
theorem Prob.q0 (h : Prob P R u q T) : q.st ≠ 0 ↔ P.st ≠ 0 ∧ R.st ≠ 0 := by
 constructor
 ·intro h0
  have h1 := h.tups.1
  exact h.pz (by omega)
 ·rintro ⟨h1, h2⟩ h0
  have hn : noSt [P, R] = false := by unfold noSt; simp [h1, h2]
  obtain ⟨s, hq, hr⟩ := syn_get hn h.syn
  have hi := syn_inv h.two hq hn (Nat.le_trans h.prod (by omega))
  have := hi.pos
  rw [hr] at h0
  have h0 : (s.ts.length : Int) = 0 := h0
  omega
theorem Prob.can (h : Prob P R u q T) : canA q = q := syn_canon h.two (Nat.le_trans h.prod (by omega)) h.syn
/-- a step of the product between two of its states -/
theorem Prob.step (h : Prob P R u q T) {i v : Int} (hv : v ∈ P.al) {x y : Int} (hi : 0 ≤ i) (ht : T[i.toNat]? = some [x, y]) :
  (nxt P x v < 0 ∨ (hasB R.al v = true ∧ nxt R y v < 0) → nxt q i v = -1) ∧ (0 ≤ nxt P x v → ¬ (hasB R.al v = true ∧ nxt R y v < 0) → 0 ≤ nxt q i v ∧ T[(nxt q i v).toNat]? = some [nxt P x v, if hasB R.al v = true then nxt R y v else y]) := by
 have h0 : q.st ≠ 0 := by
  have h1 := h.tups.1
  have := (List.getElem?_eq_some_iff.1 ht).1
  omega
 obtain ⟨s, hs, hb, hT, hq⟩ := h.bi h0
 subst hT
 have hal : evs [P, R] = P.al := by rw [← syn_al h.syn]; exact h.alq
 have hstp : stp [P, R] [x, y] v = if nxt P x v < 0 ∨ (hasB R.al v = true ∧ nxt R y v < 0) then none else some [nxt P x v, if hasB R.al v = true then nxt R y v else y] := by
  unfold stp
  simp only [rfB, mvs, rf, mv, show hasB P.al v = true from hasB_mem.2 hv]
  by_cases h1 : nxt P x v < 0
  ·simp [h1]
  ·cases h2 : hasB R.al v with
   | false => simp [h1]
   | true =>
    by_cases h3 : nxt R y v < 0
    ·simp [h1, h3]
    ·simp [h1, h3]
 have hn := hb.nxt (p := mkT [P, R]) (j := i.toNat) (v := v) (by rw [hal]; exact h.wp.inc) ht (by rw [hal]; exact hv)
 rw [← hq, show ((i.toNat : Nat) : Int) = i by omega, hstp] at hn
 constructor
 ·intro h1
  rw [if_pos h1] at hn
  exact hn
 ·intro h1 h2
  have h3 : ¬ (nxt P x v < 0 ∨ (hasB R.al v = true ∧ nxt R y v < 0)) := fun h => by
   rcases h with h | h
   ·omega
   ·exact h2 h
  rw [if_neg h3] at hn
  simp only at hn
  obtain ⟨m, hm, hm2⟩ := idx_yes (hb.clo i.toNat _ v _ (List.getElem?_eq_some_iff.1 ht).1 ht (by rw [hal]; exact hv) (by rw [hstp, if_neg h3]))
  rw [hm] at hn
  rw [hn]
  exact ⟨by omega, by simpa using hm2⟩
theorem Prob.two_at (h : Prob P R u q T) {i : Int} (hi : 0 ≤ i ∧ i < q.st) : ∃ x y, T[i.toNat]? = some [x, y] ∧ (0 ≤ x ∧ x < P.st) ∧ (0 ≤ y ∧ y < R.st) := by
 have h1 := h.tups.1
 have hlt : i.toNat < T.length := by omega
 have ht := h.tups.2 _ (List.getElem_mem hlt)
 have hg : T[i.toNat]? = some T[i.toNat] := List.getElem?_eq_getElem hlt
 match hm : T[i.toNat], ht with
 | [x, y], ht =>
  rw [hm] at hg
  refine ⟨x, y, hg, ?_, ?_⟩
  ·exact ⟨ht.1, ht.2.1⟩
  ·exact ⟨ht.2.2.1, ht.2.2.2.1⟩
theorem refF_neg {s r : Int} (h : ∀ v ∈ u, refB P R s r v = false) : refF P R s r u < 0 := by
 induction u with
 | nil => show (-1 : Int) < 0; omega
 | cons a l ih =>
  unfold refF
  rw [if_neg (by rw [h a (List.mem_cons_self ..)]; simp)]
  exact ih fun v hv => h v (List.mem_cons_of_mem _ hv)
theorem refF_mem {s r : Int} (hu : ∀ x ∈ u, 0 ≤ x) : 0 ≤ refF P R s r u ↔ ∃ v ∈ u, refB P R s r v = true := by
 induction u with
 | nil =>
  constructor
  ·intro h; exact absurd h (by show ¬ (0 : Int) ≤ -1; omega)
  ·rintro ⟨v, hv, _⟩; cases hv
 | cons a l ih =>
  unfold refF
  cases hb : refB P R s r a with
  | true => simp only [if_true]; exact ⟨fun _ => ⟨a, List.mem_cons_self .., hb⟩, fun _ => hu a (List.mem_cons_self ..)⟩
  | false =>
   rw [if_neg (by simp), ih fun x hx => hu x (List.mem_cons_of_mem _ hx)]
   constructor
   ·rintro ⟨v, h1, h2⟩; exact ⟨v, List.mem_cons_of_mem _ h1, h2⟩
   ·rintro ⟨v, h1, h2⟩
    rcases List.mem_cons.1 h1 with rfl | h1
    ·rw [hb] at h2; cases h2
    ·exact ⟨v, h1, h2⟩
theorem refB_iff (hP : WF P) (hR : WF R) {s r v : Int} : refB P R s r v = true ↔ 0 ≤ nxt P s v ∧ hasB R.al v = true ∧ nxt R r v < 0 := by
 unfold refB
 rw [lkE_of_nxt hP, lkE_of_nxt hR]
 by_cases h1 : nxt P s v < 0
 ·simp [h1]; omega
 ·by_cases h2 : nxt R r v < 0
  ·simp [h1, h2]; omega
  ·simp [h1, h2]
end
/-- a behaviour of the plant that refuses no uncontrollable event -/
structure Own (P S : Aut) (U : List Int) (ψ : Int → Int) : Prop where
 wf : WF S
 al : S.al = P.al
 mrk : mrkA (canA S) = S
 st : S.st ≠ 0
 z : ψ 0 = 0
 rng : ∀ k, 0 ≤ k ∧ k < S.st → 0 ≤ ψ k ∧ ψ k < P.st
 sub : ∀ k v, 0 ≤ k ∧ k < S.st → v ∈ P.al → 0 ≤ nxt S k v → nxt P (ψ k) v = ψ (nxt S k v)
 ctl : ∀ k v, 0 ≤ k ∧ k < S.st → v ∈ P.al → hasB U v = true → 0 ≤ nxt P (ψ k) v → 0 ≤ nxt S k v
section
variable {P S q : Aut} {u : List Int} {T : List (List Int)} {ψ : Int → Int}
theorem Own.nxt_rng (h : Own P S u ψ) {k v : Int} (hn : 0 ≤ nxt S k v) : nxt S k v < S.st := (h.wf.nxt_rng (by omega)).2.1
theorem Own.pst (h : Own P S u ψ) : P.st ≠ 0 := by
 have := h.rng 0 ⟨by omega, by have := h.wf.st0; have := h.st; omega⟩
 omega
theorem Own.simP (h : Own P S u ψ) : Sim (stA S) (stp [P, S]) S.al (fun k => [ψ k, k]) (fun k => 0 ≤ k ∧ k < S.st) := by
 refine ⟨fun k v x hk _ hs => stA_rng h.wf hs, fun k v hk hv => ?_, fun x y _ _ e => by simp at e; exact e.2⟩
 have hvP : v ∈ P.al := h.al ▸ hv
 have e1 : hasB P.al v = true := hasB_mem.2 hvP
 have e2 : hasB S.al v = true := hasB_mem.2 hv
 unfold stp stA
 simp only [rfB, mvs, rf, mv, e1, e2]
 by_cases hn : nxt S k v < 0
 ·simp [hn]
 ·have h1 := h.sub k v hk hvP (by omega)
  have h2 := h.rng (nxt S k v) ⟨by omega, h.nxt_rng (by omega)⟩
  rw [h1]
  have h3 : ¬ ψ (nxt S k v) < 0 := by omega
  simp [hn, h3]
theorem Own.own_gR (h : Own P S u ψ) : gR (stA S) S.al 0 = S := by rw [← mrk_gR h.st, h.mrk]
theorem Own.ev (h : Own P S u ψ) (hp : WF P) : evs [P, S] = P.al := by
 show mrg (mrg [] P.al) S.al = P.al
 rw [h.al]
 refine inc_unique (mrg_inc (mrg_inc List.Pairwise.nil hp.inc) hp.inc) hp.inc fun v => ?_
 rw [mrg_mem, mrg_mem]
 simp
theorem Own.q0 (h : Own P S u ψ) (hp : Prob P S u q T) : q.st ≠ 0 := hp.q0.2 ⟨h.pst, h.st⟩
theorem Own.clo (h : Own P S u ψ) (hp : Prob P S u q T) : cloA q = S := by
 obtain ⟨s, hs, hb, hT, hq⟩ := hp.bi (h.q0 hp)
 have hz : (0 : Int) ≤ 0 ∧ (0 : Int) < S.st := ⟨by omega, by have := h.wf.st0; have := h.st; omega⟩
 have hg := simG (h.simP) hz
 rw [h.own_gR, h.z] at hg
 unfold synS at hs
 rw [h.ev hp.wp, ← h.al] at hs
 rw [show ini [P, S] = [0, 0] from rfl] at hs
 unfold gR at hg
 rw [hs] at hg
 refine Eq.trans ?_ hg
 rw [clo_can hp.can, hq, gR_autOf, h.ev hp.wp, ← h.al]
theorem Own.tup (h : Own P S u ψ) (hp : Prob P S u q T) : ∀ t ∈ T, ∃ k, (0 ≤ k ∧ k < S.st) ∧ t = [ψ k, k] := by
 obtain ⟨s, hs, hb, hT, hq⟩ := hp.bi (h.q0 hp)
 have hz : (0 : Int) ≤ 0 ∧ (0 : Int) < S.st := ⟨by omega, by have := h.wf.st0; have := h.st; omega⟩
 obtain ⟨e1, e2⟩ := (h.simP).bfs (C := 4096) hz
 unfold synS at hs
 rw [h.ev hp.wp, ← h.al, show ini [P, S] = (fun k => [ψ k, k]) 0 by simp [h.z, ini], e1] at hs
 cases hz2 : bfs 4096 (stA S) S.al 0 with
 | none => rw [hz2] at hs; cases hs
 | some z =>
  rw [hz2] at hs
  injection hs with hs
  intro t ht
  rw [← hT, ← hs] at ht
  obtain ⟨k, hk, rfl⟩ := List.mem_map.1 (show t ∈ z.ts.map _ from ht)
  exact ⟨k, e2 z hz2 k hk, rfl⟩
theorem Own.bad (h : Own P S u ψ) (hp : Prob P S u q T) (n : Nat) (hn : n ≤ T.length) : badI P S u T n = [] := by
 unfold badI
 rw [List.filter_eq_nil_iff]
 intro i hi
 have hi := rngI_mem.1 hi
 have hlt : i.toNat < T.length := by omega
 obtain ⟨k, hk, hm⟩ := h.tup hp _ (List.getElem_mem hlt)
 have hd : T.getD i.toNat [] = [ψ k, k] := by rw [List.getD_eq_getElem?_getD, List.getElem?_eq_getElem hlt, hm]; rfl
 rw [hd]
 have hneg : refT P S u [ψ k, k] < 0 := by
  show refF P S (ψ k) k u < 0
  refine refF_neg fun v hv => ?_
  cases hb : refB P S (ψ k) k v with
  | false => rfl
  | true =>
   obtain ⟨g1, g2, g3⟩ := (refB_iff hp.wp h.wf).1 hb
   have hvP : v ∈ P.al := h.al ▸ hasB_mem.1 g2
   have := h.ctl k v hk hvP (hasB_mem.2 hv) g1
   omega
 simp only [decide_eq_true_eq]
 omega
end
section
variable {P R q : Aut} {u : List Int} {T : List (List Int)}
theorem int_al {v : Int} (hv : v ∈ P.al) : hasB (intS u P.al) v = hasB u v := by rw [hasB_int, show hasB P.al v = true from hasB_mem.2 hv, Bool.and_true]
end
end Go.Proofs.YtcchnibgehonoaaDoor

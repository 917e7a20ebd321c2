/- Plain: the supremal and the infimal language are behaviours of the plant that refuse no uncontrollable event. -/
import Derived.Test.YtcchnibgehonoaaDoorDq
namespace Go.Proofs.YtcchnibgehonoaaDoor

section
variable {σ : Type} [DecidableEq σ]
theorem gra_aut {C : Nat} {st : σ → Int → Option σ} {V : List Int} {x0 : σ} {s : Bs σ} (_h : BInv C st V x0 s.ts.length s) : gra V (some s) = autOf V (fun _ => true) s := by
 have e : rngI (s.ts.length : Int) = mksN (fun _ => true) s.ts s.ts.length := by
  refine inc_unique (rng_inc _) (mksN_inc _ _ _) fun x => ?_
  rw [rngI_mem, mksN_mem]
  constructor
  ·intro hx
   obtain ⟨k, t, rfl, hk⟩ := stAt_some hx
   exact ⟨k, t, (List.getElem?_eq_some_iff.1 hk).1, rfl, hk, rfl⟩
  ·rintro ⟨j, t, h1, h2, _⟩
   subst h2; omega
 show Aut.mk V _ (rngI (s.ts.length : Int)) _ = _
 rw [e]; rfl
/-- a search whose states stand for states of the plant -/
theorem Own.of {P : Aut} {u : List Int} {st : σ → Int → Option σ} {x0 : σ} {s : Bs σ} {φ : σ → Int} (hP : WF P) (hb : BInv 4096 st P.al x0 s.ts.length s) (he : bfs 4096 st P.al x0 = some s) (h0 : φ x0 = 0) (hr : ∀ t ∈ s.ts, 0 ≤ φ t ∧ φ t < P.st)
  (hs : ∀ t v y, t ∈ s.ts → v ∈ P.al → st t v = some y → nxt P (φ t) v = φ y) (hc : ∀ t v, t ∈ s.ts → v ∈ P.al → hasB u v = true → 0 ≤ nxt P (φ t) v → st t v ≠ none) : Own P (gra P.al (some s)) u (fun k => φ (stAt s.ts x0 k)) := by
 have hg := gra_aut hb
 have hp := hb.pos
 have hnx : ∀ (k v : Int), 0 ≤ k ∧ k < (s.ts.length : Int) → v ∈ P.al → ∃ t, t ∈ s.ts ∧ stAt s.ts x0 k = t ∧ nxt (gra P.al (some s)) k v = match st t v with | some y => idx s.ts y | none => -1 := fun k v hk hv => by
  obtain ⟨j, t, rfl, hj⟩ := stAt_some hk
  refine ⟨t, List.mem_of_getElem? hj, stAt_get hj, ?_⟩
  rw [hg, hb.nxt hP.inc hj hv]
  cases st t v <;> rfl
 have hix : ∀ t v y, t ∈ s.ts → v ∈ P.al → st t v = some y → 0 ≤ idx s.ts y ∧ stAt s.ts x0 (idx s.ts y) = y := fun t v y ht hv hy => by
  obtain ⟨j, hj⟩ := List.getElem?_of_mem ht
  obtain ⟨m, hm, hm2⟩ := idx_yes (hb.clo j t v y (List.getElem?_eq_some_iff.1 hj).1 hj hv hy)
  rw [hm]
  exact ⟨by omega, stAt_get hm2⟩
 refine ⟨?_, rfl, ?_, ?_, ?_, fun k hk => ?_, fun k v hk hv hn => ?_, fun k v hk hv hu hn => ?_⟩
 ·rw [hg]; exact hb.wf (Nat.le_refl _) hP.inc hP.rng
 ·rw [hg, hb.canon he hP.inc, gR_autOf]; exact hg
 ·show (s.ts.length : Int) ≠ 0; omega
 ·show φ (stAt s.ts x0 0) = 0
  rw [hb.at0, h0]
 ·have hk : 0 ≤ k ∧ k < (s.ts.length : Int) := hk
  obtain ⟨j, t, rfl, hj⟩ := stAt_some hk
  show 0 ≤ φ (stAt s.ts x0 _) ∧ φ (stAt s.ts x0 _) < P.st
  rw [stAt_get hj]
  exact hr t (List.mem_of_getElem? hj)
 ·obtain ⟨t, ht, e1, e2⟩ := hnx k v hk hv
  rw [e2] at hn ⊢
  show nxt P (φ (stAt s.ts x0 k)) v = φ (stAt s.ts x0 _)
  rw [e1]
  cases hy : st t v with
  | none => rw [hy] at hn; simp at hn
  | some y =>
   simp only
   rw [(hix t v y ht hv hy).2]
   exact hs t v y ht hv hy
 ·obtain ⟨t, ht, e1, e2⟩ := hnx k v hk hv
  have hn : 0 ≤ nxt P (φ (stAt s.ts x0 k)) v := hn
  rw [e1] at hn
  rw [e2]
  cases hy : st t v with
  | none => exact absurd hy (hc t v ht hv hu hn)
  | some y => exact (hix t v y ht hv hy).1
end
section
variable {P R q : Aut} {u : List Int} {T : List (List Int)}
theorem nxt_ed {a : Aut} (h : WF a) {s v t : Int} : (⟨s, v, t⟩ : Ed) ∈ a.ed ↔ nxt a s v = t ∧ 0 ≤ t := by
 constructor
 ·intro hx
  have h1 := h.ev_rng hx
  exact ⟨nxtE_of h.einc hx rfl rfl, by simp only at h1; omega⟩
 ·rintro ⟨h1, h2⟩
  obtain ⟨x, hx, e1, e2, e3⟩ := nxtE_mem (s := s) (v := v) (l := a.ed) (by show nxt a s v ≠ -1; omega)
  obtain ⟨f, e, t'⟩ := x
  simp only at e1 e2 e3
  rw [show nxtE s v a.ed = nxt a s v from rfl, h1] at e3
  subst e1 e2 e3
  exact hx
theorem rst_ed {a : Aut} (h : WF a) {K : List Int} {s v t : Int} : (nxt (rstA a K) s v = t ∧ 0 ≤ t) ↔ (nxt a s v = t ∧ 0 ≤ t) ∧ s ∈ K ∧ t ∈ K := by
 rw [← nxt_ed (rst_wf h), ← nxt_ed h]
 show (⟨s, v, t⟩ : Ed) ∈ a.ed.filter (inE K) ↔ _
 rw [List.mem_filter]
 unfold inE
 rw [Bool.and_eq_true, hasB_mem, hasB_mem]
theorem stA_some {a : Aut} {s v t : Int} : stA a s v = some t ↔ nxt a s v = t ∧ 0 ≤ t := by
 unfold stA
 by_cases h : nxt a s v < 0
 ·rw [if_pos h]; constructor
  ·intro h; cases h
  ·rintro ⟨h1, h2⟩; omega
 ·rw [if_neg h]; constructor
  ·intro h1; injection h1 with h1; exact ⟨h1, by omega⟩
  ·rintro ⟨h1, _⟩; rw [h1]
/-- first part of a state's tuple -/
def fst2 (T : List (List Int)) (i : Int) : Int := (T.getD i.toNat []).getD 0 0
def snd2 (T : List (List Int)) (i : Int) : Int := (T.getD i.toNat []).getD 1 0
theorem fst2_of {i x y : Int} (h : T[i.toNat]? = some [x, y]) : fst2 T i = x ∧ snd2 T i = y := by
 have hd : T.getD i.toNat [] = [x, y] := by rw [List.getD_eq_getElem?_getD, h]; rfl
 unfold fst2 snd2
 rw [hd]; exact ⟨rfl, rfl⟩
theorem Prob.st_all (h : Prob P R u q T) : q.st = (T.length : Int) := h.tups.1
/-- what is kept -/
theorem supK_mem (h : Prob P R u q T) {i : Int} : i ∈ supK P R (intS u P.al) q T T.length ↔ (0 ≤ i ∧ i < q.st) ∧ ¬ Con q.ed (intS u P.al) true (badI P R (intS u P.al) T T.length) i := by
 unfold supK
 rw [minS_mem, rngI_mem, ← h.st_all, clS_mem badI_rng (EdIn.of h.pwf h.st_all), ← h.st_all]
 constructor
 ·rintro ⟨h1, h2⟩; exact ⟨h1, fun h3 => h2 ⟨h1, h3⟩⟩
 ·rintro ⟨h1, h2⟩; exact ⟨h1, fun h3 => h2 h3.2⟩
theorem bad_mem (h : Prob P R u q T) {i x y : Int} (hi : 0 ≤ i ∧ i < q.st) (ht : T[i.toNat]? = some [x, y]) : i ∈ badI P R (intS u P.al) T T.length ↔ ∃ v ∈ u, 0 ≤ nxt P x v ∧ hasB R.al v = true ∧ nxt R y v < 0 := by
 rw [← badI_mem h.wp]
 unfold badI
 rw [List.mem_filter, rngI_mem, ← h.st_all]
 have hd : T.getD i.toNat [] = [x, y] := by rw [List.getD_eq_getElem?_getD, ht]; rfl
 rw [hd, decide_eq_true_eq]
 show _ ∧ 0 ≤ refF P R x y u ↔ _
 rw [refF_mem fun x hx => (h.ur x hx).1]
 constructor
 ·rintro ⟨_, v, hv, hb⟩; exact ⟨v, hv, (refB_iff h.wp h.wr).1 hb⟩
 ·rintro ⟨v, hv, hb⟩; exact ⟨hi, v, hv, (refB_iff h.wp h.wr).2 hb⟩
theorem sup_own (h : Prob P R u q T) (h0 : (supA P R (intS u P.al) q T T.length).st ≠ 0) : ∃ ψ, Own P (supA P R (intS u P.al) q T T.length) u ψ := by
 obtain ⟨K, hK⟩ : ∃ K, supK P R (intS u P.al) q T T.length = K := ⟨_, rfl⟩
 have hKm : ∀ i, i ∈ K ↔ (0 ≤ i ∧ i < q.st) ∧ ¬ Con q.ed (intS u P.al) true (badI P R (intS u P.al) T T.length) i := fun i => by rw [← hK]; exact supK_mem h
 unfold supA at h0 ⊢
 rw [hK] at h0 ⊢
 have hz : 0 ∈ K := by
  by_cases hm : (0 : Int) ∈ K
  ·exact hm
  ·exfalso
   apply h0
   unfold witA
   rw [if_neg (by rw [hasB_mem]; exact hm)]; rfl
 have hq0 : q.st ≠ 0 := by have := ((hKm 0).1 hz).1; omega
 have hwr := rst_wf (set := K) h.pwf
 have hS : mrkA (witA q K) = gR (stA (rstA q K)) P.al 0 := by
  unfold witA
  rw [if_pos (hasB_mem.2 hz), mrk_gR (show (rstA q K).st ≠ 0 from hq0), show (rstA q K).al = q.al from rfl, h.alq]
 rw [hS] at h0 ⊢
 rcases bfs_spec (C := 4096) (st := stA (rstA q K)) (V := P.al) (x0 := (0 : Int)) (by omega) with ⟨s, hs, hb⟩ | ⟨hs, _⟩
 ·unfold gR
  rw [hs]
  have hin : ∀ t ∈ s.ts, t ∈ K := fun t ht => by
   have hr := hb.rch t ht
   induction hr with
   | start => exact hz
   | step _ _ h3 _ => exact ((rst_ed h.pwf).1 (stA_some.1 h3)).2.2
  have htw : ∀ t ∈ s.ts, ∃ x y, T[t.toNat]? = some [x, y] ∧ (0 ≤ x ∧ x < P.st) ∧ (0 ≤ y ∧ y < R.st) := fun t ht => h.two_at ((hKm t).1 (hin t ht)).1
  refine ⟨_, Own.of (φ := fst2 T) h.wp hb hs ?_ (fun t ht => ?_) (fun t v y ht hv hy => ?_) (fun t v ht hv hu hn => ?_)⟩
  ·obtain ⟨z, _, hbz, hT, _⟩ := h.bi hq0
   have := hbz.head
   rw [hT] at this
   exact (fst2_of (i := 0) (x := 0) (y := 0) this).1
  ·obtain ⟨x, y, h1, h2, _⟩ := htw t ht
   rw [(fst2_of h1).1]; exact h2
  ·obtain ⟨a, b, h1, h2, _⟩ := htw t ht
   obtain ⟨g1, g2⟩ := (rst_ed h.pwf).1 (stA_some.1 hy)
   have ht0 := ((hKm t).1 (hin t ht)).1.1
   obtain ⟨s1, s2⟩ := h.step hv ht0 h1
   have hno : ¬ (nxt P a v < 0 ∨ (hasB R.al v = true ∧ nxt R b v < 0)) := fun hh => by have := s1 hh; omega
   have hP : 0 ≤ nxt P a v := Int.not_lt.1 fun hh => hno (.inl hh)
   obtain ⟨_, s3⟩ := s2 hP fun hh => hno (.inr hh)
   rw [g1.1] at s3
   rw [(fst2_of h1).1, (fst2_of s3).1]
  ·obtain ⟨a, b, h1, h2, _⟩ := htw t ht
   rw [(fst2_of h1).1] at hn
   obtain ⟨ht0, htc⟩ := (hKm t).1 (hin t ht)
   obtain ⟨s1, s2⟩ := h.step hv ht0.1 h1
   have hno : ¬ (hasB R.al v = true ∧ nxt R b v < 0) := fun hh => htc (.base ((bad_mem h ht0 h1).2 ⟨v, hasB_mem.1 hu, hn, hh⟩))
   obtain ⟨s3, s4⟩ := s2 hn hno
   have hed : (⟨t, v, nxt q t v⟩ : Ed) ∈ q.ed := (nxt_ed h.pwf).2 ⟨rfl, s3⟩
   have hj : nxt q t v ∈ K := (hKm _).2 ⟨⟨s3, (h.pwf.nxt_rng (by omega)).2.1⟩, fun hc => htc (by
    have := Con.step (back := true) (x := ⟨t, v, nxt q t v⟩) hc hed (by show hasB (intS u P.al) v = true; rw [int_al hv]; exact hu)
    exact this)⟩
   rw [stA_some.2 ((rst_ed h.pwf).2 ⟨⟨rfl, s3⟩, hin t ht, hj⟩)]
   simp
 ·exfalso
  apply h0
  unfold gR
  rw [hs]; rfl
theorem inf_own (h : Prob P R u q T) (h0 : (infA P R (intS u P.al) q).st ≠ 0) : ∃ ψ, Own P (infA P R (intS u P.al) q) u ψ := by
 have hq0 : q.st ≠ 0 := fun e => h0 (by rw [inf_no e])
 obtain ⟨hP0, hR0⟩ := h.q0.1 hq0
 rw [inf_gR hq0] at h0 ⊢
 rcases bfs_spec (C := 4096) (st := nxI P R (intS u P.al)) (V := P.al) (x0 := ((0 : Int), (0 : Int))) (by omega) with ⟨s, hs, hb⟩ | ⟨hs, _⟩
 ·unfold gR
  rw [hs]
  have hin : ∀ t ∈ s.ts, PrI P R t := fun t ht => rchI_rng h.wp h.wr hP0 hR0 (hb.rch t ht)
  refine ⟨_, Own.of (φ := fun z => z.1) h.wp hb hs rfl (fun t ht => (hin t ht).1) (fun t v y ht hv hy => ?_) (fun t v ht hv hu hn => ?_)⟩
  ·unfold nxI at hy
   rw [lkE_of_nxt h.wp] at hy
   split at hy
   ·cases hy
   ·rename_i t1 hl
    split at hl
    ·cases hl
    ·injection hl with hl
     subst hl
     split at hy
     ·split at hy
      ·injection hy with hy; subst hy; rfl
      ·cases hy
     ·split at hy
      ·injection hy with hy; subst hy; rfl
      ·split at hy
       ·injection hy with hy; subst hy; rfl
       ·split at hy
        ·injection hy with hy; subst hy; rfl
        ·cases hy
  ·unfold nxI
   rw [lkE_of_nxt h.wp, if_neg (by omega), int_al hv, hu]
   simp only [if_true]
   split
   ·simp
   ·split
    ·simp
    ·split <;> simp
 ·exfalso
  apply h0
  unfold gR
  rw [hs]; rfl
end
end Go.Proofs.YtcchnibgehonoaaDoor

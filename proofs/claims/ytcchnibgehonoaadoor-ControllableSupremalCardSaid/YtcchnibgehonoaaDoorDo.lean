/- Plain: the law's infimal language: the product with a requirement that has a further state. -/
import Derived.Test.YtcchnibgehonoaaDoorDn
namespace Go.Proofs.YtcchnibgehonoaaDoor

def wTo (R : Aut) (s v : Int) : Int := if s < R.st ∧ hasB R.al v = true then (if nxt R s v < 0 then R.st else nxt R s v) else s
def stW (R : Aut) (u : List Int) (s v : Int) : Option Int := if wTo R s v = R.st ∧ hasB u v = false then none else some (wTo R s v)
def wRow (R : Aut) (u : List Int) (s : Int) (D : List Int) : List Ed := D.filterMap (fun v => (stW R u s v).map (fun t => ⟨s, v, t⟩))
def wEds (R : Aut) (u al : List Int) : Nat → List Ed
 | 0 => []
 | k + 1 => wEds R u al k ++ wRow R u (k : Int) al
/-- the requirement with a further state, in which only uncontrollable events are possible -/
def wideA (P R : Aut) (u : List Int) : Aut := ⟨P.al, R.st + 1, [], wEds R u P.al (R.st.toNat + 1)⟩
theorem wRow_yes {R : Aut} {u D : List Int} {s v t : Int} {k : Nat} (hv : D[k]? = some v) (h : stW R u s v = some t) : wRow R u s (D.take (k + 1)) = wRow R u s (D.take k) ++ [⟨s, v, t⟩] := by
 rw [take_snoc' hv]; unfold wRow; rw [List.filterMap_append]; simp [h]
theorem wRow_no {R : Aut} {u D : List Int} {s v : Int} {k : Nat} (hv : D[k]? = some v) (h : stW R u s v = none) : wRow R u s (D.take (k + 1)) = wRow R u s (D.take k) := by
 rw [take_snoc' hv]; unfold wRow; rw [List.filterMap_append]; simp [h]
theorem wRow_mem {R : Aut} {u D : List Int} {s : Int} {x : Ed} : x ∈ wRow R u s D ↔ ∃ v t, v ∈ D ∧ stW R u s v = some t ∧ x = ⟨s, v, t⟩ := by
 unfold wRow
 rw [List.mem_filterMap]
 constructor
 ·rintro ⟨v, hv, h⟩
  cases hs : stW R u s v with
  | none => rw [hs] at h; cases h
  | some t => rw [hs] at h; injection h with h; exact ⟨v, t, hv, hs, h.symm⟩
 ·rintro ⟨v, t, hv, hs, rfl⟩; exact ⟨v, hv, by rw [hs]; rfl⟩
theorem wEds_mem {R : Aut} {u al : List Int} {x : Ed} : ∀ {n : Nat}, x ∈ wEds R u al n ↔ ∃ (s : Nat) (v t : Int), s < n ∧ v ∈ al ∧ stW R u s v = some t ∧ x = ⟨s, v, t⟩
 | 0 => by simp [wEds]
 | n + 1 => by
  unfold wEds
  rw [List.mem_append, wEds_mem, wRow_mem]
  constructor
  ·rintro (⟨s, v, t, h1, h2⟩ | ⟨v, t, h2⟩)
   ·exact ⟨s, v, t, by omega, h2⟩
   ·exact ⟨n, v, t, by omega, h2⟩
  ·rintro ⟨s, v, t, h1, h2⟩
   rcases Nat.lt_or_ge s n with h | h
   ·exact .inl ⟨s, v, t, h, h2⟩
   ·obtain rfl : s = n := by omega
    exact .inr ⟨v, t, h2⟩
theorem wRow_inc {R : Aut} {u D : List Int} {s : Int} (h : Inc D) : (wRow R u s D).Pairwise edLt := by
 unfold wRow
 rw [List.pairwise_filterMap]
 refine h.imp fun {a b} hab x hx y hy => ?_
 cases h1 : stW R u s a with
 | none => rw [h1] at hx; cases hx
 | some c =>
  cases h2 : stW R u s b with
  | none => rw [h2] at hy; cases hy
  | some d =>
   rw [h1] at hx; rw [h2] at hy
   simp only [Option.map_some, Option.some.injEq] at hx hy
   subst hx hy
   exact .inr ⟨rfl, hab⟩
theorem wEds_inc {R : Aut} {u al : List Int} (h : Inc al) : ∀ n, (wEds R u al n).Pairwise edLt
 | 0 => List.Pairwise.nil
 | n + 1 => by
  unfold wEds
  rw [List.pairwise_append]
  refine ⟨wEds_inc h n, wRow_inc h, fun a ha b hb => ?_⟩
  obtain ⟨s, v, t, h1, _, _, rfl⟩ := wEds_mem.1 ha
  obtain ⟨v', t', _, _, rfl⟩ := wRow_mem.1 hb
  left; show (s : Int) < (n : Int); omega
theorem wRow_len (R : Aut) (u D : List Int) (s : Int) : (wRow R u s D).length ≤ D.length := List.length_filterMap_le _ _
theorem wTo_rng {R : Aut} (h : WF R) {s v : Int} (h0 : 0 ≤ s) (h1 : s ≤ R.st) : 0 ≤ wTo R s v ∧ wTo R s v ≤ R.st := by
 have hr := h.st0
 unfold wTo
 split
 ·split
  ·omega
  ·rename_i hn
   have hne : nxt R s v ≠ -1 := fun e => by omega
   obtain ⟨g1, g2, _⟩ := h.nxt_rng hne
   omega
 ·omega
theorem stW_rng {R : Aut} (h : WF R) {u : List Int} {s v t : Int} (h0 : 0 ≤ s) (h1 : s ≤ R.st) (hs : stW R u s v = some t) : 0 ≤ t ∧ t ≤ R.st := by
 unfold stW at hs
 split at hs
 ·cases hs
 ·injection hs with hs; subst hs; exact wTo_rng h h0 h1
theorem wide_wf {P R : Aut} {u : List Int} (hP : WF P) (hR : WF R) (hr : R.st ≤ 4000) : WF (wideA P R u) := by
 have h0 := hR.st0
 refine ⟨hP.inc, hP.rng, by show 0 ≤ R.st + 1; omega, by show R.st + 1 ≤ 4096; omega, List.Pairwise.nil, fun x hx => absurd hx List.not_mem_nil, wEds_inc hP.inc _, fun x hx => ?_⟩
 obtain ⟨s, v, t, h1, h2, h3, rfl⟩ := wEds_mem.1 hx
 have ht := stW_rng hR (by omega) (by omega) h3
 refine ⟨?_, hasB_mem.2 h2⟩
 unfold edOut
 show ¬ ((s : Int) < 0 ∨ R.st + 1 ≤ (s : Int) ∨ t < 0 ∨ R.st + 1 ≤ t)
 omega
theorem wide_nxt {P R : Aut} {u : List Int} (hP : WF P) (_hR : WF R) {s v : Int} (h0 : 0 ≤ s) (h1 : s ≤ R.st) (hv : v ∈ P.al) : nxt (wideA P R u) s v = (stW R u s v).getD (-1) := by
 have hinc := wEds_inc (R := R) (u := u) hP.inc (R.st.toNat + 1)
 cases hs : stW R u s v with
 | some t =>
  refine nxtE_of (x := ⟨s, v, t⟩) hinc ?_ rfl rfl
  exact wEds_mem.2 ⟨s.toNat, v, t, by omega, hv, by rw [show ((s.toNat : Nat) : Int) = s by omega]; exact hs, by rw [show ((s.toNat : Nat) : Int) = s by omega]⟩
 | none =>
  by_cases hn : nxt (wideA P R u) s v = -1
  ·exact hn
  ·obtain ⟨x, hx, e1, e2, e3⟩ := nxtE_mem hn
   obtain ⟨j, w, t, g1, g2, g3, rfl⟩ := wEds_mem.1 hx
   have e1 : (j : Int) = s := e1
   have e2 : w = v := e2
   subst e2
   rw [e1, hs] at g3
   cases g3
/-- a pair as a tuple of the product -/
def wPhi (R : Aut) (z : Int × Int) : List Int := [z.1, if z.2 = -1 then R.st else z.2]
theorem wide_evs {P R : Aut} {u : List Int} (hP : WF P) : evs [P, wideA P R u] = P.al := by
 show mrg (mrg [] P.al) P.al = P.al
 refine inc_unique (mrg_inc (mrg_inc List.Pairwise.nil hP.inc) hP.inc) hP.inc fun v => ?_
 rw [mrg_mem, mrg_mem]
 simp
theorem wide_sim {P R : Aut} {u : List Int} (hP : WF P) (hR : WF R) : Sim (nxI P R (intS u P.al)) (stp [P, wideA P R u]) P.al (wPhi R) (PrI P R) := by
 refine ⟨fun t v x ht _ hs => nxI_rng hP hR ht hs, fun z v hz hv => ?_, fun x y hx hy e => ?_⟩
 ·obtain ⟨s, q⟩ := z
  obtain ⟨⟨a0, a1⟩, b0, b1⟩ := hz
  simp only at a0 a1 b0 b1
  have hUv : hasB (intS u P.al) v = hasB u v := by rw [hasB_int, show hasB P.al v = true from hasB_mem.2 hv, Bool.and_true]
  have hq : 0 ≤ (if q = -1 then R.st else q) ∧ (if q = -1 then R.st else q) ≤ R.st := by
   have := hR.st0
   split <;> omega
  have hw := wide_nxt (u := u) hP hR hq.1 hq.2 hv
  have key : stp [P, wideA P R u] (wPhi R (s, q)) v = if nxt P s v < 0 then none else (stW R u (if q = -1 then R.st else q) v).map (fun t => [nxt P s v, t]) := by
   unfold stp wPhi
   simp only [rfB, mvs, rf, mv]
   rw [show hasB P.al v = true from hasB_mem.2 hv, show hasB (wideA P R u).al v = true from hasB_mem.2 hv, hw]
   cases hs : stW R u (if q = -1 then R.st else q) v with
   | none => simp
   | some t =>
    have ht := stW_rng hR hq.1 hq.2 hs
    by_cases hn : nxt P s v < 0
    ·simp [hn]
    ·simp [hn]; omega
  rw [key]
  unfold nxI
  simp only [hUv]
  rw [lkE_of_nxt hP]
  by_cases hn : nxt P s v < 0
  ·rw [if_pos hn, if_pos hn]; rfl
  ·rw [if_neg hn, if_neg hn]
   simp only
   by_cases hq1 : q = -1
   ·rw [if_pos hq1, if_pos hq1]
    unfold stW wTo
    rw [if_neg (by omega : ¬ (R.st < R.st ∧ hasB R.al v = true))]
    cases hu : hasB u v with
    | true => simp [wPhi]
    | false => simp
   ·rw [if_neg hq1, if_neg hq1]
    cases hal : hasB R.al v with
    | false =>
     have hw : wTo R q v = q := by unfold wTo; rw [hal]; exact if_neg (by simp)
     have hs : stW R u q v = some q := by unfold stW; rw [hw]; exact if_neg (fun e => by omega)
     rw [hs, if_pos rfl]
     simp [wPhi, hq1]
    | true =>
     rw [if_neg (by simp), lkE_of_nxt hR]
     by_cases hm : nxt R q v < 0
     ·rw [if_pos hm]
      have hw : wTo R q v = R.st := by unfold wTo; rw [if_pos ⟨b1, hal⟩, if_pos hm]
      unfold stW
      rw [hw]
      simp only
      cases hu : hasB u v with
      | true => simp [wPhi]
      | false => simp
     ·rw [if_neg hm]
      have hne : nxt R q v ≠ -1 := fun e => by omega
      obtain ⟨g1, g2, _⟩ := hR.nxt_rng hne
      have hw : wTo R q v = nxt R q v := by unfold wTo; rw [if_pos ⟨b1, hal⟩, if_neg hm]
      have hs : stW R u q v = some (nxt R q v) := by unfold stW; rw [hw]; exact if_neg (fun e => by omega)
      rw [hs]
      simp [wPhi, hne]
 ·obtain ⟨x1, x2⟩ := x
  obtain ⟨y1, y2⟩ := y
  have hx2 := hx.2
  have hy2 := hy.2
  simp only at hx2 hy2
  unfold wPhi at e
  simp only [List.cons.injEq, and_true] at e
  obtain ⟨e1, e2⟩ := e
  rw [e1]
  congr 1
  split at e2 <;> split at e2 <;> omega
theorem inf_eq {P R p : Aut} {u : List Int} {T : List (List Int)} (h : Prob P R u p T) (hR0 : R.st ≠ 0) : ∃ r S, synR [P, wideA P R u] = some (r, S) ∧ cloA r = infA P R (intS u P.al) p := by
 have hww := wide_wf (u := u) h.wp h.wr (by have := h.sr; omega)
 have hev := wide_evs (R := R) (u := u) h.wp
 by_cases hP0 : P.st = 0
 ·have hns : noSt [P, wideA P R u] = true := by unfold noSt; simp [hP0]
  have hnp : noSt [P, R] = true := by unfold noSt; simp [hP0]
  have hs := h.syn
  unfold synR at hs
  rw [if_pos hnp] at hs
  injection hs with hs
  injection hs with hs _
  refine ⟨⟨evs [P, wideA P R u], 0, [], []⟩, [], by unfold synR; rw [if_pos hns], ?_⟩
  unfold infA infS
  rw [if_pos (by rw [← hs]), hev]
  rfl
 ·have hns : noSt [P, wideA P R u] = false := by
   have := h.wr.st0
   unfold noSt
   simp [hP0]
   show R.st + 1 ≠ 0
   omega
  have hp0 : p.st ≠ 0 := by
   have hnp : noSt [P, R] = false := by unfold noSt; simp [hP0, hR0]
   obtain ⟨s, hq, hr⟩ := syn_get hnp h.syn
   have hi := syn_inv h.two hq hnp (Nat.le_trans h.prod (by omega))
   rw [hr]
   show (s.ts.length : Int) ≠ 0
   have := (List.getElem?_eq_some_iff.1 hi.head).1
   omega
  obtain ⟨s, hs, hb⟩ : ∃ s, bfs 4096 (nxI P R (intS u P.al)) P.al (0, 0) = some s ∧ BInv 4096 (nxI P R (intS u P.al)) P.al (0, 0) s.ts.length s := by
   rcases bfs_spec (C := 4096) (st := nxI P R (intS u P.al)) (V := P.al) (x0 := ((0 : Int), (0 : Int))) (by omega) with hs | ⟨_, hm⟩
   ·exact hs
   ·exact absurd hm (few_pairs h.wp h.wr hP0 hR0 h.sp h.sr)
  have h00 : PrI P R (0, 0) := ⟨⟨by simp, by have := h.wp.st0; show 0 < P.st; omega⟩, by simp, by have := h.wr.st0; show 0 < R.st; omega⟩
  have hsim := (Sim.bfs (C := 4096) (wide_sim (u := u) h.wp h.wr) h00).1
  rw [hs] at hsim
  have hsyn : synR [P, wideA P R u] = some (autOf P.al (mkT [P, wideA P R u]) (s.map (wPhi R)), (s.map (wPhi R)).ts) := by
   unfold synR
   rw [if_neg (by rw [hns]; simp)]
   unfold synS
   rw [hev, show ini [P, wideA P R u] = wPhi R (0, 0) from rfl, hsim]
   rfl
  have hw2 : ∀ a ∈ [P, wideA P R u], WF a := fun a ha => by simp at ha; rcases ha with rfl | rfl; exact h.wp; exact hww
  have hpr : prodN [P, wideA P R u] ≤ 4096 := by
   show P.st.toNat * ((R.st + 1).toNat * 1) ≤ 4096
   have h1 := h.sp; have h2 := h.sr
   have := Nat.mul_le_mul (show P.st.toNat ≤ 60 by omega) (show (R.st + 1).toNat * 1 ≤ 61 by omega)
   omega
  refine ⟨_, _, hsyn, ?_⟩
  rw [clo_can (syn_canon hw2 hpr hsyn)]
  unfold infA infS
  rw [if_neg hp0, hs]
  show mrkA (autOf P.al _ (s.map (wPhi R))) = _
  unfold mrkA autOf
  simp [Bs.map]
end Go.Proofs.YtcchnibgehonoaaDoor

/- Plain laws: the automata of graphs (the statements' decoding); searches that go alike give the same automaton. -/
import Derived.Test.YtbdliebjalghmaaDoorQe
namespace Go.Proofs.YtbdliebjalghmaaDoor

section
variable {σ τ : Type} [DecidableEq σ] [DecidableEq τ]
omit [DecidableEq σ] [DecidableEq τ] in
theorem mksN_map {φ : σ → τ} {p : σ → Bool} {p' : τ → Bool} {ts : List σ} (h : ∀ x ∈ ts, p' (φ x) = p x) : ∀ i, mksN p' (ts.map φ) i = mksN p ts i
  | 0 => rfl
  | i + 1 => by
    unfold mksN
    rw [mksN_map h i, List.getElem?_map]
    cases ht : ts[i]? with
    | none => rfl
    | some t => simp only [Option.map_some]; rw [h t (List.mem_of_getElem? ht)]
omit [DecidableEq σ] [DecidableEq τ] in
theorem autOf_map {V : List Int} {φ : σ → τ} {p : σ → Bool} {p' : τ → Bool} {s : Bs σ} (h : ∀ x ∈ s.ts, p' (φ x) = p x) : autOf V p' (s.map φ) = autOf V p s := by
  unfold autOf Bs.map
  simp only [List.length_map]
  rw [mksN_map h]
/-- Machines that step and mark alike give the same automaton. -/
theorem Sim.aut {C : Nat} {st : σ → Int → Option σ} {st' : τ → Int → Option τ} {V : List Int} {φ : σ → τ} {P : σ → Prop} {x0 : σ} {p : σ → Bool} {p' : τ → Bool} (h : Sim st st' V φ P) (h0 : P x0) (hp : ∀ x, P x → p' (φ x) = p x) :
    (Proofs.YtbdliebjalghmaaDoor.bfs C st' V (φ x0)).map (autOf V p') = (Proofs.YtbdliebjalghmaaDoor.bfs C st V x0).map (autOf V p) := by
  obtain ⟨e, hP⟩ := h.bfs (C := C) h0
  rw [e]
  cases hb : Proofs.YtbdliebjalghmaaDoor.bfs C st V x0 with
  | none => rfl
  | some s => simp only [Option.map_some]; rw [autOf_map fun x hx => hp x (hP s hb x hx)]
end
section
variable {σ : Type} [DecidableEq σ] {C : Nat} {st : σ → Int → Option σ} {V : List Int} {x0 : σ} {s : Bs σ} {p : σ → Bool}
/-- the state with a number -/
def stAt (ts : List σ) (x0 : σ) (i : Int) : σ := ts.getD i.toNat x0
omit [DecidableEq σ] in
theorem stAt_get {ts : List σ} {x0 : σ} {k : Nat} {t : σ} (h : ts[k]? = some t) : stAt ts x0 (k : Int) = t := by
  unfold stAt; rw [Int.toNat_natCast, List.getD_eq_getElem?_getD, h]; rfl
omit [DecidableEq σ] in
theorem stAt_some {ts : List σ} {i : Int} (h : 0 ≤ i ∧ i < (ts.length : Int)) : ∃ (k : Nat) (t : σ), i = (k : Int) ∧ ts[k]? = some t := by
  obtain ⟨k, rfl⟩ : ∃ k : Nat, i = (k : Int) := ⟨i.toNat, by omega⟩
  exact ⟨k, _, rfl, List.getElem?_eq_getElem (by omega)⟩
omit [DecidableEq σ] in
theorem nodup_get {ts : List σ} (h : ts.Nodup) {i j : Nat} {t : σ} (hi : ts[i]? = some t) (hj : ts[j]? = some t) : i = j := by
  obtain ⟨a1, a2⟩ := List.getElem?_eq_some_iff.1 hi
  obtain ⟨b1, b2⟩ := List.getElem?_eq_some_iff.1 hj
  exact (List.getElem_inj h).1 (a2.trans b2.symm)
/-- The automaton that a search finds steps as the machine does. -/
theorem BInv.sim (h : BInv C st V x0 s.ts.length s) (hV : Inc V) : Sim (stA (autOf V p s)) st V (stAt s.ts x0) (fun i => 0 ≤ i ∧ i < (s.ts.length : Int)) := by
  refine ⟨fun i v j hi hv hj => ?_, fun i v hi hv => ?_, fun i j hi hj e => ?_⟩
  · obtain ⟨k, t, rfl, hk⟩ := stAt_some hi
    unfold stA at hj
    rw [h.nxt hV hk hv] at hj
    cases hs : st t v with
    | none => rw [hs] at hj; simp at hj
    | some y =>
      rw [hs] at hj
      simp only at hj
      obtain ⟨m, hm, hm2⟩ := idx_yes (h.clo k t v y (List.getElem?_eq_some_iff.1 hk).1 hk hv hs)
      rw [hm, if_neg (by omega)] at hj
      injection hj with hj
      have := (List.getElem?_eq_some_iff.1 hm2).1
      omega
  · obtain ⟨k, t, rfl, hk⟩ := stAt_some hi
    rw [stAt_get hk]
    unfold stA
    rw [h.nxt hV hk hv]
    cases hs : st t v with
    | none => simp
    | some y =>
      simp only
      obtain ⟨m, hm, hm2⟩ := idx_yes (h.clo k t v y (List.getElem?_eq_some_iff.1 hk).1 hk hv hs)
      rw [hm, if_neg (by omega)]
      simp only [Option.map_some]
      rw [stAt_get hm2]
  · obtain ⟨k, t, rfl, hk⟩ := stAt_some hi
    obtain ⟨m, u, rfl, hm⟩ := stAt_some hj
    rw [stAt_get hk, stAt_get hm] at e
    subst e
    rw [nodup_get h.nd hk hm]
theorem BInv.pos (h : BInv C st V x0 s.ts.length s) : 0 < s.ts.length := (List.getElem?_eq_some_iff.1 h.head).1
theorem BInv.mk_at (_h : BInv C st V x0 s.ts.length s) {i : Int} (hi : 0 ≤ i ∧ i < (s.ts.length : Int)) : p (stAt s.ts x0 i) = mkA (autOf V p s) i := by
  obtain ⟨k, t, rfl, hk⟩ := stAt_some hi
  rw [stAt_get hk]
  exact (BInv.marked hk).symm
theorem BInv.at0 (h : BInv C st V x0 s.ts.length s) : stAt s.ts x0 0 = x0 := stAt_get (k := 0) h.head
/-- Found once, it is found again. -/
theorem BInv.canon (h : BInv 4096 st V x0 s.ts.length s) (hb : bfs 4096 st V x0 = some s) (hV : Inc V) : canA (autOf V p s) = autOf V p s := by
  have hp := h.pos
  have hs := (h.sim (p := p) hV).aut (C := 4096) (x0 := 0) (p := mkA (autOf V p s)) (p' := p) (show (0 : Int) ≤ 0 ∧ (0 : Int) < (s.ts.length : Int) by omega) (fun i hi => h.mk_at hi)
  rw [h.at0, hb] at hs
  have h0 : ¬ (autOf V p s).st = 0 := by show ¬ ((s.ts.length : Int) = 0); omega
  unfold canA
  rw [if_neg h0]
  unfold canS
  have e : (autOf V p s).al = V := rfl
  rw [e]
  cases hc : bfs 4096 (stA (autOf V p s)) V 0 with
  | none => rw [hc] at hs; cases hs
  | some z =>
    rw [hc] at hs
    simp only [Option.map_some, Option.some.injEq] at hs
    exact hs.symm
end
theorem canA_zero (al : List Int) : canA ⟨al, 0, [], []⟩ = ⟨al, 0, [], []⟩ := rfl
theorem canA_idem {a : Aut} (h : WF a) : canA (canA a) = canA a := by
  by_cases h0 : a.st = 0
  · have : canA a = ⟨a.al, 0, [], []⟩ := by unfold canA; rw [if_pos h0]
    rw [this, canA_zero]
  · obtain ⟨s, hs, hi⟩ := canS_some h h0
    have : canA a = autOf a.al (mkA a) s := by unfold canA; rw [if_neg h0, hs]
    rw [this]
    exact hi.canon hs h.inc
theorem canA_al (a : Aut) : (canA a).al = a.al := by
  unfold canA
  split
  · rfl
  · split <;> rfl
theorem canA_st {a : Aut} (h : WF a) : 0 ≤ (canA a).st ∧ (canA a).st ≤ a.st ∧ (a.st ≠ 0 → (canA a).st ≠ 0) := by
  have h1 := h.st0
  by_cases h0 : a.st = 0
  · unfold canA; rw [if_pos h0]; exact ⟨Int.le_refl _, by show (0 : Int) ≤ _; omega, fun k => absurd h0 k⟩
  · obtain ⟨s, hs, hi⟩ := canS_some h h0
    have e : canA a = autOf a.al (mkA a) s := by unfold canA; rw [if_neg h0, hs]
    rw [e]
    have hl := nodup_le (m := rngI a.st) hi.nd (fun x hx => rngI_mem.2 (rch_rng h h0 (hi.rch x hx)))
    rw [rngI_len] at hl
    have := hi.pos
    refine ⟨?_, ?_, fun _ => ?_⟩
    · show (0 : Int) ≤ (s.ts.length : Int); omega
    · show (s.ts.length : Int) ≤ _; omega
    · show ¬ ((s.ts.length : Int) = 0); omega

/-- a graph: the bytes of its states, its marks, its edges -/
structure Gr where
  st : Int
  mb : Int
  to : List Int
structure Gr.ok (g : Gr) : Prop where
  st : 0 ≤ g.st ∧ g.st ≤ 255
  mb : 0 ≤ g.mb ∧ g.mb ≤ 255
  len : g.to.length = 25
  to : ∀ x ∈ g.to, 0 ≤ x ∧ x ≤ 255
def Gr.n (g : Gr) : Nat := 1 + g.st.toNat % 5
theorem Gr.n_le (g : Gr) : 1 ≤ g.n ∧ g.n ≤ 5 := by unfold Gr.n; omega
def Gr.at_ (g : Gr) (i k : Nat) : Int := g.to.getD (i * 5 + k) 0
/-- where an edge leads; n and more: nowhere -/
def Gr.too (g : Gr) (i k : Nat) : Int := g.at_ i k % ((g.n : Int) + 2)
def rowG (al : List Int) (g : Gr) (i : Nat) : Nat → List Ed
  | 0 => []
  | k + 1 => rowG al g i k ++ (match al[k]? with | some v => if g.too i k < g.n then [⟨i, v, g.too i k⟩] else [] | none => [])
def wid (al : List Int) : Nat := min al.length 5
def edsG (al : List Int) (g : Gr) : Nat → List Ed
  | 0 => []
  | i + 1 => edsG al g i ++ rowG al g i (wid al)
def rawG (al : List Int) (g : Gr) : Aut := ⟨al, g.n, setB g.mb g.n, edsG al g g.n⟩
def mkG (al : List Int) (g : Gr) : Aut := if 250 ≤ g.st then ⟨al, 0, [], []⟩ else canA (rawG al g)
theorem rowG_yes {al : List Int} {g : Gr} {i k : Nat} {v : Int} (h : al[k]? = some v) (ht : g.too i k < g.n) : rowG al g i (k + 1) = rowG al g i k ++ [⟨i, v, g.too i k⟩] := by
  rw [rowG, h]; simp only; rw [if_pos ht]
theorem rowG_no {al : List Int} {g : Gr} {i k : Nat} {v : Int} (h : al[k]? = some v) (ht : ¬ g.too i k < g.n) : rowG al g i (k + 1) = rowG al g i k := by
  rw [rowG, h]; simp only; rw [if_neg ht, List.append_nil]
theorem rowG_len (al : List Int) (g : Gr) (i : Nat) : ∀ k, (rowG al g i k).length ≤ k
  | 0 => by simp [rowG]
  | k + 1 => by
    have := rowG_len al g i k
    unfold rowG
    rw [List.length_append]
    cases al[k]? with
    | none => simp; omega
    | some v => simp only; split <;> simp <;> omega
theorem edsG_len (al : List Int) (g : Gr) : ∀ i, (edsG al g i).length ≤ i * 5
  | 0 => by simp [edsG]
  | i + 1 => by
    have := edsG_len al g i
    have := rowG_len al g i (wid al)
    unfold edsG
    rw [List.length_append]
    have : wid al ≤ 5 := by unfold wid; omega
    omega
theorem rowG_mem {al : List Int} {g : Gr} {i : Nat} {x : Ed} : ∀ {k : Nat}, x ∈ rowG al g i k → ∃ j, j < k ∧ al[j]? = some x.e ∧ x.f = i ∧ x.t = g.too i j ∧ x.t < g.n
  | 0, h => by simp [rowG] at h
  | k + 1, h => by
    unfold rowG at h
    rcases List.mem_append.1 h with h | h
    · obtain ⟨j, h1, h2⟩ := rowG_mem h
      exact ⟨j, by omega, h2⟩
    · cases hv : al[k]? with
      | none => rw [hv] at h; simp at h
      | some v =>
        rw [hv] at h
        simp only at h
        split at h
        · rename_i ht
          simp at h; subst h
          exact ⟨k, by omega, hv, rfl, rfl, ht⟩
        · simp at h
theorem edsG_mem {al : List Int} {g : Gr} {x : Ed} : ∀ {i : Nat}, x ∈ edsG al g i → ∃ j k, j < i ∧ al[k]? = some x.e ∧ x.f = (j : Nat) ∧ x.t = g.too j k ∧ x.t < g.n
  | 0, h => by simp [edsG] at h
  | i + 1, h => by
    unfold edsG at h
    rcases List.mem_append.1 h with h | h
    · obtain ⟨j, k, h1, h2⟩ := edsG_mem h
      exact ⟨j, k, by omega, h2⟩
    · obtain ⟨k, h1, h2, h3, h4⟩ := rowG_mem h
      exact ⟨i, k, by omega, h2, h3, h4⟩
theorem rowG_inc {al : List Int} {g : Gr} {i : Nat} (h : Inc al) : ∀ k, (rowG al g i k).Pairwise edLt
  | 0 => List.Pairwise.nil
  | k + 1 => by
    unfold rowG
    rw [List.pairwise_append]
    refine ⟨rowG_inc h k, ?_, fun a ha b hb => ?_⟩
    · cases al[k]? with
      | none => exact List.Pairwise.nil
      | some v => simp only; split <;> simp
    · obtain ⟨j, h1, h2, h3, _⟩ := rowG_mem ha
      cases hv : al[k]? with
      | none => rw [hv] at hb; simp at hb
      | some v =>
        rw [hv] at hb
        simp only at hb
        split at hb
        · simp at hb; subst hb
          right
          refine ⟨h3, ?_⟩
          show a.e < v
          obtain ⟨a1, a2⟩ := List.getElem?_eq_some_iff.1 h2
          obtain ⟨b1, b2⟩ := List.getElem?_eq_some_iff.1 hv
          have := (List.pairwise_iff_getElem.1 h) j k a1 b1 h1
          omega
        · simp at hb
theorem edsG_inc {al : List Int} {g : Gr} (h : Inc al) : ∀ i, (edsG al g i).Pairwise edLt
  | 0 => List.Pairwise.nil
  | i + 1 => by
    unfold edsG
    rw [List.pairwise_append]
    refine ⟨edsG_inc h i, rowG_inc h _, fun a ha b hb => ?_⟩
    obtain ⟨j, k, h1, _, h2, _⟩ := edsG_mem ha
    obtain ⟨m, _, _, h3, _⟩ := rowG_mem hb
    left; omega
theorem Gr.too_ge {g : Gr} (_h : g.ok) (i k : Nat) : 0 ≤ g.too i k := by
  unfold Gr.too
  exact Int.emod_nonneg _ (by omega)
theorem rawG_wf {al : List Int} {g : Gr} (h : g.ok) (ha : Inc al) (hr : ∀ x ∈ al, 0 ≤ x ∧ x < 32) : WF (rawG al g) := by
  have hn := g.n_le
  refine ⟨ha, hr, by show (0 : Int) ≤ (g.n : Int); omega, by show (g.n : Int) ≤ 4096; omega, setB_inc _ _, fun x hx => ?_, edsG_inc ha _, fun x hx => ?_⟩
  · obtain ⟨i, h1, h2, _⟩ := setB_mem.1 hx
    show (0 : Int) ≤ x ∧ x < (g.n : Int)
    omega
  · obtain ⟨j, k, h1, h2, h3, h4, h5⟩ := edsG_mem hx
    refine ⟨?_, hasB_mem.2 (List.mem_of_getElem? h2)⟩
    have := Gr.too_ge h j k
    unfold edOut
    show ¬ (x.f < 0 ∨ (g.n : Int) ≤ x.f ∨ x.t < 0 ∨ (g.n : Int) ≤ x.t)
    omega
theorem mkG_al (al : List Int) (g : Gr) : (mkG al g).al = al := by
  unfold mkG; split
  · rfl
  · rw [canA_al]; rfl
theorem zero_wf {al : List Int} (ha : Inc al) (hr : ∀ x ∈ al, 0 ≤ x ∧ x < 32) : WF ⟨al, 0, [], []⟩ :=
  ⟨ha, hr, by simp, by simp, List.Pairwise.nil, fun x hx => by simp at hx, List.Pairwise.nil, fun x hx => by simp at hx⟩
theorem mkG_wf {al : List Int} {g : Gr} (h : g.ok) (ha : Inc al) (hr : ∀ x ∈ al, 0 ≤ x ∧ x < 32) : WF (mkG al g) := by
  unfold mkG; split
  · exact zero_wf ha hr
  · exact canA_wf (rawG_wf h ha hr)
theorem mkG_canon {al : List Int} {g : Gr} (h : g.ok) (ha : Inc al) (hr : ∀ x ∈ al, 0 ≤ x ∧ x < 32) : canA (mkG al g) = mkG al g := by
  unfold mkG; split
  · rfl
  · exact canA_idem (rawG_wf h ha hr)
theorem mkG_st {al : List Int} {g : Gr} (h : g.ok) (ha : Inc al) (hr : ∀ x ∈ al, 0 ≤ x ∧ x < 32) : 0 ≤ (mkG al g).st ∧ (mkG al g).st ≤ 5 := by
  have hn := g.n_le
  unfold mkG; split
  · simp
  · have := canA_st (rawG_wf h ha hr)
    have e : (rawG al g).st = (g.n : Int) := rfl
    omega

/-- a part: a set of events and a graph -/
structure Pt where
  ev : Int
  g : Gr
def Pt.ok (p : Pt) : Prop := (0 ≤ p.ev ∧ p.ev ≤ 255) ∧ p.g.ok
def ptA (p : Pt) : Aut := mkG (setB p.ev 5) p.g
theorem set5 (x : Int) : Inc (setB x 5) ∧ ∀ y ∈ setB x 5, 0 ≤ y ∧ y < 5 := ⟨setB_inc x 5, fun y hy => by obtain ⟨i, h1, h2, _⟩ := setB_mem.1 hy; omega⟩
theorem set32 (x : Int) : ∀ y ∈ setB x 5, 0 ≤ y ∧ y < 32 := fun y hy => by have := (set5 x).2 y hy; omega
/-- an automaton of few states over few events that is its own canonical form -/
structure Sm (a : Aut) : Prop where
  wf : WF a
  can : canA a = a
  st : a.st ≤ 5
  ev : ∀ x ∈ a.al, x < 5
theorem ptA_sm {p : Pt} (h : p.ok) : Sm (ptA p) := by
  have h1 := (set5 p.ev).1
  have h2 := set32 p.ev
  exact ⟨mkG_wf h.2 h1 h2, mkG_canon h.2 h1 h2, (mkG_st h.2 h1 h2).2, fun x hx => by unfold ptA at hx; rw [mkG_al] at hx; exact ((set5 p.ev).2 x hx).2⟩
def lstA (l : List Pt) : List Aut := (l.take 3).map ptA
theorem lstA_sm {l : List Pt} (h : ∀ p ∈ l, p.ok) : ∀ a ∈ lstA l, Sm a := fun a ha => by
  unfold lstA at ha
  obtain ⟨p, hp, rfl⟩ := List.mem_map.1 ha
  exact ptA_sm (h p (List.mem_of_mem_take hp))
theorem lstA_len (l : List Pt) : (lstA l).length = min 3 l.length := by unfold lstA; rw [List.length_map, List.length_take]
theorem prodN_sm : ∀ {l : List Aut}, (∀ a ∈ l, Sm a) → prodN l ≤ 5 ^ l.length
  | [], _ => Nat.le_refl _
  | a :: l, h => by
    have ih := prodN_sm (l := l) (fun b hb => h b (List.mem_cons_of_mem _ hb))
    have h1 := (h a (List.mem_cons_self ..)).st
    unfold prodN
    rw [List.length_cons, Nat.pow_succ, Nat.mul_comm]
    exact Nat.mul_le_mul ih (by omega)
theorem prodN_few {l : List Aut} (h : ∀ a ∈ l, Sm a) (hl : l.length ≤ 3) : prodN l ≤ 125 := by
  have := prodN_sm h
  have : 5 ^ l.length ≤ 5 ^ 3 := Nat.pow_le_pow_right (by omega) hl
  omega
theorem sm_chk {l : List Aut} (h : ∀ a ∈ l, Sm a) (hl : l.length ≤ 3) : chkL l = 0 := chkL_mk (by omega) (fun a ha => (h a ha).wf)
end Go.Proofs.YtbdliebjalghmaaDoor

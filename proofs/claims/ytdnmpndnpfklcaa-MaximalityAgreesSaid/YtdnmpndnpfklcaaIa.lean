/- Plain: what the graph's searches find (chapter 41). -/
import Derived.Test.YtdnmpndnpfklcaaUx
namespace Go.Proofs.Ytdnmpndnpfklcaa
open Go

/-- what can be reached along some edges -/
inductive Rc (ed : List Ed) (perm : Ed → Bool) (s : Int) : Int → Prop
  | refl : Rc ed perm s s
  | step {t : Int} {x : Ed} : Rc ed perm s t → x ∈ ed → perm x = true → x.f = t → Rc ed perm s x.t
section
variable {ed : List Ed} {perm : Ed → Bool} {s t u : Int}
/-- a set that is left by no edge holds all that is reached -/
theorem Rc.closed {P : Int → Prop} (hs : P s) (hc : ∀ x ∈ ed, perm x = true → P x.f → P x.t) (h : Rc ed perm s t) : P t := by
  induction h with
  | refl => exact hs
  | step _ h1 h2 h3 ih => exact hc _ h1 h2 (by rw [h3]; exact ih)
end
end Go.Proofs.Ytdnmpndnpfklcaa
namespace Go.Proofs.Ytdnmpndnpfklcaa
open Go

/-- a walk along some edges, with its events -/
inductive Wk (ed : List Ed) (perm : Ed → Bool) (s : Int) : List Int → Int → Prop
  | nil : Wk ed perm s [] s
  | snoc {ws : List Int} {t : Int} {x : Ed} : Wk ed perm s ws t → x ∈ ed → perm x = true → x.f = t → Wk ed perm s (ws ++ [x.e]) x.t
section
variable {ed : List Ed} {perm : Ed → Bool} {s t u : Int} {ws vs : List Int}
theorem Wk.rc (h : Wk ed perm s ws t) : Rc ed perm s t := by
  induction h with
  | nil => exact .refl
  | snoc _ h1 h2 h3 ih => exact .step ih h1 h2 h3
theorem Wk.app (h : Wk ed perm s ws t) (k : Wk ed perm t vs u) : Wk ed perm s (ws ++ vs) u := by
  induction k with
  | nil => rw [List.append_nil]; exact h
  | snoc _ h1 h2 h3 ih => rw [← List.append_assoc]; exact .snoc ih h1 h2 h3
theorem Wk.one {x : Ed} (h1 : x ∈ ed) (h2 : perm x = true) : Wk ed perm x.f [x.e] x.t := .snoc (ws := []) .nil h1 h2 rfl
end
/-- the steps of a search: where each comes from, which flags are set, which edges have been taken up -/
structure PtQ (a : Aut) (perm : Ed → Bool) (st : Int) (n i : Nat) (l : List Stp) (N : List Bool) : Prop where
  w : StW n l N
  head : l[0]? = some ⟨st, -1, -1⟩
  par : ∀ (k : Nat) (t : Stp), 0 < k → l[k]? = some t → ∃ (x : Ed) (u : Stp), x ∈ a.ed ∧ perm x = true ∧ x.t = t.s ∧ x.e = t.e ∧ 0 ≤ t.f ∧ t.f.toNat < k ∧ l[t.f.toNat]? = some u ∧ u.s = x.f
  on : ∀ s, 0 ≤ s → (fl N s = true ↔ ∃ t ∈ l, t.s = s)
  clo : ∀ (k : Nat) (t : Stp), k < i → l[k]? = some t → ∀ x ∈ outE a t.s, perm x = true → fl N x.t = true
section
variable {a : Aut} {perm : Ed → Bool} {st : Int} {n i : Nat} {l : List Stp} {N : List Bool}
theorem PtQ.start (h0 : 0 ≤ st) (h1 : st < (n : Int)) : PtQ a perm st n 0 [⟨st, -1, -1⟩] (fset (List.replicate n false) st) := by
  refine ⟨StW.start h0 h1, rfl, fun k t hk ht => ?_, fun s hs => ?_, fun k t hk => by omega⟩
  · obtain ⟨k, rfl⟩ : ∃ j, k = j + 1 := ⟨k - 1, by omega⟩
    simp at ht
  · rw [fl_set (by rw [List.length_replicate]; exact ⟨h0, h1⟩) hs, fl_rep, Bool.or_false, decide_eq_true_eq]
    constructor
    · rintro rfl; exact ⟨_, List.mem_singleton.2 rfl, rfl⟩
    · rintro ⟨t, ht, rfl⟩; rw [List.mem_singleton.1 ht]
/-- one edge is taken up -/
theorem PtQ.push (hw : WF a) (hn : a.st = (n : Int)) (h : PtQ a perm st n i l N) {t : Stp} (ht : l[i]? = some t) {x : Ed} (hx : x ∈ a.ed) (hxf : x.f = t.s) (hp : perm x = true) (hf : fl N x.t = false) : PtQ a perm st n i (l ++ [⟨x.t, i, x.e⟩]) (fset N x.t) := by
  have hg := hw.ev_rng hx
  have hil := (List.getElem?_eq_some_iff.1 ht).1
  have hst : ∀ s, 0 ≤ s → fl (fset N x.t) s = (decide (s = x.t) || fl N s) := fun s hs => fl_set ⟨hg.2.2.1, by rw [h.w.nl]; omega⟩ hs
  refine ⟨h.w.push hil hg.2.2.1 (by omega) hg.2.2.2.2.1 hg.2.2.2.2.2 hf, ?_, fun k u hk hu => ?_, fun s hs => ?_, fun k u hk hu y hy hyp => ?_⟩
  · rw [List.getElem?_append_left (by omega)]; exact h.head
  · by_cases hkl : k < l.length
    · rw [List.getElem?_append_left hkl] at hu
      obtain ⟨y, v, h1, h2, h3, h4, h5, h6, h7, h8⟩ := h.par k u hk hu
      exact ⟨y, v, h1, h2, h3, h4, h5, h6, by rw [List.getElem?_append_left (by omega)]; exact h7, h8⟩
    · rw [List.getElem?_append_right (by omega)] at hu
      obtain ⟨m, hm⟩ : ∃ m, k - l.length = m := ⟨_, rfl⟩
      rw [hm] at hu
      cases m with
      | succ m => simp at hu
      | zero =>
        simp at hu
        subst hu
        exact ⟨x, t, hx, hp, rfl, rfl, by simp, by simp; omega, by simp; rw [List.getElem?_append_left hil]; exact ht, hxf.symm⟩
  · rw [hst s hs, Bool.or_eq_true, decide_eq_true_eq, h.on s hs]
    constructor
    · rintro (rfl | ⟨u, hu, rfl⟩)
      · exact ⟨_, List.mem_append_right _ (List.mem_singleton.2 rfl), rfl⟩
      · exact ⟨u, List.mem_append_left _ hu, rfl⟩
    · rintro ⟨u, hu, rfl⟩
      rcases List.mem_append.1 hu with hu | hu
      · exact .inr ⟨u, hu, rfl⟩
      · rw [List.mem_singleton.1 hu]; exact .inl rfl
  · rw [List.getElem?_append_left (by omega)] at hu
    have := h.clo k u hk hu y hy hyp
    rw [hst _ (hw.ev_rng (outE_mem.1 hy).1).2.2.1, this, Bool.or_true]
theorem PtQ.row (hw : WF a) (hn : a.st = (n : Int)) {t : Stp} : ∀ (r : List Ed) (l : List Stp) (N : List Bool), (∀ x ∈ r, x ∈ outE a t.s) → l[i]? = some t → PtQ a perm st n i l N →
    PtQ a perm st n i (rowS perm i r l N).1 (rowS perm i r l N).2 ∧ (rowS perm i r l N).1[i]? = some t ∧ (∀ s, 0 ≤ s → fl N s = true → fl (rowS perm i r l N).2 s = true) ∧ ∀ x ∈ r, perm x = true → fl (rowS perm i r l N).2 x.t = true
  | [], _, _, _, ht, h => ⟨h, ht, fun _ _ h => h, fun x hx => by cases hx⟩
  | x :: r, l, N, hr, ht, h => by
    have hx := outE_mem.1 (hr x (List.mem_cons_self ..))
    have hrr := fun y hy => hr y (List.mem_cons_of_mem x hy)
    have hg := hw.ev_rng hx.1
    by_cases hc : fl N x.t = false ∧ perm x = true
    · rw [rowS_pos hc]
      have hst : ∀ s, 0 ≤ s → fl (fset N x.t) s = (decide (s = x.t) || fl N s) := fun s hs => fl_set ⟨hg.2.2.1, by rw [h.w.nl]; omega⟩ hs
      obtain ⟨h1, h2, h3, h4⟩ := PtQ.row hw hn r _ _ hrr (by rw [List.getElem?_append_left (List.getElem?_eq_some_iff.1 ht).1]; exact ht) (h.push hw hn ht hx.1 hx.2 hc.2 hc.1)
      refine ⟨h1, h2, fun s hs hf => h3 s hs (by rw [hst s hs, hf, Bool.or_true]), fun y hy hp => ?_⟩
      rcases List.mem_cons.1 hy with rfl | hy
      · exact h3 _ hg.2.2.1 (by rw [hst _ hg.2.2.1]; simp)
      · exact h4 y hy hp
    · rw [rowS_neg hc]
      obtain ⟨h1, h2, h3, h4⟩ := PtQ.row hw hn r l N hrr ht h
      refine ⟨h1, h2, h3, fun y hy hp => ?_⟩
      rcases List.mem_cons.1 hy with rfl | hy
      · refine h3 _ hg.2.2.1 ?_
        cases hf : fl N y.t with
        | true => rfl
        | false => exact absurd ⟨hf, hp⟩ hc
      · exact h4 y hy hp
theorem rowS_pre {perm : Ed → Bool} {i k : Nat} {u : Stp} : ∀ (r : List Ed) (l : List Stp) (N : List Bool), l[k]? = some u → (rowS perm i r l N).1[k]? = some u
  | [], _, _, h => h
  | x :: r, l, N, h => by
    by_cases hc : fl N x.t = false ∧ perm x = true
    · rw [rowS_pos hc]; exact rowS_pre r _ _ (by rw [List.getElem?_append_left (List.getElem?_eq_some_iff.1 h).1]; exact h)
    · rw [rowS_neg hc]; exact rowS_pre r _ _ h
/-- the way back, turned round, is a walk to the step -/
theorem PtQ.walk (h : PtQ a perm st n i l N) : ∀ (g k : Nat) (t : Stp), k < g → l[k]? = some t → Wk a.ed perm st (bckS l g k).reverse t.s
  | 0, k, t, hk, _ => by omega
  | g + 1, k, t, hk, ht => by
    unfold bckS
    rw [Int.toNat_natCast, ht]
    simp only
    by_cases h0 : k = 0
    · subst h0
      rw [h.head] at ht
      injection ht with ht
      subst ht
      rw [if_pos (by show (-1 : Int) < 0; omega)]
      exact .nil
    · obtain ⟨x, u, h1, h2, h3, h4, h5, h6, h7, h8⟩ := h.par k t (by omega) ht
      rw [if_neg (by omega), List.reverse_cons, ← h3, ← h4]
      have hw := PtQ.walk h g t.f.toNat u (by omega) h7
      rw [show ((t.f.toNat : Nat) : Int) = t.f by omega] at hw
      exact .snoc hw h1 h2 h8.symm
theorem pthF_spec (hw : WF a) (hn : a.st = (n : Int)) {want : Int → Bool} : ∀ (g i : Nat) (l : List Stp) (N : List Bool), PtQ a perm st n i l N → n + 1 ≤ g + i → i ≤ l.length → (∀ (k : Nat) (t : Stp), k < i → l[k]? = some t → want t.s = false) →
    match pthF a want perm g i l N with
    | some ws => ∃ u, want u = true ∧ Wk a.ed perm st ws u
    | none => ∀ u, Rc a.ed perm st u → want u = false
  | 0, i, l, N, h, hg, hi, _ => by
    have := h.w.num
    omega
  | g + 1, i, l, N, h, hg, hi, hno => by
    unfold pthF
    cases ht : l[i]? with
    | none =>
      simp only
      have hil : l.length = i := by have := List.getElem?_eq_none_iff.1 ht; omega
      intro u hu
      have hfl : ∀ u, Rc a.ed perm st u → 0 ≤ u ∧ fl N u = true := fun u hu => by
        have hs0 : 0 ≤ st ∧ st < (n : Int) := h.w.rng _ (List.mem_of_getElem? h.head)
        refine hu.closed (P := fun u => 0 ≤ u ∧ fl N u = true) ⟨hs0.1, (h.on st hs0.1).2 ⟨_, List.mem_of_getElem? h.head, rfl⟩⟩ (fun x hx hp hxf => ⟨(hw.ev_rng hx).2.2.1, ?_⟩)
        obtain ⟨t, htm, hts⟩ := (h.on x.f hxf.1).1 hxf.2
        obtain ⟨k, hk⟩ := List.getElem?_of_mem htm
        exact h.clo k t (by have := (List.getElem?_eq_some_iff.1 hk).1; omega) hk x (outE_mem.2 ⟨hx, hts.symm⟩) hp
      obtain ⟨h0, h1⟩ := hfl u hu
      obtain ⟨t, htm, hts⟩ := (h.on u h0).1 h1
      obtain ⟨k, hk⟩ := List.getElem?_of_mem htm
      rw [← hts]
      exact hno k t (by have := (List.getElem?_eq_some_iff.1 hk).1; omega) hk
    | some t =>
      simp only
      by_cases hq : want t.s = true
      · rw [if_pos hq]
        exact ⟨t.s, hq, h.walk l.length i t (List.getElem?_eq_some_iff.1 ht).1 ht⟩
      · rw [if_neg hq]
        obtain ⟨h1, h2, h3, h4⟩ := PtQ.row hw hn (t := t) (outE a t.s) l N (fun _ hx => hx) ht h
        have hpre : ∀ k u, k ≤ i → l[k]? = some u → (rowS perm i (outE a t.s) l N).1[k]? = some u := fun k u hk hu => rowS_pre _ _ _ hu
        have hno2 : ∀ (k : Nat) (u : Stp), k < i + 1 → (rowS perm i (outE a t.s) l N).1[k]? = some u → want u.s = false := fun k u hk hu => by
          have hkl : k < l.length := by have := (List.getElem?_eq_some_iff.1 ht).1; omega
          have hu2 := hpre k l[k] (by omega) (List.getElem?_eq_getElem hkl)
          rw [hu] at hu2
          injection hu2 with hu2
          subst hu2
          by_cases hki : k = i
          · subst hki
            rw [List.getElem?_eq_getElem hkl] at ht
            injection ht with ht
            rw [ht]
            simpa using hq
          · exact hno k _ (by omega) (List.getElem?_eq_getElem hkl)
        refine pthF_spec hw hn g (i + 1) _ _ ⟨h1.w, h1.head, h1.par, h1.on, fun k u hk hu y hy hyp => ?_⟩ (by omega) (by have := (List.getElem?_eq_some_iff.1 h2).1; omega) hno2
        by_cases hki : k = i
        · subst hki
          rw [h2] at hu
          injection hu with hu
          subst hu
          exact h4 y hy hyp
        · exact h1.clo k u (by omega) hu y hy hyp
theorem pathS_spec (hw : WF a) {want : Int → Bool} (h0 : 0 ≤ st) (h1 : st < a.st) :
    match pathS a st want perm with
    | some ws => ∃ u, want u = true ∧ Wk a.ed perm st ws u
    | none => ∀ u, Rc a.ed perm st u → want u = false := by
  obtain ⟨n, hn⟩ : ∃ n : Nat, a.st = (n : Int) := ⟨a.st.toNat, by omega⟩
  have hst : a.st.toNat = n := by omega
  unfold pathS
  rw [hst]
  exact pthF_spec hw hn (n + 1) 0 _ _ (PtQ.start h0 (by omega)) (by omega) (Nat.zero_le _) (fun k t hk => by omega)
end
end Go.Proofs.Ytdnmpndnpfklcaa

/- Plain: rounds and cycles (chapter 41). -/
namespace Go.Proofs.Ytdnmpndnpfklcaa
open Go

end Go.Proofs.Ytdnmpndnpfklcaa

/- Plain: which nodes of a graph lie on a circle: the law's circles (chapter 41). -/
namespace Go.Proofs.Ytdnmpndnpfklcaa
open Go

/-- a table of flags -/
abbrev Mat := List (List Bool)
/-- walks whose inner nodes are below k -/
inductive Pw (E : List (Nat × Nat)) (k : Nat) : Nat → Nat → Prop
  | one {i j : Nat} : (i, j) ∈ E → Pw E k i j
  | cat {i m j : Nat} : Pw E k i m → m < k → Pw E k m j → Pw E k i j
end Go.Proofs.Ytdnmpndnpfklcaa

/- Plain: ranks in a graph, by a search in depth (chapter 41). -/
namespace Go.Proofs.Ytdnmpndnpfklcaa
open Go

def gI (l : List Int) (i : Int) : Int := l.getD i.toNat 0
theorem gI_set {l : List Int} {i j v : Int} (h0 : 0 ≤ i) (h1 : i < (l.length : Int)) (hj : 0 ≤ j) : gI (l.set i.toNat v) j = if j = i then v else gI l j := by
  unfold gI
  rw [List.getD_eq_getElem?_getD, List.getElem?_set]
  by_cases h : j = i
  · subst h; rw [if_pos rfl, if_pos (by omega), if_pos rfl]; rfl
  · rw [if_neg (by omega), if_neg h, List.getD_eq_getElem?_getD]
/-- the edges that leave a node -/
def outL (es : List Ed) (i : Int) : List Ed := es.filter fun x => decide (x.f = i)
/-- the value of a node, from those behind it -/
def rkV (w : Ed → Int) (ρ : Int → Int) (l : List Ed) : Int := l.foldl (fun m x => max m (ρ x.t + w x)) 0
/-- a node's rank: the greatest weight of a walk from it, where all walks from it end -/
inductive Rkd (es : List Ed) (w : Ed → Int) : Int → Int → Prop
  | mk {i v : Int} (ρ : Int → Int) : (∀ x ∈ es, x.f = i → Rkd es w x.t (ρ x.t)) → v = rkV w ρ (outL es i) → Rkd es w i v
/-- ranks, and what has been done: 0 nothing, 1 open, 2 done -/
abbrev RS := List Int × List Int
end Go.Proofs.Ytdnmpndnpfklcaa

/- Plain: all ranks: by a search in depth, and by rounds; they are the same, where there is no circle (chapter 41). -/
namespace Go.Proofs.Ytdnmpndnpfklcaa
open Go

end Go.Proofs.Ytdnmpndnpfklcaa

/- Plain: the law's circles are the circles of walks (chapter 41). -/
namespace Go.Proofs.Ytdnmpndnpfklcaa
open Go

end Go.Proofs.Ytdnmpndnpfklcaa

/- Plain: the twin plant (chapter 41). -/
namespace Go.Proofs.Ytdnmpndnpfklcaa
open Go

/-- a plant with what is known of its events: can each be observed, which class of faults is it -/
structure Dm where
  a : Aut
  obs : List Bool
  flt : List Int
/-- a pair: a state, has a fault occurred, a state -/
abbrev TwS := Int × Bool × Int
end Go.Proofs.Ytdnmpndnpfklcaa

/- Plain: walks of the twin plant are pairs of runs with the same observation (chapter 41). -/
namespace Go.Proofs.Ytdnmpndnpfklcaa
open Go

end Go.Proofs.Ytdnmpndnpfklcaa

/- Plain: pairs of runs are walks of the twin plant; ranks bound what comes after a fault (chapter 41). -/
namespace Go.Proofs.Ytdnmpndnpfklcaa
open Go

end Go.Proofs.Ytdnmpndnpfklcaa

/- Plain: the least bound: what it says of words (chapter 41). -/
namespace Go.Proofs.Ytdnmpndnpfklcaa
open Go

end Go.Proofs.Ytdnmpndnpfklcaa

/- Plain: with a further observable event a class stays diagnosable, with no greater bound (chapter 41). -/
namespace Go.Proofs.Ytdnmpndnpfklcaa
open Go

end Go.Proofs.Ytdnmpndnpfklcaa

/- Plain: the twin plant's paths (chapter 41). -/
namespace Go.Proofs.Ytdnmpndnpfklcaa
open Go

end Go.Proofs.Ytdnmpndnpfklcaa

/- Plain: the lasso (chapter 41). -/
namespace Go.Proofs.Ytdnmpndnpfklcaa
open Go

end Go.Proofs.Ytdnmpndnpfklcaa

/- Plain: the excuse: the least word without a fault that has an observation (chapter 41). -/
namespace Go.Proofs.Ytdnmpndnpfklcaa
open Go

/-- a visit: the state, how much has been observed, the visit before, the event -/
structure Vst where
  s : Int
  k : Nat
  f : Int
  e : Int
end Go.Proofs.Ytdnmpndnpfklcaa

/- Plain: live plants, quiet cycles; the law's ranks are the twin plant's (chapter 41). -/
namespace Go.Proofs.Ytdnmpndnpfklcaa
open Go

end Go.Proofs.Ytdnmpndnpfklcaa

/- Plain: runs of the plant: the code's and the law's; the excuse of the law (chapter 41). -/
namespace Go.Proofs.Ytdnmpndnpfklcaa
open Go

end Go.Proofs.Ytdnmpndnpfklcaa

/- Plain: the words of the visits of an excuse's search; how many visits there are (chapter 41). -/
namespace Go.Proofs.Ytdnmpndnpfklcaa
open Go

end Go.Proofs.Ytdnmpndnpfklcaa

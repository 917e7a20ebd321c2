/- Plain: what the graph's searches find (chapter 41). -/
import Derived.Test.YtdnmpndnpfklcaaUx
namespace Go.Proofs.Ytdnmpndnpfklcaa
open Go

/-- what can be reached along some edges -/
inductive Rc (ed : List Ed) (perm : Ed → Bool) (s : Int) : Int → Prop
  | refl : Rc ed perm s s
  | step {t : Int} {x : Ed} : Rc ed perm s t → x ∈ ed → perm x = true → x.f = t → Rc ed perm s x.t
section
variable {ed : List Ed} {perm : Ed → Bool} {s t u : Int}
theorem Rc.trans (h : Rc ed perm s t) (k : Rc ed perm t u) : Rc ed perm s u := by
  induction k with
  | refl => exact h
  | step _ h1 h2 h3 ih => exact .step ih h1 h2 h3
theorem Rc.rng {n : Int} (he : ∀ x ∈ ed, 0 ≤ x.t ∧ x.t < n) (hs : 0 ≤ s ∧ s < n) (h : Rc ed perm s t) : 0 ≤ t ∧ t < n := by
  cases h with
  | refl => exact hs
  | step _ h1 _ _ => exact he _ h1
theorem Rc.mono {p2 : Ed → Bool} (hp : ∀ x ∈ ed, perm x = true → p2 x = true) (h : Rc ed perm s t) : Rc ed p2 s t := by
  induction h with
  | refl => exact .refl
  | step _ h1 h2 h3 ih => exact .step ih h1 (hp _ h1 h2) h3
/-- a set that is left by no edge holds all that is reached -/
theorem Rc.closed {P : Int → Prop} (hs : P s) (hc : ∀ x ∈ ed, perm x = true → P x.f → P x.t) (h : Rc ed perm s t) : P t := by
  induction h with
  | refl => exact hs
  | step _ h1 h2 h3 ih => exact hc _ h1 h2 (by rw [h3]; exact ih)
end
end Go.Proofs.Ytdnmpndnpfklcaa
namespace Go.Proofs.Ytdnmpndnpfklcaa
open Go

/-- a walk along some edges, with its events -/
inductive Wk (ed : List Ed) (perm : Ed → Bool) (s : Int) : List Int → Int → Prop
  | nil : Wk ed perm s [] s
  | snoc {ws : List Int} {t : Int} {x : Ed} : Wk ed perm s ws t → x ∈ ed → perm x = true → x.f = t → Wk ed perm s (ws ++ [x.e]) x.t
section
variable {ed : List Ed} {perm : Ed → Bool} {s t u : Int} {ws vs : List Int}
theorem Wk.rc (h : Wk ed perm s ws t) : Rc ed perm s t := by
  induction h with
  | nil => exact .refl
  | snoc _ h1 h2 h3 ih => exact .step ih h1 h2 h3
theorem Wk.app (h : Wk ed perm s ws t) (k : Wk ed perm t vs u) : Wk ed perm s (ws ++ vs) u := by
  induction k with
  | nil => rw [List.append_nil]; exact h
  | snoc _ h1 h2 h3 ih => rw [← List.append_assoc]; exact .snoc ih h1 h2 h3
theorem Wk.one {x : Ed} (h1 : x ∈ ed) (h2 : perm x = true) : Wk ed perm x.f [x.e] x.t := .snoc (ws := []) .nil h1 h2 rfl
theorem Wk.mono {p2 : Ed → Bool} (hp : ∀ x ∈ ed, perm x = true → p2 x = true) (h : Wk ed perm s ws t) : Wk ed p2 s ws t := by
  induction h with
  | nil => exact .nil
  | snoc _ h1 h2 h3 ih => exact .snoc ih h1 (hp _ h1 h2) h3
end
/-- the steps of a search: where each comes from, which flags are set, which edges have been taken up -/
structure PtQ (a : Aut) (perm : Ed → Bool) (st : Int) (n i : Nat) (l : List Stp) (N : List Bool) : Prop where
  w : StW n l N
  head : l[0]? = some ⟨st, -1, -1⟩
  par : ∀ (k : Nat) (t : Stp), 0 < k → l[k]? = some t → ∃ (x : Ed) (u : Stp), x ∈ a.ed ∧ perm x = true ∧ x.t = t.s ∧ x.e = t.e ∧ 0 ≤ t.f ∧ t.f.toNat < k ∧ l[t.f.toNat]? = some u ∧ u.s = x.f
  on : ∀ s, 0 ≤ s → (fl N s = true ↔ ∃ t ∈ l, t.s = s)
  clo : ∀ (k : Nat) (t : Stp), k < i → l[k]? = some t → ∀ x ∈ outE a t.s, perm x = true → fl N x.t = true
section
variable {a : Aut} {perm : Ed → Bool} {st : Int} {n i : Nat} {l : List Stp} {N : List Bool}
theorem PtQ.start (h0 : 0 ≤ st) (h1 : st < (n : Int)) : PtQ a perm st n 0 [⟨st, -1, -1⟩] (fset (List.replicate n false) st) := by
  refine ⟨StW.start h0 h1, rfl, fun k t hk ht => ?_, fun s hs => ?_, fun k t hk => by omega⟩
  · obtain ⟨k, rfl⟩ : ∃ j, k = j + 1 := ⟨k - 1, by omega⟩
    simp at ht
  · rw [fl_set (by rw [List.length_replicate]; exact ⟨h0, h1⟩) hs, fl_rep, Bool.or_false, decide_eq_true_eq]
    constructor
    · rintro rfl; exact ⟨_, List.mem_singleton.2 rfl, rfl⟩
    · rintro ⟨t, ht, rfl⟩; rw [List.mem_singleton.1 ht]
/-- one edge is taken up -/
theorem PtQ.push (hw : WF a) (hn : a.st = (n : Int)) (h : PtQ a perm st n i l N) {t : Stp} (ht : l[i]? = some t) {x : Ed} (hx : x ∈ a.ed) (hxf : x.f = t.s) (hp : perm x = true) (hf : fl N x.t = false) : PtQ a perm st n i (l ++ [⟨x.t, i, x.e⟩]) (fset N x.t) := by
  have hg := hw.ev_rng hx
  have hil := (List.getElem?_eq_some_iff.1 ht).1
  have hst : ∀ s, 0 ≤ s → fl (fset N x.t) s = (decide (s = x.t) || fl N s) := fun s hs => fl_set ⟨hg.2.2.1, by rw [h.w.nl]; omega⟩ hs
  refine ⟨h.w.push hil hg.2.2.1 (by omega) hg.2.2.2.2.1 hg.2.2.2.2.2 hf, ?_, fun k u hk hu => ?_, fun s hs => ?_, fun k u hk hu y hy hyp => ?_⟩
  · rw [List.getElem?_append_left (by omega)]; exact h.head
  · by_cases hkl : k < l.length
    · rw [List.getElem?_append_left hkl] at hu
      obtain ⟨y, v, h1, h2, h3, h4, h5, h6, h7, h8⟩ := h.par k u hk hu
      exact ⟨y, v, h1, h2, h3, h4, h5, h6, by rw [List.getElem?_append_left (by omega)]; exact h7, h8⟩
    · rw [List.getElem?_append_right (by omega)] at hu
      obtain ⟨m, hm⟩ : ∃ m, k - l.length = m := ⟨_, rfl⟩
      rw [hm] at hu
      cases m with
      | succ m => simp at hu
      | zero =>
        simp at hu
        subst hu
        exact ⟨x, t, hx, hp, rfl, rfl, by simp, by simp; omega, by simp; rw [List.getElem?_append_left hil]; exact ht, hxf.symm⟩
  · rw [hst s hs, Bool.or_eq_true, decide_eq_true_eq, h.on s hs]
    constructor
    · rintro (rfl | ⟨u, hu, rfl⟩)
      · exact ⟨_, List.mem_append_right _ (List.mem_singleton.2 rfl), rfl⟩
      · exact ⟨u, List.mem_append_left _ hu, rfl⟩
    · rintro ⟨u, hu, rfl⟩
      rcases List.mem_append.1 hu with hu | hu
      · exact .inr ⟨u, hu, rfl⟩
      · rw [List.mem_singleton.1 hu]; exact .inl rfl
  · rw [List.getElem?_append_left (by omega)] at hu
    have := h.clo k u hk hu y hy hyp
    rw [hst _ (hw.ev_rng (outE_mem.1 hy).1).2.2.1, this, Bool.or_true]
theorem PtQ.row (hw : WF a) (hn : a.st = (n : Int)) {t : Stp} : ∀ (r : List Ed) (l : List Stp) (N : List Bool), (∀ x ∈ r, x ∈ outE a t.s) → l[i]? = some t → PtQ a perm st n i l N →
    PtQ a perm st n i (rowS perm i r l N).1 (rowS perm i r l N).2 ∧ (rowS perm i r l N).1[i]? = some t ∧ (∀ s, 0 ≤ s → fl N s = true → fl (rowS perm i r l N).2 s = true) ∧ ∀ x ∈ r, perm x = true → fl (rowS perm i r l N).2 x.t = true
  | [], _, _, _, ht, h => ⟨h, ht, fun _ _ h => h, fun x hx => by cases hx⟩
  | x :: r, l, N, hr, ht, h => by
    have hx := outE_mem.1 (hr x (List.mem_cons_self ..))
    have hrr := fun y hy => hr y (List.mem_cons_of_mem x hy)
    have hg := hw.ev_rng hx.1
    by_cases hc : fl N x.t = false ∧ perm x = true
    · rw [rowS_pos hc]
      have hst : ∀ s, 0 ≤ s → fl (fset N x.t) s = (decide (s = x.t) || fl N s) := fun s hs => fl_set ⟨hg.2.2.1, by rw [h.w.nl]; omega⟩ hs
      obtain ⟨h1, h2, h3, h4⟩ := PtQ.row hw hn r _ _ hrr (by rw [List.getElem?_append_left (List.getElem?_eq_some_iff.1 ht).1]; exact ht) (h.push hw hn ht hx.1 hx.2 hc.2 hc.1)
      refine ⟨h1, h2, fun s hs hf => h3 s hs (by rw [hst s hs, hf, Bool.or_true]), fun y hy hp => ?_⟩
      rcases List.mem_cons.1 hy with rfl | hy
      · exact h3 _ hg.2.2.1 (by rw [hst _ hg.2.2.1]; simp)
      · exact h4 y hy hp
    · rw [rowS_neg hc]
      obtain ⟨h1, h2, h3, h4⟩ := PtQ.row hw hn r l N hrr ht h
      refine ⟨h1, h2, h3, fun y hy hp => ?_⟩
      rcases List.mem_cons.1 hy with rfl | hy
      · refine h3 _ hg.2.2.1 ?_
        cases hf : fl N y.t with
        | true => rfl
        | false => exact absurd ⟨hf, hp⟩ hc
      · exact h4 y hy hp
theorem rowS_pre {perm : Ed → Bool} {i k : Nat} {u : Stp} : ∀ (r : List Ed) (l : List Stp) (N : List Bool), l[k]? = some u → (rowS perm i r l N).1[k]? = some u
  | [], _, _, h => h
  | x :: r, l, N, h => by
    by_cases hc : fl N x.t = false ∧ perm x = true
    · rw [rowS_pos hc]; exact rowS_pre r _ _ (by rw [List.getElem?_append_left (List.getElem?_eq_some_iff.1 h).1]; exact h)
    · rw [rowS_neg hc]; exact rowS_pre r _ _ h
/-- the way back, turned round, is a walk to the step -/
theorem PtQ.walk (h : PtQ a perm st n i l N) : ∀ (g k : Nat) (t : Stp), k < g → l[k]? = some t → Wk a.ed perm st (bckS l g k).reverse t.s
  | 0, k, t, hk, _ => by omega
  | g + 1, k, t, hk, ht => by
    unfold bckS
    rw [Int.toNat_natCast, ht]
    simp only
    by_cases h0 : k = 0
    · subst h0
      rw [h.head] at ht
      injection ht with ht
      subst ht
      rw [if_pos (by show (-1 : Int) < 0; omega)]
      exact .nil
    · obtain ⟨x, u, h1, h2, h3, h4, h5, h6, h7, h8⟩ := h.par k t (by omega) ht
      rw [if_neg (by omega), List.reverse_cons, ← h3, ← h4]
      have hw := PtQ.walk h g t.f.toNat u (by omega) h7
      rw [show ((t.f.toNat : Nat) : Int) = t.f by omega] at hw
      exact .snoc hw h1 h2 h8.symm
theorem pthF_spec (hw : WF a) (hn : a.st = (n : Int)) {want : Int → Bool} : ∀ (g i : Nat) (l : List Stp) (N : List Bool), PtQ a perm st n i l N → n + 1 ≤ g + i → i ≤ l.length → (∀ (k : Nat) (t : Stp), k < i → l[k]? = some t → want t.s = false) →
    match pthF a want perm g i l N with
    | some ws => ∃ u, want u = true ∧ Wk a.ed perm st ws u
    | none => ∀ u, Rc a.ed perm st u → want u = false
  | 0, i, l, N, h, hg, hi, _ => by
    have := h.w.num
    omega
  | g + 1, i, l, N, h, hg, hi, hno => by
    unfold pthF
    cases ht : l[i]? with
    | none =>
      simp only
      have hil : l.length = i := by have := List.getElem?_eq_none_iff.1 ht; omega
      intro u hu
      have hfl : ∀ u, Rc a.ed perm st u → 0 ≤ u ∧ fl N u = true := fun u hu => by
        have hs0 : 0 ≤ st ∧ st < (n : Int) := h.w.rng _ (List.mem_of_getElem? h.head)
        refine hu.closed (P := fun u => 0 ≤ u ∧ fl N u = true) ⟨hs0.1, (h.on st hs0.1).2 ⟨_, List.mem_of_getElem? h.head, rfl⟩⟩ (fun x hx hp hxf => ⟨(hw.ev_rng hx).2.2.1, ?_⟩)
        obtain ⟨t, htm, hts⟩ := (h.on x.f hxf.1).1 hxf.2
        obtain ⟨k, hk⟩ := List.getElem?_of_mem htm
        exact h.clo k t (by have := (List.getElem?_eq_some_iff.1 hk).1; omega) hk x (outE_mem.2 ⟨hx, hts.symm⟩) hp
      obtain ⟨h0, h1⟩ := hfl u hu
      obtain ⟨t, htm, hts⟩ := (h.on u h0).1 h1
      obtain ⟨k, hk⟩ := List.getElem?_of_mem htm
      rw [← hts]
      exact hno k t (by have := (List.getElem?_eq_some_iff.1 hk).1; omega) hk
    | some t =>
      simp only
      by_cases hq : want t.s = true
      · rw [if_pos hq]
        exact ⟨t.s, hq, h.walk l.length i t (List.getElem?_eq_some_iff.1 ht).1 ht⟩
      · rw [if_neg hq]
        obtain ⟨h1, h2, h3, h4⟩ := PtQ.row hw hn (t := t) (outE a t.s) l N (fun _ hx => hx) ht h
        have hpre : ∀ k u, k ≤ i → l[k]? = some u → (rowS perm i (outE a t.s) l N).1[k]? = some u := fun k u hk hu => rowS_pre _ _ _ hu
        have hno2 : ∀ (k : Nat) (u : Stp), k < i + 1 → (rowS perm i (outE a t.s) l N).1[k]? = some u → want u.s = false := fun k u hk hu => by
          have hkl : k < l.length := by have := (List.getElem?_eq_some_iff.1 ht).1; omega
          have hu2 := hpre k l[k] (by omega) (List.getElem?_eq_getElem hkl)
          rw [hu] at hu2
          injection hu2 with hu2
          subst hu2
          by_cases hki : k = i
          · subst hki
            rw [List.getElem?_eq_getElem hkl] at ht
            injection ht with ht
            rw [ht]
            simpa using hq
          · exact hno k _ (by omega) (List.getElem?_eq_getElem hkl)
        refine pthF_spec hw hn g (i + 1) _ _ ⟨h1.w, h1.head, h1.par, h1.on, fun k u hk hu y hy hyp => ?_⟩ (by omega) (by have := (List.getElem?_eq_some_iff.1 h2).1; omega) hno2
        by_cases hki : k = i
        · subst hki
          rw [h2] at hu
          injection hu with hu
          subst hu
          exact h4 y hy hyp
        · exact h1.clo k u (by omega) hu y hy hyp
theorem pathS_spec (hw : WF a) {want : Int → Bool} (h0 : 0 ≤ st) (h1 : st < a.st) :
    match pathS a st want perm with
    | some ws => ∃ u, want u = true ∧ Wk a.ed perm st ws u
    | none => ∀ u, Rc a.ed perm st u → want u = false := by
  obtain ⟨n, hn⟩ : ∃ n : Nat, a.st = (n : Int) := ⟨a.st.toNat, by omega⟩
  have hst : a.st.toNat = n := by omega
  unfold pathS
  rw [hst]
  exact pthF_spec hw hn (n + 1) 0 _ _ (PtQ.start h0 (by omega)) (by omega) (Nat.zero_le _) (fun k t hk => by omega)
end
end Go.Proofs.Ytdnmpndnpfklcaa

/- Plain: rounds and cycles (chapter 41). -/
namespace Go.Proofs.Ytdnmpndnpfklcaa
open Go

section
variable {a : Aut} {perm : Ed → Bool} {s : Int}
/-- a state has a round -/
def OnC (ed : List Ed) (perm : Ed → Bool) (s : Int) : Prop := ∃ x ∈ ed, x.f = s ∧ perm x = true ∧ Rc ed perm x.t s
/-- walks are runs -/
theorem Wk.run (hw : WF a) {ws : List Int} {t : Int} (h : Wk a.ed perm s ws t) : goS (stA a) s ws = some t := by
  induction h with
  | nil => rfl
  | @snoc ws t x _ h1 _ h3 ih =>
    rw [goS_app, ih]
    show goS (stA a) t [x.e] = some x.t
    have := stA_some.2 ((nxt_ed hw).1 (show (⟨t, x.e, x.t⟩ : Ed) ∈ a.ed by rw [← h3]; exact h1))
    unfold goS
    rw [this]
    rfl
end
end Go.Proofs.Ytdnmpndnpfklcaa

/- Plain: which nodes of a graph lie on a circle: the law's circles (chapter 41). -/
namespace Go.Proofs.Ytdnmpndnpfklcaa
open Go

/-- a table of flags -/
abbrev Mat := List (List Bool)
def gM (M : Mat) (i j : Nat) : Bool := (M.getD i []).getD j false
def sM (M : Mat) (i j : Nat) (b : Bool) : Mat := M.set i ((M.getD i []).set j b)
/-- n rows of n flags -/
def Sq (n : Nat) (M : Mat) : Prop := M.length = n ∧ ∀ r ∈ M, r.length = n
theorem Sq.row {n i : Nat} {M : Mat} (h : Sq n M) (hi : i < n) : (M.getD i []).length = n := by
  have hl : i < M.length := by rw [h.1]; exact hi
  rw [List.getD_eq_getElem?_getD, List.getElem?_eq_getElem hl]
  exact h.2 _ (List.getElem_mem hl)
theorem Sq.set {n i j : Nat} {M : Mat} (h : Sq n M) (hi : i < n) (b : Bool) : Sq n (sM M i j b) := by
  refine ⟨by unfold sM; rw [List.length_set]; exact h.1, fun r hr => ?_⟩
  unfold sM at hr
  rcases List.mem_or_eq_of_mem_set hr with hr | rfl
  · exact h.2 r hr
  · rw [List.length_set]; exact h.row hi
theorem gM_set {n i j k m : Nat} {M : Mat} (h : Sq n M) (hi : i < n) (hj : j < n) (b : Bool) : gM (sM M i j b) k m = if k = i ∧ m = j then b else gM M k m := by
  have hl : i < M.length := by rw [h.1]; exact hi
  have hr := h.row hi
  unfold gM sM
  rw [List.getD_eq_getElem?_getD (l := M.set _ _), List.getElem?_set]
  by_cases hk : i = k
  · subst hk
    rw [if_pos rfl, if_pos hl, Option.getD_some, List.getD_eq_getElem?_getD (l := List.set _ _ _), List.getElem?_set]
    by_cases hm : j = m
    · subst hm; rw [if_pos rfl, if_pos (by omega), if_pos ⟨rfl, rfl⟩]; rfl
    · rw [if_neg hm, if_neg (by rintro ⟨_, h⟩; exact hm h.symm), ← List.getD_eq_getElem?_getD]
  · rw [if_neg hk, if_neg (by rintro ⟨h, _⟩; exact hk h.symm), ← List.getD_eq_getElem?_getD]
/-- walks whose inner nodes are below k -/
inductive Pw (E : List (Nat × Nat)) (k : Nat) : Nat → Nat → Prop
  | one {i j : Nat} : (i, j) ∈ E → Pw E k i j
  | cat {i m j : Nat} : Pw E k i m → m < k → Pw E k m j → Pw E k i j
section
variable {E : List (Nat × Nat)} {n k i j m : Nat}
theorem Pw.up (h : Pw E k i j) : Pw E (k + 1) i j := by
  induction h with
  | one h => exact .one h
  | cat _ hm _ ih1 ih2 => exact .cat ih1 (by omega) ih2
theorem Pw.down (h : Pw E (k + 1) i j) : Pw E k i j ∨ (Pw E k i k ∧ Pw E k k j) := by
  induction h with
  | one h => exact .inl (.one h)
  | @cat i m j _ hm _ ih1 ih2 =>
    by_cases hk : m = k
    · subst hk
      rcases ih1 with h1 | h1 <;> rcases ih2 with h2 | h2
      · exact .inr ⟨h1, h2⟩
      · exact .inr ⟨h1, h2.2⟩
      · exact .inr ⟨h1.1, h2⟩
      · exact .inr ⟨h1.1, h2.2⟩
    · have hm' : m < k := by omega
      rcases ih1 with h1 | h1 <;> rcases ih2 with h2 | h2
      · exact .inl (.cat h1 hm' h2)
      · exact .inr ⟨.cat h1 hm' h2.1, h2.2⟩
      · exact .inr ⟨h1.1, .cat h1.2 hm' h2⟩
      · exact .inr ⟨h1.1, h2.2⟩
theorem Pw.none (h : Pw E 0 i j) : (i, j) ∈ E := by
  induction h with
  | one h => exact h
  | cat _ hm _ _ _ => omega
theorem Pw.rng (hE : ∀ p ∈ E, p.1 < n ∧ p.2 < n) (h : Pw E k i j) : i < n ∧ j < n := by
  induction h with
  | one h => exact hE _ h
  | cat _ _ _ ih1 ih2 => exact ⟨ih1.1, ih2.2⟩
end
/-- one entry of a round -/
def cirE (k i : Nat) (M : Mat) (j : Nat) : Mat := sM M i j (gM M i j || gM M i k && gM M k j)
def cirJ (k i : Nat) (M : Mat) (l : List Nat) : Mat := l.foldl (cirE k i) M
def cirI (k n : Nat) (M : Mat) (l : List Nat) : Mat := l.foldl (fun M i => cirJ k i M (List.range n)) M
section
variable {E : List (Nat × Nat)} {n k i : Nat} {M : Mat}
/-- what a table holds, and that it only grows -/
structure CirG (E : List (Nat × Nat)) (n : Nat) (M0 M : Mat) : Prop where
  sq : Sq n M
  snd : ∀ i j, gM M i j = true → Pw E n i j
  up : ∀ i j, gM M0 i j = true → gM M i j = true
theorem CirG.refl (h : Sq n M) (hs : ∀ i j, gM M i j = true → Pw E n i j) : CirG E n M M := ⟨h, hs, fun _ _ h => h⟩
theorem CirG.e {M0 : Mat} (h : CirG E n M0 M) (hk : k < n) (hi : i < n) {j : Nat} (hj : j < n) : CirG E n M0 (cirE k i M j) ∧ (gM M0 i k = true → gM M0 k j = true → gM (cirE k i M j) i j = true) ∧ ∀ a b, gM M a b = true → gM (cirE k i M j) a b = true := by
  have hs : ∀ a b, gM (cirE k i M j) a b = if a = i ∧ b = j then (gM M i j || gM M i k && gM M k j) else gM M a b := fun a b => gM_set h.sq hi hj _
  have hup : ∀ a b, gM M a b = true → gM (cirE k i M j) a b = true := fun a b hab => by
    rw [hs]
    by_cases he : a = i ∧ b = j
    · rw [if_pos he]; obtain ⟨rfl, rfl⟩ := he; rw [hab]; rfl
    · rw [if_neg he]; exact hab
  refine ⟨⟨h.sq.set hi _, fun a b hab => ?_, fun a b hab => hup a b (h.up a b hab)⟩, fun h1 h2 => ?_, hup⟩
  · rw [hs] at hab
    by_cases he : a = i ∧ b = j
    · rw [if_pos he] at hab
      obtain ⟨rfl, rfl⟩ := he
      rw [Bool.or_eq_true, Bool.and_eq_true] at hab
      rcases hab with hab | ⟨h1, h2⟩
      · exact h.snd _ _ hab
      · exact .cat (h.snd _ _ h1) hk (h.snd _ _ h2)
    · rw [if_neg he] at hab; exact h.snd _ _ hab
  · rw [hs, if_pos ⟨rfl, rfl⟩, h.up _ _ h1, h.up _ _ h2]; simp
theorem CirG.cols {M0 : Mat} (hk : k < n) (hi : i < n) : ∀ (l : List Nat) {M : Mat}, (∀ j ∈ l, j < n) → CirG E n M0 M →
    CirG E n M0 (cirJ k i M l) ∧ (∀ j ∈ l, gM M0 i k = true → gM M0 k j = true → gM (cirJ k i M l) i j = true) ∧ ∀ a b, gM M a b = true → gM (cirJ k i M l) a b = true
  | [], _, _, h => ⟨h, (fun j hj => by cases hj), fun _ _ h => h⟩
  | j :: l, M, hl, h => by
    obtain ⟨h1, h2, h3⟩ := h.e hk hi (hl j (List.mem_cons_self ..))
    obtain ⟨h4, h5, h6⟩ := CirG.cols hk hi l (fun x hx => hl x (List.mem_cons_of_mem _ hx)) h1
    refine ⟨h4, fun x hx ha hb => ?_, fun a b hab => h6 a b (h3 a b hab)⟩
    rcases List.mem_cons.1 hx with rfl | hx
    · exact h6 _ _ (h2 ha hb)
    · exact h5 x hx ha hb
theorem CirG.rows {M0 : Mat} (hk : k < n) : ∀ (l : List Nat) {M : Mat}, (∀ i ∈ l, i < n) → CirG E n M0 M →
    CirG E n M0 (cirI k n M l) ∧ (∀ i ∈ l, ∀ j, j < n → gM M0 i k = true → gM M0 k j = true → gM (cirI k n M l) i j = true) ∧ ∀ a b, gM M a b = true → gM (cirI k n M l) a b = true
  | [], _, _, h => ⟨h, (fun j hj => by cases hj), fun _ _ h => h⟩
  | i :: l, M, hl, h => by
    obtain ⟨h1, h2, h3⟩ := CirG.cols hk (hl i (List.mem_cons_self ..)) (List.range n) (fun j hj => List.mem_range.1 hj) h
    obtain ⟨h4, h5, h6⟩ := CirG.rows hk l (fun x hx => hl x (List.mem_cons_of_mem _ hx)) h1
    refine ⟨h4, fun x hx j hj ha hb => ?_, fun a b hab => h6 a b (h3 a b hab)⟩
    rcases List.mem_cons.1 hx with rfl | hx
    · exact h6 _ _ (h2 j (List.mem_range.2 hj) ha hb)
    · exact h5 x hx j hj ha hb
end
end Go.Proofs.Ytdnmpndnpfklcaa

/- Plain: ranks in a graph, by a search in depth (chapter 41). -/
namespace Go.Proofs.Ytdnmpndnpfklcaa
open Go

def gI (l : List Int) (i : Int) : Int := l.getD i.toNat 0
theorem gI_set {l : List Int} {i j v : Int} (h0 : 0 ≤ i) (h1 : i < (l.length : Int)) (hj : 0 ≤ j) : gI (l.set i.toNat v) j = if j = i then v else gI l j := by
  unfold gI
  rw [List.getD_eq_getElem?_getD, List.getElem?_set]
  by_cases h : j = i
  · subst h; rw [if_pos rfl, if_pos (by omega), if_pos rfl]; rfl
  · rw [if_neg (by omega), if_neg h, List.getD_eq_getElem?_getD]
/-- the edges that leave a node -/
def outL (es : List Ed) (i : Int) : List Ed := es.filter fun x => decide (x.f = i)
theorem outL_mem {es : List Ed} {i : Int} {x : Ed} : x ∈ outL es i ↔ x ∈ es ∧ x.f = i := by unfold outL; simp
abbrev anyE : Ed → Bool := fun _ => true
/-- the value of a node, from those behind it -/
def rkV (w : Ed → Int) (ρ : Int → Int) (l : List Ed) : Int := l.foldl (fun m x => max m (ρ x.t + w x)) 0
theorem foldl_same {α β : Type} {f g : β → α → β} : ∀ (l : List α) (b : β), (∀ x ∈ l, ∀ b, f b x = g b x) → l.foldl f b = l.foldl g b
  | [], _, _ => rfl
  | x :: l, b, h => by rw [List.foldl_cons, List.foldl_cons, h x (List.mem_cons_self ..)]; exact foldl_same l _ (fun y hy => h y (List.mem_cons_of_mem _ hy))
theorem rkV_same {w : Ed → Int} {ρ ρ' : Int → Int} {l : List Ed} (h : ∀ x ∈ l, ρ x.t = ρ' x.t) : rkV w ρ l = rkV w ρ' l := foldl_same _ _ fun x hx b => by rw [h x hx]
/-- a node's rank: the greatest weight of a walk from it, where all walks from it end -/
inductive Rkd (es : List Ed) (w : Ed → Int) : Int → Int → Prop
  | mk {i v : Int} (ρ : Int → Int) : (∀ x ∈ es, x.f = i → Rkd es w x.t (ρ x.t)) → v = rkV w ρ (outL es i) → Rkd es w i v
section
variable {es : List Ed} {w : Ed → Int} {i j v u : Int}
theorem Rkd.unique (h : Rkd es w i v) : ∀ {u : Int}, Rkd es w i u → v = u := by
  induction h with
  | mk ρ _ hv ih =>
    intro u hu
    cases hu with
    | mk ρ' h' hu =>
      rw [hv, hu]
      exact rkV_same fun x hx => ih x (outL_mem.1 hx).1 (outL_mem.1 hx).2 (h' x (outL_mem.1 hx).1 (outL_mem.1 hx).2)
theorem Rkd.next (h : Rkd es w i v) (hr : Rc es anyE i j) : ∃ u, Rkd es w j u := by
  induction hr with
  | refl => exact ⟨v, h⟩
  | step _ h1 _ h3 ih =>
    obtain ⟨u, hu⟩ := ih
    cases hu with
    | mk ρ hc _ => exact ⟨_, hc _ h1 h3⟩
theorem Rc.first {ed : List Ed} {perm : Ed → Bool} {s t : Int} (h : Rc ed perm s t) : s = t ∨ ∃ y ∈ ed, y.f = s ∧ perm y = true ∧ Rc ed perm y.t t := by
  induction h with
  | refl => exact .inl rfl
  | @step t x _ h1 h2 h3 ih =>
    rcases ih with rfl | ⟨y, hy, hf, hp, hr⟩
    · exact .inr ⟨x, h1, h3, h2, .refl⟩
    · exact .inr ⟨y, hy, hf, hp, .step hr h1 h2 h3⟩
theorem OnC.next {ed : List Ed} {perm : Ed → Bool} {x : Ed} (hx : x ∈ ed) (hp : perm x = true) (h : Rc ed perm x.t x.f) : OnC ed perm x.t := by
  rcases h.first with he | ⟨y, hy, hf, hpy, hr⟩
  · exact ⟨x, hx, he.symm, hp, by rw [← he] at h; exact h⟩
  · exact ⟨y, hy, hf, hpy, .step hr hx hp rfl⟩
end
/-- ranks, and what has been done: 0 nothing, 1 open, 2 done -/
abbrev RS := List Int × List Int
def cnt0 (s : RS) : Nat := s.2.countP (fun q => q == 0)
theorem cnt_set : ∀ {l : List Int} {k : Nat} {v : Int}, l[k]? = some 0 → v ≠ 0 → (l.set k v).countP (fun q => q == 0) + 1 = l.countP (fun q => q == 0)
  | [], k, v, h, _ => by simp at h
  | q :: l, 0, v, h, hv => by
    simp at h; subst h
    rw [List.set_cons_zero, List.countP_cons, List.countP_cons]
    simp [hv]
  | q :: l, k + 1, v, h, hv => by
    have ih := cnt_set (l := l) (k := k) (v := v) (by simpa using h) hv
    rw [List.set_cons_succ, List.countP_cons, List.countP_cons]
    omega
theorem cnt_keep : ∀ {l : List Int} {k : Nat} {v q : Int}, l[k]? = some q → q ≠ 0 → v ≠ 0 → (l.set k v).countP (fun q => q == 0) = l.countP (fun q => q == 0)
  | [], k, v, q, h, _, _ => by simp at h
  | p :: l, 0, v, q, h, hq, hv => by
    simp at h; subst h
    rw [List.set_cons_zero, List.countP_cons, List.countP_cons]
    simp [hv, hq]
  | p :: l, k + 1, v, q, h, hq, hv => by
    have ih := cnt_keep (l := l) (k := k) (v := v) (q := q) (by simpa using h) hq hv
    rw [List.set_cons_succ, List.countP_cons, List.countP_cons, ih]
theorem gI_at {l : List Int} {i v : Int} (h0 : 0 ≤ i) (h1 : i < (l.length : Int)) (h : gI l i = v) : l[i.toNat]? = some v := by
  unfold gI at h
  rw [List.getD_eq_getElem?_getD, List.getElem?_eq_getElem (by omega)] at h
  rw [List.getElem?_eq_getElem (by omega), ← h]; rfl
/-- what a search leaves as it was; the rank of an open node is kept where K holds -/
structure RkX (F K : Int → Prop) (s s' : RS) : Prop where
  opn : ∀ j, F j → gI s.2 j = 1 → gI s'.2 j = 1
  opr : ∀ j, F j → K j → gI s.2 j = 1 → gI s'.1 j = gI s.1 j
  cls : ∀ j, F j → gI s.2 j = 2 → gI s'.2 j = 2 ∧ gI s'.1 j = gI s.1 j
  bck : ∀ j, F j → gI s'.2 j = 1 → gI s.2 j = 1
  out : ∀ j, 0 ≤ j → ¬ F j → gI s'.1 j = gI s.1 j
  cnt : cnt0 s' ≤ cnt0 s
section
variable {es : List Ed} {w : Ed → Int} {n g : Nat} {F K : Int → Prop} {s s' s'' : RS} {i : Int}
theorem RkX.refl (s : RS) : RkX F K s s := ⟨fun _ _ h => h, fun _ _ _ _ => rfl, fun _ _ h => ⟨h, rfl⟩, fun _ _ h => h, fun _ _ _ => rfl, Nat.le_refl _⟩
theorem RkX.trans (h : RkX F K s s') (k : RkX F K s' s'') : RkX F K s s'' :=
  ⟨fun j hf h1 => k.opn j hf (h.opn j hf h1), fun j hf hk h1 => (k.opr j hf hk (h.opn j hf h1)).trans (h.opr j hf hk h1), fun j hf h1 => ⟨(k.cls j hf (h.cls j hf h1).1).1, (k.cls j hf (h.cls j hf h1).1).2.trans (h.cls j hf h1).2⟩,
   fun j hf h1 => h.bck j hf (k.bck j hf h1), fun j h0 hf => (k.out j h0 hf).trans (h.out j h0 hf), Nat.le_trans k.cnt h.cnt⟩
end
end Go.Proofs.Ytdnmpndnpfklcaa

/- Plain: all ranks: by a search in depth, and by rounds; they are the same, where there is no circle (chapter 41). -/
namespace Go.Proofs.Ytdnmpndnpfklcaa
open Go

/-- the nodes below n that are chosen -/
def FaN (n : Nat) (fa : Nat → Bool) (j : Int) : Prop := (0 ≤ j ∧ j < (n : Int)) ∧ fa j.toNat = true
/-- ranks: of each chosen node its own, -1 of the others -/
structure RkAll (es : List Ed) (w : Ed → Int) (n : Nat) (fa : Nat → Bool) (r : List Int) : Prop where
  len : r.length = n
  yes : ∀ j, FaN n fa j → Rkd es w j (gI r j)
  no : ∀ j, 0 ≤ j → j < (n : Int) → ¬ FaN n fa j → gI r j = -1
theorem gI_ext {r r' : List Int} (hl : r.length = r'.length) (h : ∀ j : Int, 0 ≤ j → j < (r.length : Int) → gI r j = gI r' j) : r = r' := by
  apply List.ext_getElem hl
  intro i h1 h2
  have := h (i : Int) (by omega) (by omega)
  unfold gI at this
  rw [Int.toNat_natCast, List.getD_eq_getElem?_getD, List.getD_eq_getElem?_getD, List.getElem?_eq_getElem h1, List.getElem?_eq_getElem h2] at this
  exact this
section
variable {es : List Ed} {w : Ed → Int} {n : Nat} {fa : Nat → Bool} {r r' : List Int}
theorem RkAll.unique (h : RkAll es w n fa r) (k : RkAll es w n fa r') : r = r' := by
  refine gI_ext (h.len.trans k.len.symm) fun j h0 h1 => ?_
  rw [h.len] at h1
  by_cases hf : FaN n fa j
  · exact (h.yes j hf).unique (k.yes j hf)
  · rw [h.no j h0 h1 hf, k.no j h0 h1 hf]
theorem gI_rep (n : Nat) (j : Int) : gI (List.replicate n 0) j = 0 := by
  unfold gI
  rw [List.getD_eq_getElem?_getD, List.getElem?_replicate]
  by_cases h : j.toNat < n
  · rw [if_pos h]; rfl
  · rw [if_neg h]; rfl
end
end Go.Proofs.Ytdnmpndnpfklcaa

/- Plain: the law's circles are the circles of walks (chapter 41). -/
namespace Go.Proofs.Ytdnmpndnpfklcaa
open Go

section
variable {es : List Ed} {perm : Ed → Bool} {n : Nat} {fa : Nat → Bool}
/-- all edges within n nodes -/
def EdR (n : Nat) (es : List Ed) : Prop := ∀ x ∈ es, (0 ≤ x.f ∧ x.f < (n : Int)) ∧ (0 ≤ x.t ∧ x.t < (n : Int))
end
end Go.Proofs.Ytdnmpndnpfklcaa

/- Plain: the twin plant (chapter 41). -/
namespace Go.Proofs.Ytdnmpndnpfklcaa
open Go

/-- a plant with what is known of its events: can each be observed, which class of faults is it -/
structure Dm where
  a : Aut
  obs : List Bool
  flt : List Int
def Dm.ob (m : Dm) (x : Int) : Bool := fl m.obs x
def Dm.ft (m : Dm) (x : Int) : Int := gI m.flt x
/-- a pair: a state, has a fault occurred, a state -/
abbrev TwS := Int × Bool × Int
/-- the labels of moves: three times the event, and the side (0 both, 1 first, 2 second) -/
def twV (m : Dm) : List Int := m.a.al.flatMap fun x => if m.ob x = true then [3 * x] else [3 * x + 1, 3 * x + 2]
def twS (m : Dm) (c : Int) (t : TwS) (v : Int) : Option TwS :=
  if v % 3 = 0 then (if nxt m.a t.1 (v / 3) < 0 ∨ nxt m.a t.2.2 (v / 3) < 0 then none else some (nxt m.a t.1 (v / 3), t.2.1, nxt m.a t.2.2 (v / 3)))
  else if v % 3 = 1 then (if nxt m.a t.1 (v / 3) < 0 then none else some (nxt m.a t.1 (v / 3), (t.2.1 || m.ft (v / 3) == c), t.2.2))
  else (if m.ft (v / 3) = c ∨ nxt m.a t.2.2 (v / 3) < 0 then none else some (t.1, t.2.1, nxt m.a t.2.2 (v / 3)))
section
variable {m : Dm} {c : Int} {t u : TwS} {v : Int}
theorem twV_mem : v ∈ twV m ↔ ∃ x ∈ m.a.al, (m.ob x = true ∧ v = 3 * x) ∨ (m.ob x = false ∧ (v = 3 * x + 1 ∨ v = 3 * x + 2)) := by
  unfold twV
  rw [List.mem_flatMap]
  constructor
  · rintro ⟨x, hx, hv⟩
    refine ⟨x, hx, ?_⟩
    cases ho : m.ob x with
    | true => rw [ho] at hv; exact .inl ⟨rfl, by simpa using hv⟩
    | false => rw [ho] at hv; exact .inr ⟨rfl, by simpa using hv⟩
  · rintro ⟨x, hx, ⟨ho, rfl⟩ | ⟨ho, h⟩⟩
    · exact ⟨x, hx, by rw [ho]; simp⟩
    · exact ⟨x, hx, by rw [ho]; simpa using h⟩
theorem nxt_in {a : Aut} (hw : WF a) {s x : Int} (h : ¬ nxt a s x < 0) : 0 ≤ nxt a s x ∧ nxt a s x < a.st := by
  have := hw.nxt_rng (s := s) (v := x) (by omega)
  exact ⟨this.1, this.2.1⟩
end
end Go.Proofs.Ytdnmpndnpfklcaa

/- Plain: walks of the twin plant are pairs of runs with the same observation (chapter 41). -/
namespace Go.Proofs.Ytdnmpndnpfklcaa
open Go

/-- the events of the first and of the second run -/
def fst1 (L : List Int) : List Int := L.filterMap fun v => if v % 3 = 2 then none else some (v / 3)
def snd1 (L : List Int) : List Int := L.filterMap fun v => if v % 3 = 1 then none else some (v / 3)
theorem fst1_app (L M : List Int) : fst1 (L ++ M) = fst1 L ++ fst1 M := List.filterMap_append
theorem snd1_app (L M : List Int) : snd1 (L ++ M) = snd1 L ++ snd1 M := List.filterMap_append
/-- a model that is right: faults cannot be observed -/
structure DmW (m : Dm) (c : Int) : Prop where
  wf : WF m.a
  cls : 1 ≤ c
  ob0 : ∀ x, m.ob x = true → m.ft x = 0
/-- a fault of the class occurs -/
def fltB (m : Dm) (c : Int) (ws : List Int) : Bool := ws.any fun x => m.ft x == c
theorem fltB_app (m : Dm) (c : Int) (a b : List Int) : fltB m c (a ++ b) = (fltB m c a || fltB m c b) := List.any_append
def obsW (m : Dm) (ws : List Int) : List Int := ws.filter m.ob
theorem obsW_app (m : Dm) (a b : List Int) : obsW m (a ++ b) = obsW m a ++ obsW m b := List.filter_append ..
/-- what a walk of the twin plant says of its runs -/
structure TwK (m : Dm) (c : Int) (t u : TwS) (L : List Int) : Prop where
  fst : goS (stA m.a) t.1 (fst1 L) = some u.1
  snd : goS (stA m.a) t.2.2 (snd1 L) = some u.2.2
  flt : u.2.1 = (t.2.1 || fltB m c (fst1 L))
  nof : fltB m c (snd1 L) = false
  obs : obsW m (fst1 L) = obsW m (snd1 L)
  evs : (∀ x ∈ fst1 L, x ∈ m.a.al) ∧ ∀ x ∈ snd1 L, x ∈ m.a.al
section
variable {m : Dm} {c : Int} {t u r : TwS} {L M : List Int} {v : Int}
theorem stA_nxt {a : Aut} {s x : Int} (h : ¬ nxt a s x < 0) : goS (stA a) s [x] = some (nxt a s x) := by
  unfold goS stA
  rw [if_neg h]
  rfl
theorem TwK.refl (t : TwS) : TwK m c t t [] := ⟨rfl, rfl, by show t.2.1 = (t.2.1 || false); simp, rfl, rfl, (fun x hx => by cases hx), fun x hx => by cases hx⟩
theorem TwK.trans (h : TwK m c t u L) (k : TwK m c u r M) : TwK m c t r (L ++ M) :=
  ⟨by rw [fst1_app, goS_app, h.fst]; exact k.fst, by rw [snd1_app, goS_app, h.snd]; exact k.snd, by rw [k.flt, h.flt, fst1_app, fltB_app, Bool.or_assoc], by rw [snd1_app, fltB_app, h.nof, k.nof]; rfl,
   by rw [fst1_app, snd1_app, obsW_app, obsW_app, h.obs, k.obs], (fun x hx => by
     rw [fst1_app] at hx
     exact (List.mem_append.1 hx).elim (h.evs.1 x) (k.evs.1 x)), fun x hx => by
     rw [snd1_app] at hx
     exact (List.mem_append.1 hx).elim (h.evs.2 x) (k.evs.2 x)⟩
theorem TwK.one (hm : DmW m c) (hv : v ∈ twV m) (h : twS m c t v = some u) : TwK m c t u [v] := by
  obtain ⟨x, hx, ⟨ho, rfl⟩ | ⟨ho, rfl | rfl⟩⟩ := twV_mem.1 hv
  · have e1 : (3 * x) % 3 = 0 := by omega
    have e2 : (3 * x) / 3 = x := by omega
    unfold twS at h
    rw [if_pos e1, e2] at h
    have hft : (m.ft x == c) = false := by rw [hm.ob0 x ho]; have := hm.cls; simp; omega
    split at h
    · cases h
    · rename_i hn
      injection h with h
      subst h
      have hf : fst1 [3 * x] = [x] := by unfold fst1; simp only [List.filterMap_cons, List.filterMap_nil, e1, e2]; rfl
      have hs : snd1 [3 * x] = [x] := by unfold snd1; simp only [List.filterMap_cons, List.filterMap_nil, e1, e2]; rfl
      refine ⟨by rw [hf]; exact stA_nxt (fun h => hn (.inl h)), by rw [hs]; exact stA_nxt (fun h => hn (.inr h)), ?_, ?_, by rw [hf, hs], (fun y hy => ?_), fun y hy => ?_⟩
      · rw [hf]; show t.2.1 = (t.2.1 || ((m.ft x == c) || false)); rw [hft]; simp
      · rw [hs]; show ((m.ft x == c) || false) = false; rw [hft]; rfl
      · rw [hf] at hy; rw [List.mem_singleton.1 hy]; exact hx
      · rw [hs] at hy; rw [List.mem_singleton.1 hy]; exact hx
  · have e1 : (3 * x + 1) % 3 = 1 := by omega
    have e2 : (3 * x + 1) / 3 = x := by omega
    unfold twS at h
    rw [if_neg (by omega), if_pos e1, e2] at h
    split at h
    · cases h
    · rename_i hn
      injection h with h
      subst h
      have hf : fst1 [3 * x + 1] = [x] := by unfold fst1; simp only [List.filterMap_cons, List.filterMap_nil, e1, e2]; rfl
      have hs : snd1 [3 * x + 1] = [] := by unfold snd1; simp only [List.filterMap_cons, List.filterMap_nil, e1]; rfl
      refine ⟨by rw [hf]; exact stA_nxt hn, by rw [hs]; rfl, ?_, by rw [hs]; rfl, ?_, (fun y hy => ?_), fun y hy => ?_⟩
      · rw [hf]; show (t.2.1 || m.ft x == c) = (t.2.1 || ((m.ft x == c) || false)); simp
      · rw [hf, hs]; unfold obsW; simp [ho]
      · rw [hf] at hy; rw [List.mem_singleton.1 hy]; exact hx
      · rw [hs] at hy; cases hy
  · have e1 : (3 * x + 2) % 3 = 2 := by omega
    have e2 : (3 * x + 2) / 3 = x := by omega
    unfold twS at h
    rw [if_neg (by omega), if_neg (by omega), e2] at h
    split at h
    · cases h
    · rename_i hn
      injection h with h
      subst h
      have hf : fst1 [3 * x + 2] = [] := by unfold fst1; simp only [List.filterMap_cons, List.filterMap_nil, e1]; rfl
      have hs : snd1 [3 * x + 2] = [x] := by unfold snd1; simp only [List.filterMap_cons, List.filterMap_nil, e1, e2]; rfl
      refine ⟨by rw [hf]; rfl, by rw [hs]; exact stA_nxt (fun h => hn (.inr h)), ?_, ?_, ?_, (fun y hy => ?_), fun y hy => ?_⟩
      · rw [hf]; show t.2.1 = (t.2.1 || false); simp
      · rw [hs]; show ((m.ft x == c) || false) = false; simp; exact fun h => hn (.inl h)
      · rw [hf, hs]; unfold obsW; simp [ho]
      · rw [hf] at hy; cases hy
      · rw [hs] at hy; rw [List.mem_singleton.1 hy]; exact hx
end
end Go.Proofs.Ytdnmpndnpfklcaa

/- Plain: pairs of runs are walks of the twin plant; ranks bound what comes after a fault (chapter 41). -/
namespace Go.Proofs.Ytdnmpndnpfklcaa
open Go

end Go.Proofs.Ytdnmpndnpfklcaa

/- Plain: the least bound: what it says of words (chapter 41). -/
namespace Go.Proofs.Ytdnmpndnpfklcaa
open Go

end Go.Proofs.Ytdnmpndnpfklcaa

/- Plain: with a further observable event a class stays diagnosable, with no greater bound (chapter 41). -/
namespace Go.Proofs.Ytdnmpndnpfklcaa
open Go

/-- a second model with more that can be observed, faults aside -/
structure DmM (m m' : Dm) (c : Int) : Prop where
  a : m'.a = m.a
  flt : ∀ x, m'.ft x = m.ft x
  obs : ∀ x, m.ob x = true → m'.ob x = true
  w : DmW m c
  w' : DmW m' c
section
variable {m m' : Dm} {c : Int} {t u : TwS} {L : List Int} {v : Int} {s s' : Bs TwS} {r r' : List Int}
theorem Rc.wk {ed : List Ed} {perm : Ed → Bool} {i j : Int} (h : Rc ed perm i j) : ∃ L, Wk ed perm i L j := by
  induction h with
  | refl => exact ⟨[], .nil⟩
  | step _ hx hp hxf ih =>
    obtain ⟨L, hL⟩ := ih
    exact ⟨L ++ [_], .snoc hL hx hp hxf⟩
theorem OnC.wk {ed : List Ed} {perm : Ed → Bool} {i : Int} (h : OnC ed perm i) : ∃ L, L ≠ [] ∧ Wk ed perm i L i := by
  obtain ⟨x, hx, rfl, hp, hr⟩ := h
  obtain ⟨L, hL⟩ := hr.wk
  exact ⟨[x.e] ++ L, by simp, (Wk.one hx hp).app hL⟩
end
end Go.Proofs.Ytdnmpndnpfklcaa

/- Plain: the twin plant's paths (chapter 41). -/
namespace Go.Proofs.Ytdnmpndnpfklcaa
open Go

/-- by which move a pair was found -/
def befA (bef : List Ed) (k : Int) : Option Ed := bef.find? fun x => x.t == k
/-- what was found, and how -/
structure TpI (es : List Ed) (n : Nat) (fr tg : Int) (bef : List Ed) : Prop where
  mem : ∀ x ∈ bef, x ∈ es
  par : ∀ (k : Nat) (x : Ed), bef[k]? = some x → x.f = fr ∨ ∃ (j : Nat) (y : Ed), j < k ∧ bef[j]? = some y ∧ y.t = x.f
  nd : (bef.map Ed.t).Nodup
  nt : tg ∉ bef.map Ed.t
section
variable {es : List Ed} {n : Nat} {fr tg : Int} {bef bef' : List Ed} {x : Ed}
theorem TpI.push (h : TpI es n fr tg bef) (hx : x ∈ es) (hk : x.f = fr ∨ x.f ∈ bef.map Ed.t) (hn : x.t ∉ bef.map Ed.t) : (∀ y ∈ bef ++ [x], y ∈ es) ∧ (∀ (k : Nat) (z : Ed), (bef ++ [x])[k]? = some z → z.f = fr ∨ ∃ (j : Nat) (y : Ed), j < k ∧ (bef ++ [x])[j]? = some y ∧ y.t = z.f) ∧ ((bef ++ [x]).map Ed.t).Nodup := by
  refine ⟨fun y hy => ?_, fun k z hz => ?_, ?_⟩
  · rcases List.mem_append.1 hy with hy | hy
    · exact h.mem y hy
    · rw [List.mem_singleton.1 hy]; exact hx
  · by_cases hkl : k < bef.length
    · rw [List.getElem?_append_left hkl] at hz
      rcases h.par k z hz with h1 | ⟨j, y, hj, hy, hyt⟩
      · exact .inl h1
      · exact .inr ⟨j, y, hj, by rw [List.getElem?_append_left (by omega)]; exact hy, hyt⟩
    · have hkl2 : k = bef.length := by
        have := (List.getElem?_eq_some_iff.1 hz).1
        rw [List.length_append, List.length_singleton] at this
        omega
      subst hkl2
      rw [List.getElem?_append_right (Nat.le_refl _), Nat.sub_self] at hz
      have hz : x = z := by simpa using hz
      subst hz
      rcases hk with hk | hk
      · exact .inl hk
      · obtain ⟨y, hy, hyt⟩ := List.mem_map.1 hk
        obtain ⟨j, hj⟩ := List.getElem?_of_mem hy
        have hjl := (List.getElem?_eq_some_iff.1 hj).1
        exact .inr ⟨j, y, hjl, by rw [List.getElem?_append_left hjl]; exact hj, hyt⟩
  · rw [List.map_append, List.nodup_append]
    refine ⟨h.nd, by simp, fun a ha b hb => ?_⟩
    have hb : b = x.t := by simpa using hb
    rw [hb]
    rintro rfl
    exact hn ha
end
end Go.Proofs.Ytdnmpndnpfklcaa

/- Plain: the lasso (chapter 41). -/
namespace Go.Proofs.Ytdnmpndnpfklcaa
open Go

end Go.Proofs.Ytdnmpndnpfklcaa

/- Plain: the excuse: the least word without a fault that has an observation (chapter 41). -/
namespace Go.Proofs.Ytdnmpndnpfklcaa
open Go

/-- a visit: the state, how much has been observed, the visit before, the event -/
structure Vst where
  s : Int
  k : Nat
  f : Int
  e : Int
/-- where an event leads -/
def exN (m : Dm) (c : Int) (o : List Int) (s : Int) (k : Nat) (x : Int) : Option (Int × Nat) :=
  if nxt m.a s x < 0 ∨ m.ft x = c then none else
  if m.ob x = true then (if o[k]? = some x then some (nxt m.a s x, k + 1) else none) else some (nxt m.a s x, k)
def exH (l : List Vst) (s : Int) (k : Nat) : Bool := l.any fun t => t.s == s && t.k == k
/-- the events of a visit -/
def exX (m : Dm) (c : Int) (o : List Int) (i : Nat) (t : Vst) : List Int → List Vst → List Vst
  | [], l => l
  | x :: r, l => match exN m c o t.s t.k x with
    | none => exX m c o i t r l
    | some p => if exH l p.1 p.2 = true then exX m c o i t r l else exX m c o i t r (l ++ [⟨p.1, p.2, i, x⟩])
/-- the events on the way back -/
def exB (l : List Vst) : Nat → Int → List Int
  | 0, _ => []
  | n + 1, k => match l[k.toNat]? with
    | none => []
    | some t => if t.f < 0 then [] else t.e :: exB l n t.f
/-- the visits are runs without a fault -/
structure ExI (m : Dm) (c : Int) (o : List Int) (l : List Vst) : Prop where
  head : l[0]? = some ⟨0, 0, -1, 0⟩
  par : ∀ (k : Nat) (t : Vst), 0 < k → l[k]? = some t → ∃ u : Vst, 0 ≤ t.f ∧ t.f.toNat < k ∧ l[t.f.toNat]? = some u ∧ exN m c o u.s u.k t.e = some (t.s, t.k) ∧ t.e ∈ m.a.al
  le : ∀ t ∈ l, t.k ≤ o.length
section
variable {m : Dm} {c : Int} {o : List Int} {l : List Vst} {i : Nat} {t : Vst}
theorem exN_some {s : Int} {k : Nat} {x : Int} {p : Int × Nat} (h : exN m c o s k x = some p) : ¬ nxt m.a s x < 0 ∧ m.ft x ≠ c ∧ p.1 = nxt m.a s x ∧ ((m.ob x = true ∧ o[k]? = some x ∧ p.2 = k + 1) ∨ (m.ob x = false ∧ p.2 = k)) := by
  unfold exN at h
  by_cases hn : nxt m.a s x < 0 ∨ m.ft x = c
  · rw [if_pos hn] at h; cases h
  rw [if_neg hn] at h
  refine ⟨fun h => hn (.inl h), fun h => hn (.inr h), ?_⟩
  cases ho : m.ob x with
  | true =>
    rw [ho, if_pos rfl] at h
    by_cases hk : o[k]? = some x
    · rw [if_pos hk] at h; injection h with h; rw [← h]; exact ⟨rfl, .inl ⟨rfl, hk, rfl⟩⟩
    · rw [if_neg hk] at h; cases h
  | false =>
    rw [ho, if_neg (by simp)] at h
    injection h with h
    rw [← h]
    exact ⟨rfl, .inr ⟨rfl, rfl⟩⟩
theorem ExI.push (h : ExI m c o l) (ht : l[i]? = some t) {x : Int} (hx : x ∈ m.a.al) {p : Int × Nat} (hp : exN m c o t.s t.k x = some p) : ExI m c o (l ++ [⟨p.1, p.2, i, x⟩]) := by
  have hil := (List.getElem?_eq_some_iff.1 ht).1
  refine ⟨by rw [List.getElem?_append_left (by omega)]; exact h.head, fun k u hk hu => ?_, fun u hu => ?_⟩
  · by_cases hkl : k < l.length
    · rw [List.getElem?_append_left hkl] at hu
      obtain ⟨v, h1, h2, h3, h4⟩ := h.par k u hk hu
      exact ⟨v, h1, h2, by rw [List.getElem?_append_left (by omega)]; exact h3, h4⟩
    · have hkl2 : k = l.length := by
        have := (List.getElem?_eq_some_iff.1 hu).1
        rw [List.length_append, List.length_singleton] at this
        omega
      subst hkl2
      rw [List.getElem?_append_right (Nat.le_refl _), Nat.sub_self] at hu
      have hu : (⟨p.1, p.2, i, x⟩ : Vst) = u := by simpa using hu
      subst hu
      exact ⟨t, by show (0 : Int) ≤ i; omega, by show ((i : Nat) : Int).toNat < _; omega, by show (l ++ _)[((i : Nat) : Int).toNat]? = _; rw [Int.toNat_natCast, List.getElem?_append_left hil]; exact ht, hp, hx⟩
  · rcases List.mem_append.1 hu with hu | hu
    · exact h.le u hu
    · rw [List.mem_singleton.1 hu]
      show p.2 ≤ o.length
      have htl := h.le t (List.mem_of_getElem? ht)
      rcases (exN_some hp).2.2.2 with ⟨_, h1, h2⟩ | ⟨_, h2⟩
      · have := (List.getElem?_eq_some_iff.1 h1).1
        omega
      · omega
theorem ExI.row : ∀ (r : List Int) (l : List Vst), (∀ x ∈ r, x ∈ m.a.al) → l[i]? = some t → ExI m c o l → ExI m c o (exX m c o i t r l) ∧ ∃ q, exX m c o i t r l = l ++ q
  | [], l, _, _, h => ⟨h, [], (List.append_nil l).symm⟩
  | x :: r, l, hr, ht, h => by
    have hrr := fun y hy => hr y (List.mem_cons_of_mem x hy)
    unfold exX
    cases hp : exN m c o t.s t.k x with
    | none => exact ExI.row r l hrr ht h
    | some p =>
      simp only
      by_cases he : exH l p.1 p.2 = true
      · rw [if_pos he]; exact ExI.row r l hrr ht h
      · rw [if_neg he]
        obtain ⟨h1, q, hq⟩ := ExI.row r (l ++ [⟨p.1, p.2, i, x⟩]) hrr (by rw [List.getElem?_append_left (List.getElem?_eq_some_iff.1 ht).1]; exact ht) (h.push ht (hr x (List.mem_cons_self ..)) hp)
        exact ⟨h1, [⟨p.1, p.2, i, x⟩] ++ q, by rw [hq, List.append_assoc]⟩
/-- the way back of a visit -/
theorem ExI.back (h : ExI m c o l) : ∀ (g k : Nat) (t : Vst), k < g → l[k]? = some t → goS (stA m.a) 0 (exB l g k).reverse = some t.s ∧ fltB m c (exB l g k).reverse = false ∧ obsW m (exB l g k).reverse = o.take t.k ∧ ∀ v ∈ (exB l g k).reverse, v ∈ m.a.al
  | 0, k, t, hk, _ => by omega
  | g + 1, k, t, hk, ht => by
    unfold exB
    rw [Int.toNat_natCast, ht]
    simp only
    by_cases h0 : k = 0
    · subst h0
      rw [h.head] at ht
      injection ht with ht
      subst ht
      rw [if_pos (by show (-1 : Int) < 0; omega)]
      exact ⟨rfl, rfl, rfl, fun v hv => by cases hv⟩
    · obtain ⟨u, h1, h2, h3, h4, h5⟩ := h.par k t (by omega) ht
      rw [if_neg (by omega), List.reverse_cons]
      obtain ⟨i1, i2, i3, i4⟩ := ExI.back h g t.f.toNat u (by omega) h3
      rw [show ((t.f.toNat : Nat) : Int) = t.f by omega] at i1 i2 i3 i4
      obtain ⟨e1, e2, e3, e4⟩ := exN_some h4
      refine ⟨?_, ?_, ?_, fun v hv => ?_⟩
      · rw [goS_app, i1]
        show goS (stA m.a) u.s [t.e] = some t.s
        rw [stA_nxt e1]
        exact congrArg some e3.symm
      · rw [fltB_app, i2]
        show (false || ((m.ft t.e == c) || false)) = false
        simp [e2]
      · rw [obsW_app, i3]
        rcases e4 with ⟨ho, hk', hkk⟩ | ⟨ho, hkk⟩
        · have hkk : t.k = u.k + 1 := hkk
          rw [hkk, List.take_add_one, hk']
          unfold obsW
          simp [ho]
        · have hkk : t.k = u.k := hkk
          rw [hkk]
          unfold obsW
          simp [ho]
      · rcases List.mem_append.1 hv with hv | hv
        · exact i4 v hv
        · rw [List.mem_singleton.1 hv]; exact h5
end
end Go.Proofs.Ytdnmpndnpfklcaa

/- Plain: live plants, quiet cycles; the law's ranks are the twin plant's (chapter 41). -/
namespace Go.Proofs.Ytdnmpndnpfklcaa
open Go

end Go.Proofs.Ytdnmpndnpfklcaa

/- Plain: runs of the plant: the code's and the law's; the excuse of the law (chapter 41). -/
namespace Go.Proofs.Ytdnmpndnpfklcaa
open Go

end Go.Proofs.Ytdnmpndnpfklcaa

/- Plain: the words of the visits of an excuse's search; how many visits there are (chapter 41). -/
namespace Go.Proofs.Ytdnmpndnpfklcaa
open Go

section
variable {m : Dm} {c : Int} {o : List Int} {l q : List Vst}
/-- no place is visited twice, and all are in range -/
structure ExD (m : Dm) (o : List Int) (l : List Vst) : Prop where
  nd : (l.map fun t => (t.s, t.k)).Nodup
  rng : ∀ t ∈ l, (0 ≤ t.s ∧ t.s < m.a.st) ∧ t.k ≤ o.length
theorem exH_iff {s : Int} {k : Nat} : exH l s k = true ↔ (s, k) ∈ l.map fun t => (t.s, t.k) := by
  unfold exH
  rw [List.any_eq_true, List.mem_map]
  constructor
  · rintro ⟨t, ht, h⟩
    rw [Bool.and_eq_true, beq_iff_eq, beq_iff_eq] at h
    exact ⟨t, ht, by rw [h.1, h.2]⟩
  · rintro ⟨t, ht, h⟩
    injection h with h1 h2
    exact ⟨t, ht, by rw [h1, h2]; simp⟩
theorem ExD.push (hw : WF m.a) (h : ExD m o l) {t : Vst} (ht : t ∈ l) {x : Int} {p : Int × Nat} (hp : exN m c o t.s t.k x = some p) (hn : exH l p.1 p.2 = false) (i : Int) : ExD m o (l ++ [⟨p.1, p.2, i, x⟩]) := by
  obtain ⟨e1, _, e3, e4⟩ := exN_some hp
  refine ⟨?_, fun u hu => ?_⟩
  · rw [List.map_append, List.nodup_append]
    refine ⟨h.nd, by simp, fun a ha b hb => ?_⟩
    have hb : b = (p.1, p.2) := by simpa using hb
    rw [hb]
    rintro rfl
    have := exH_iff.2 ha
    rw [hn] at this
    cases this
  · rcases List.mem_append.1 hu with hu | hu
    · exact h.rng u hu
    · rw [List.mem_singleton.1 hu]
      refine ⟨by rw [show (⟨p.1, p.2, i, x⟩ : Vst).s = p.1 from rfl, e3]; exact nxt_in hw e1, ?_⟩
      show p.2 ≤ o.length
      have htl := (h.rng t ht).2
      rcases e4 with ⟨_, h1, h2⟩ | ⟨_, h2⟩
      · have := (List.getElem?_eq_some_iff.1 h1).1
        omega
      · omega
theorem ExD.len (h : ExD m o l) : l.length ≤ m.a.st.toNat * (o.length + 1) := by
  have := nodup_le (m := (rngI m.a.st).flatMap fun s => (List.range (o.length + 1)).map fun k => (s, k)) h.nd (fun p hp => by
    obtain ⟨t, ht, rfl⟩ := List.mem_map.1 hp
    have hr := h.rng t ht
    rw [List.mem_flatMap]
    exact ⟨t.s, rngI_mem.2 hr.1, List.mem_map.2 ⟨t.k, List.mem_range.2 (by omega), rfl⟩⟩)
  rw [List.length_map, List.length_flatMap] at this
  simp only [List.length_map, List.length_range] at this
  rw [List.map_const', List.sum_replicate_nat, rngI_len] at this
  exact this
end
end Go.Proofs.Ytdnmpndnpfklcaa

/- Plain: what the graph's searches find (chapter 41). -/
import Derived.Test.YtddhaidimadliaaUx
namespace Go.Proofs.Ytddhaidimadliaa
open Go

/-- what can be reached along some edges -/
inductive Rc (ed : List Ed) (perm : Ed → Bool) (s : Int) : Int → Prop
  | refl : Rc ed perm s s
  | step {t : Int} {x : Ed} : Rc ed perm s t → x ∈ ed → perm x = true → x.f = t → Rc ed perm s x.t
section
variable {ed : List Ed} {perm : Ed → Bool} {s t u : Int}
theorem Rc.trans (h : Rc ed perm s t) (k : Rc ed perm t u) : Rc ed perm s u := by
  induction k with
  | refl => exact h
  | step _ h1 h2 h3 ih => exact .step ih h1 h2 h3
theorem Rc.rng {n : Int} (he : ∀ x ∈ ed, 0 ≤ x.t ∧ x.t < n) (hs : 0 ≤ s ∧ s < n) (h : Rc ed perm s t) : 0 ≤ t ∧ t < n := by
  cases h with
  | refl => exact hs
  | step _ h1 _ _ => exact he _ h1
theorem Rc.mono {p2 : Ed → Bool} (hp : ∀ x ∈ ed, perm x = true → p2 x = true) (h : Rc ed perm s t) : Rc ed p2 s t := by
  induction h with
  | refl => exact .refl
  | step _ h1 h2 h3 ih => exact .step ih h1 (hp _ h1 h2) h3
/-- a set that is left by no edge holds all that is reached -/
theorem Rc.closed {P : Int → Prop} (hs : P s) (hc : ∀ x ∈ ed, perm x = true → P x.f → P x.t) (h : Rc ed perm s t) : P t := by
  induction h with
  | refl => exact hs
  | step _ h1 h2 h3 ih => exact hc _ h1 h2 (by rw [h3]; exact ih)
end
end Go.Proofs.Ytddhaidimadliaa
namespace Go.Proofs.Ytddhaidimadliaa
open Go

/-- a walk along some edges, with its events -/
inductive Wk (ed : List Ed) (perm : Ed → Bool) (s : Int) : List Int → Int → Prop
  | nil : Wk ed perm s [] s
  | snoc {ws : List Int} {t : Int} {x : Ed} : Wk ed perm s ws t → x ∈ ed → perm x = true → x.f = t → Wk ed perm s (ws ++ [x.e]) x.t
section
variable {ed : List Ed} {perm : Ed → Bool} {s t u : Int} {ws vs : List Int}
theorem Wk.rc (h : Wk ed perm s ws t) : Rc ed perm s t := by
  induction h with
  | nil => exact .refl
  | snoc _ h1 h2 h3 ih => exact .step ih h1 h2 h3
theorem Wk.one {x : Ed} (h1 : x ∈ ed) (h2 : perm x = true) : Wk ed perm x.f [x.e] x.t := .snoc (ws := []) .nil h1 h2 rfl
theorem Wk.mono {p2 : Ed → Bool} (hp : ∀ x ∈ ed, perm x = true → p2 x = true) (h : Wk ed perm s ws t) : Wk ed p2 s ws t := by
  induction h with
  | nil => exact .nil
  | snoc _ h1 h2 h3 ih => exact .snoc ih h1 (hp _ h1 h2) h3
end
/-- the steps of a search: where each comes from, which flags are set, which edges have been taken up -/
structure PtQ (a : Aut) (perm : Ed → Bool) (st : Int) (n i : Nat) (l : List Stp) (N : List Bool) : Prop where
  w : StW n l N
  head : l[0]? = some ⟨st, -1, -1⟩
  par : ∀ (k : Nat) (t : Stp), 0 < k → l[k]? = some t → ∃ (x : Ed) (u : Stp), x ∈ a.ed ∧ perm x = true ∧ x.t = t.s ∧ x.e = t.e ∧ 0 ≤ t.f ∧ t.f.toNat < k ∧ l[t.f.toNat]? = some u ∧ u.s = x.f
  on : ∀ s, 0 ≤ s → (fl N s = true ↔ ∃ t ∈ l, t.s = s)
  clo : ∀ (k : Nat) (t : Stp), k < i → l[k]? = some t → ∀ x ∈ outE a t.s, perm x = true → fl N x.t = true
section
variable {a : Aut} {perm : Ed → Bool} {st : Int} {n i : Nat} {l : List Stp} {N : List Bool}
theorem PtQ.start (h0 : 0 ≤ st) (h1 : st < (n : Int)) : PtQ a perm st n 0 [⟨st, -1, -1⟩] (fset (List.replicate n false) st) := by
  refine ⟨StW.start h0 h1, rfl, fun k t hk ht => ?_, fun s hs => ?_, fun k t hk => by omega⟩
  · obtain ⟨k, rfl⟩ : ∃ j, k = j + 1 := ⟨k - 1, by omega⟩
    simp at ht
  · rw [fl_set (by rw [List.length_replicate]; exact ⟨h0, h1⟩) hs, fl_rep, Bool.or_false, decide_eq_true_eq]
    constructor
    · rintro rfl; exact ⟨_, List.mem_singleton.2 rfl, rfl⟩
    · rintro ⟨t, ht, rfl⟩; rw [List.mem_singleton.1 ht]
/-- one edge is taken up -/
theorem PtQ.push (hw : WF a) (hn : a.st = (n : Int)) (h : PtQ a perm st n i l N) {t : Stp} (ht : l[i]? = some t) {x : Ed} (hx : x ∈ a.ed) (hxf : x.f = t.s) (hp : perm x = true) (hf : fl N x.t = false) : PtQ a perm st n i (l ++ [⟨x.t, i, x.e⟩]) (fset N x.t) := by
  have hg := hw.ev_rng hx
  have hil := (List.getElem?_eq_some_iff.1 ht).1
  have hst : ∀ s, 0 ≤ s → fl (fset N x.t) s = (decide (s = x.t) || fl N s) := fun s hs => fl_set ⟨hg.2.2.1, by rw [h.w.nl]; omega⟩ hs
  refine ⟨h.w.push hil hg.2.2.1 (by omega) hg.2.2.2.2.1 hg.2.2.2.2.2 hf, ?_, fun k u hk hu => ?_, fun s hs => ?_, fun k u hk hu y hy hyp => ?_⟩
  · rw [List.getElem?_append_left (by omega)]; exact h.head
  · by_cases hkl : k < l.length
    · rw [List.getElem?_append_left hkl] at hu
      obtain ⟨y, v, h1, h2, h3, h4, h5, h6, h7, h8⟩ := h.par k u hk hu
      exact ⟨y, v, h1, h2, h3, h4, h5, h6, by rw [List.getElem?_append_left (by omega)]; exact h7, h8⟩
    · rw [List.getElem?_append_right (by omega)] at hu
      obtain ⟨m, hm⟩ : ∃ m, k - l.length = m := ⟨_, rfl⟩
      rw [hm] at hu
      cases m with
      | succ m => simp at hu
      | zero =>
        simp at hu
        subst hu
        exact ⟨x, t, hx, hp, rfl, rfl, by simp, by simp; omega, by simp; rw [List.getElem?_append_left hil]; exact ht, hxf.symm⟩
  · rw [hst s hs, Bool.or_eq_true, decide_eq_true_eq, h.on s hs]
    constructor
    · rintro (rfl | ⟨u, hu, rfl⟩)
      · exact ⟨_, List.mem_append_right _ (List.mem_singleton.2 rfl), rfl⟩
      · exact ⟨u, List.mem_append_left _ hu, rfl⟩
    · rintro ⟨u, hu, rfl⟩
      rcases List.mem_append.1 hu with hu | hu
      · exact .inr ⟨u, hu, rfl⟩
      · rw [List.mem_singleton.1 hu]; exact .inl rfl
  · rw [List.getElem?_append_left (by omega)] at hu
    have := h.clo k u hk hu y hy hyp
    rw [hst _ (hw.ev_rng (outE_mem.1 hy).1).2.2.1, this, Bool.or_true]
theorem PtQ.row (hw : WF a) (hn : a.st = (n : Int)) {t : Stp} : ∀ (r : List Ed) (l : List Stp) (N : List Bool), (∀ x ∈ r, x ∈ outE a t.s) → l[i]? = some t → PtQ a perm st n i l N →
    PtQ a perm st n i (rowS perm i r l N).1 (rowS perm i r l N).2 ∧ (rowS perm i r l N).1[i]? = some t ∧ (∀ s, 0 ≤ s → fl N s = true → fl (rowS perm i r l N).2 s = true) ∧ ∀ x ∈ r, perm x = true → fl (rowS perm i r l N).2 x.t = true
  | [], _, _, _, ht, h => ⟨h, ht, fun _ _ h => h, fun x hx => by cases hx⟩
  | x :: r, l, N, hr, ht, h => by
    have hx := outE_mem.1 (hr x (List.mem_cons_self ..))
    have hrr := fun y hy => hr y (List.mem_cons_of_mem x hy)
    have hg := hw.ev_rng hx.1
    by_cases hc : fl N x.t = false ∧ perm x = true
    · rw [rowS_pos hc]
      have hst : ∀ s, 0 ≤ s → fl (fset N x.t) s = (decide (s = x.t) || fl N s) := fun s hs => fl_set ⟨hg.2.2.1, by rw [h.w.nl]; omega⟩ hs
      obtain ⟨h1, h2, h3, h4⟩ := PtQ.row hw hn r _ _ hrr (by rw [List.getElem?_append_left (List.getElem?_eq_some_iff.1 ht).1]; exact ht) (h.push hw hn ht hx.1 hx.2 hc.2 hc.1)
      refine ⟨h1, h2, fun s hs hf => h3 s hs (by rw [hst s hs, hf, Bool.or_true]), fun y hy hp => ?_⟩
      rcases List.mem_cons.1 hy with rfl | hy
      · exact h3 _ hg.2.2.1 (by rw [hst _ hg.2.2.1]; simp)
      · exact h4 y hy hp
    · rw [rowS_neg hc]
      obtain ⟨h1, h2, h3, h4⟩ := PtQ.row hw hn r l N hrr ht h
      refine ⟨h1, h2, h3, fun y hy hp => ?_⟩
      rcases List.mem_cons.1 hy with rfl | hy
      · refine h3 _ hg.2.2.1 ?_
        cases hf : fl N y.t with
        | true => rfl
        | false => exact absurd ⟨hf, hp⟩ hc
      · exact h4 y hy hp
end
end Go.Proofs.Ytddhaidimadliaa

/- Plain: rounds and cycles (chapter 41). -/
namespace Go.Proofs.Ytddhaidimadliaa
open Go

section
variable {a : Aut} {perm : Ed → Bool} {s : Int}
/-- a state has a round -/
def OnC (ed : List Ed) (perm : Ed → Bool) (s : Int) : Prop := ∃ x ∈ ed, x.f = s ∧ perm x = true ∧ Rc ed perm x.t s
/-- walks are runs -/
theorem Wk.run (hw : WF a) {ws : List Int} {t : Int} (h : Wk a.ed perm s ws t) : goS (stA a) s ws = some t := by
  induction h with
  | nil => rfl
  | @snoc ws t x _ h1 _ h3 ih =>
    rw [goS_app, ih]
    show goS (stA a) t [x.e] = some x.t
    have := stA_some.2 ((nxt_ed hw).1 (show (⟨t, x.e, x.t⟩ : Ed) ∈ a.ed by rw [← h3]; exact h1))
    unfold goS
    rw [this]
    rfl
end
end Go.Proofs.Ytddhaidimadliaa

/- Plain: which nodes of a graph lie on a circle: the law's circles (chapter 41). -/
namespace Go.Proofs.Ytddhaidimadliaa
open Go

/-- a table of flags -/
abbrev Mat := List (List Bool)
def gM (M : Mat) (i j : Nat) : Bool := (M.getD i []).getD j false
def sM (M : Mat) (i j : Nat) (b : Bool) : Mat := M.set i ((M.getD i []).set j b)
/-- n rows of n flags -/
def Sq (n : Nat) (M : Mat) : Prop := M.length = n ∧ ∀ r ∈ M, r.length = n
theorem Sq.row {n i : Nat} {M : Mat} (h : Sq n M) (hi : i < n) : (M.getD i []).length = n := by
  have hl : i < M.length := by rw [h.1]; exact hi
  rw [List.getD_eq_getElem?_getD, List.getElem?_eq_getElem hl]
  exact h.2 _ (List.getElem_mem hl)
theorem Sq.set {n i j : Nat} {M : Mat} (h : Sq n M) (hi : i < n) (b : Bool) : Sq n (sM M i j b) := by
  refine ⟨by unfold sM; rw [List.length_set]; exact h.1, fun r hr => ?_⟩
  unfold sM at hr
  rcases List.mem_or_eq_of_mem_set hr with hr | rfl
  · exact h.2 r hr
  · rw [List.length_set]; exact h.row hi
theorem gM_set {n i j k m : Nat} {M : Mat} (h : Sq n M) (hi : i < n) (hj : j < n) (b : Bool) : gM (sM M i j b) k m = if k = i ∧ m = j then b else gM M k m := by
  have hl : i < M.length := by rw [h.1]; exact hi
  have hr := h.row hi
  unfold gM sM
  rw [List.getD_eq_getElem?_getD (l := M.set _ _), List.getElem?_set]
  by_cases hk : i = k
  · subst hk
    rw [if_pos rfl, if_pos hl, Option.getD_some, List.getD_eq_getElem?_getD (l := List.set _ _ _), List.getElem?_set]
    by_cases hm : j = m
    · subst hm; rw [if_pos rfl, if_pos (by omega), if_pos ⟨rfl, rfl⟩]; rfl
    · rw [if_neg hm, if_neg (by rintro ⟨_, h⟩; exact hm h.symm), ← List.getD_eq_getElem?_getD]
  · rw [if_neg hk, if_neg (by rintro ⟨h, _⟩; exact hk h.symm), ← List.getD_eq_getElem?_getD]
/-- walks whose inner nodes are below k -/
inductive Pw (E : List (Nat × Nat)) (k : Nat) : Nat → Nat → Prop
  | one {i j : Nat} : (i, j) ∈ E → Pw E k i j
  | cat {i m j : Nat} : Pw E k i m → m < k → Pw E k m j → Pw E k i j
section
variable {E : List (Nat × Nat)} {n k i j m : Nat}
theorem Pw.up (h : Pw E k i j) : Pw E (k + 1) i j := by
  induction h with
  | one h => exact .one h
  | cat _ hm _ ih1 ih2 => exact .cat ih1 (by omega) ih2
theorem Pw.down (h : Pw E (k + 1) i j) : Pw E k i j ∨ (Pw E k i k ∧ Pw E k k j) := by
  induction h with
  | one h => exact .inl (.one h)
  | @cat i m j _ hm _ ih1 ih2 =>
    by_cases hk : m = k
    · subst hk
      rcases ih1 with h1 | h1 <;> rcases ih2 with h2 | h2
      · exact .inr ⟨h1, h2⟩
      · exact .inr ⟨h1, h2.2⟩
      · exact .inr ⟨h1.1, h2⟩
      · exact .inr ⟨h1.1, h2.2⟩
    · have hm' : m < k := by omega
      rcases ih1 with h1 | h1 <;> rcases ih2 with h2 | h2
      · exact .inl (.cat h1 hm' h2)
      · exact .inr ⟨.cat h1 hm' h2.1, h2.2⟩
      · exact .inr ⟨h1.1, .cat h1.2 hm' h2⟩
      · exact .inr ⟨h1.1, h2.2⟩
theorem Pw.none (h : Pw E 0 i j) : (i, j) ∈ E := by
  induction h with
  | one h => exact h
  | cat _ hm _ _ _ => omega
theorem Pw.rng (hE : ∀ p ∈ E, p.1 < n ∧ p.2 < n) (h : Pw E k i j) : i < n ∧ j < n := by
  induction h with
  | one h => exact hE _ h
  | cat _ _ _ ih1 ih2 => exact ⟨ih1.1, ih2.2⟩
end
/-- one entry of a round -/
def cirE (k i : Nat) (M : Mat) (j : Nat) : Mat := sM M i j (gM M i j || gM M i k && gM M k j)
def cirJ (k i : Nat) (M : Mat) (l : List Nat) : Mat := l.foldl (cirE k i) M
def cirI (k n : Nat) (M : Mat) (l : List Nat) : Mat := l.foldl (fun M i => cirJ k i M (List.range n)) M
section
variable {E : List (Nat × Nat)} {n k i : Nat} {M : Mat}
/-- what a table holds, and that it only grows -/
structure CirG (E : List (Nat × Nat)) (n : Nat) (M0 M : Mat) : Prop where
  sq : Sq n M
  snd : ∀ i j, gM M i j = true → Pw E n i j
  up : ∀ i j, gM M0 i j = true → gM M i j = true
theorem CirG.refl (h : Sq n M) (hs : ∀ i j, gM M i j = true → Pw E n i j) : CirG E n M M := ⟨h, hs, fun _ _ h => h⟩
theorem CirG.e {M0 : Mat} (h : CirG E n M0 M) (hk : k < n) (hi : i < n) {j : Nat} (hj : j < n) : CirG E n M0 (cirE k i M j) ∧ (gM M0 i k = true → gM M0 k j = true → gM (cirE k i M j) i j = true) ∧ ∀ a b, gM M a b = true → gM (cirE k i M j) a b = true := by
  have hs : ∀ a b, gM (cirE k i M j) a b = if a = i ∧ b = j then (gM M i j || gM M i k && gM M k j) else gM M a b := fun a b => gM_set h.sq hi hj _
  have hup : ∀ a b, gM M a b = true → gM (cirE k i M j) a b = true := fun a b hab => by
    rw [hs]
    by_cases he : a = i ∧ b = j
    · rw [if_pos he]; obtain ⟨rfl, rfl⟩ := he; rw [hab]; rfl
    · rw [if_neg he]; exact hab
  refine ⟨⟨h.sq.set hi _, fun a b hab => ?_, fun a b hab => hup a b (h.up a b hab)⟩, fun h1 h2 => ?_, hup⟩
  · rw [hs] at hab
    by_cases he : a = i ∧ b = j
    · rw [if_pos he] at hab
      obtain ⟨rfl, rfl⟩ := he
      rw [Bool.or_eq_true, Bool.and_eq_true] at hab
      rcases hab with hab | ⟨h1, h2⟩
      · exact h.snd _ _ hab
      · exact .cat (h.snd _ _ h1) hk (h.snd _ _ h2)
    · rw [if_neg he] at hab; exact h.snd _ _ hab
  · rw [hs, if_pos ⟨rfl, rfl⟩, h.up _ _ h1, h.up _ _ h2]; simp
theorem CirG.cols {M0 : Mat} (hk : k < n) (hi : i < n) : ∀ (l : List Nat) {M : Mat}, (∀ j ∈ l, j < n) → CirG E n M0 M →
    CirG E n M0 (cirJ k i M l) ∧ (∀ j ∈ l, gM M0 i k = true → gM M0 k j = true → gM (cirJ k i M l) i j = true) ∧ ∀ a b, gM M a b = true → gM (cirJ k i M l) a b = true
  | [], _, _, h => ⟨h, (fun j hj => by cases hj), fun _ _ h => h⟩
  | j :: l, M, hl, h => by
    obtain ⟨h1, h2, h3⟩ := h.e hk hi (hl j (List.mem_cons_self ..))
    obtain ⟨h4, h5, h6⟩ := CirG.cols hk hi l (fun x hx => hl x (List.mem_cons_of_mem _ hx)) h1
    refine ⟨h4, fun x hx ha hb => ?_, fun a b hab => h6 a b (h3 a b hab)⟩
    rcases List.mem_cons.1 hx with rfl | hx
    · exact h6 _ _ (h2 ha hb)
    · exact h5 x hx ha hb
theorem CirG.rows {M0 : Mat} (hk : k < n) : ∀ (l : List Nat) {M : Mat}, (∀ i ∈ l, i < n) → CirG E n M0 M →
    CirG E n M0 (cirI k n M l) ∧ (∀ i ∈ l, ∀ j, j < n → gM M0 i k = true → gM M0 k j = true → gM (cirI k n M l) i j = true) ∧ ∀ a b, gM M a b = true → gM (cirI k n M l) a b = true
  | [], _, _, h => ⟨h, (fun j hj => by cases hj), fun _ _ h => h⟩
  | i :: l, M, hl, h => by
    obtain ⟨h1, h2, h3⟩ := CirG.cols hk (hl i (List.mem_cons_self ..)) (List.range n) (fun j hj => List.mem_range.1 hj) h
    obtain ⟨h4, h5, h6⟩ := CirG.rows hk l (fun x hx => hl x (List.mem_cons_of_mem _ hx)) h1
    refine ⟨h4, fun x hx j hj ha hb => ?_, fun a b hab => h6 a b (h3 a b hab)⟩
    rcases List.mem_cons.1 hx with rfl | hx
    · exact h6 _ _ (h2 j (List.mem_range.2 hj) ha hb)
    · exact h5 x hx j hj ha hb
end
end Go.Proofs.Ytddhaidimadliaa

/- Plain: ranks in a graph, by a search in depth (chapter 41). -/
namespace Go.Proofs.Ytddhaidimadliaa
open Go

def gI (l : List Int) (i : Int) : Int := l.getD i.toNat 0
theorem gI_set {l : List Int} {i j v : Int} (h0 : 0 ≤ i) (h1 : i < (l.length : Int)) (hj : 0 ≤ j) : gI (l.set i.toNat v) j = if j = i then v else gI l j := by
  unfold gI
  rw [List.getD_eq_getElem?_getD, List.getElem?_set]
  by_cases h : j = i
  · subst h; rw [if_pos rfl, if_pos (by omega), if_pos rfl]; rfl
  · rw [if_neg (by omega), if_neg h, List.getD_eq_getElem?_getD]
/-- the edges that leave a node -/
def outL (es : List Ed) (i : Int) : List Ed := es.filter fun x => decide (x.f = i)
theorem outL_mem {es : List Ed} {i : Int} {x : Ed} : x ∈ outL es i ↔ x ∈ es ∧ x.f = i := by unfold outL; simp
abbrev anyE : Ed → Bool := fun _ => true
/-- the value of a node, from those behind it -/
def rkV (w : Ed → Int) (ρ : Int → Int) (l : List Ed) : Int := l.foldl (fun m x => max m (ρ x.t + w x)) 0
/-- a node's rank: the greatest weight of a walk from it, where all walks from it end -/
inductive Rkd (es : List Ed) (w : Ed → Int) : Int → Int → Prop
  | mk {i v : Int} (ρ : Int → Int) : (∀ x ∈ es, x.f = i → Rkd es w x.t (ρ x.t)) → v = rkV w ρ (outL es i) → Rkd es w i v
section
variable {es : List Ed} {w : Ed → Int} {i j v u : Int}
theorem Rkd.next (h : Rkd es w i v) (hr : Rc es anyE i j) : ∃ u, Rkd es w j u := by
  induction hr with
  | refl => exact ⟨v, h⟩
  | step _ h1 _ h3 ih =>
    obtain ⟨u, hu⟩ := ih
    cases hu with
    | mk ρ hc _ => exact ⟨_, hc _ h1 h3⟩
theorem Rc.first {ed : List Ed} {perm : Ed → Bool} {s t : Int} (h : Rc ed perm s t) : s = t ∨ ∃ y ∈ ed, y.f = s ∧ perm y = true ∧ Rc ed perm y.t t := by
  induction h with
  | refl => exact .inl rfl
  | @step t x _ h1 h2 h3 ih =>
    rcases ih with rfl | ⟨y, hy, hf, hp, hr⟩
    · exact .inr ⟨x, h1, h3, h2, .refl⟩
    · exact .inr ⟨y, hy, hf, hp, .step hr h1 h2 h3⟩
theorem OnC.next {ed : List Ed} {perm : Ed → Bool} {x : Ed} (hx : x ∈ ed) (hp : perm x = true) (h : Rc ed perm x.t x.f) : OnC ed perm x.t := by
  rcases h.first with he | ⟨y, hy, hf, hpy, hr⟩
  · exact ⟨x, hx, he.symm, hp, by rw [← he] at h; exact h⟩
  · exact ⟨y, hy, hf, hpy, .step hr hx hp rfl⟩
end
/-- ranks, and what has been done: 0 nothing, 1 open, 2 done -/
abbrev RS := List Int × List Int
def updR (w : Ed → Int) (i : Int) (x : Ed) (s : RS) : RS := (s.1.set i.toNat (max (gI s.1 i) (gI s.1 x.t + w x)), s.2)
def rkL (f : Int → RS → Bool × RS) (w : Ed → Int) (i : Int) : List Ed → RS → Bool × RS
  | [], s => (true, s)
  | x :: r, s => if (f x.t s).1 = true then rkL f w i r (updR w i x (f x.t s).2) else (false, (f x.t s).2)
def rkD (es : List Ed) (w : Ed → Int) : Nat → Int → RS → Bool × RS
  | 0, _, s => (false, s)
  | g + 1, i, s =>
    if gI s.2 i = 1 then (false, s) else if gI s.2 i = 2 then (true, s) else
    if (rkL (rkD es w g) w i (outL es i) (s.1, s.2.set i.toNat 1)).1 = true then
      (true, ((rkL (rkD es w g) w i (outL es i) (s.1, s.2.set i.toNat 1)).2.1, (rkL (rkD es w g) w i (outL es i) (s.1, s.2.set i.toNat 1)).2.2.set i.toNat 2))
    else (false, (rkL (rkD es w g) w i (outL es i) (s.1, s.2.set i.toNat 1)).2)
def cnt0 (s : RS) : Nat := s.2.countP (fun q => q == 0)
theorem cnt_set : ∀ {l : List Int} {k : Nat} {v : Int}, l[k]? = some 0 → v ≠ 0 → (l.set k v).countP (fun q => q == 0) + 1 = l.countP (fun q => q == 0)
  | [], k, v, h, _ => by simp at h
  | q :: l, 0, v, h, hv => by
    simp at h; subst h
    rw [List.set_cons_zero, List.countP_cons, List.countP_cons]
    simp [hv]
  | q :: l, k + 1, v, h, hv => by
    have ih := cnt_set (l := l) (k := k) (v := v) (by simpa using h) hv
    rw [List.set_cons_succ, List.countP_cons, List.countP_cons]
    omega
theorem cnt_keep : ∀ {l : List Int} {k : Nat} {v q : Int}, l[k]? = some q → q ≠ 0 → v ≠ 0 → (l.set k v).countP (fun q => q == 0) = l.countP (fun q => q == 0)
  | [], k, v, q, h, _, _ => by simp at h
  | p :: l, 0, v, q, h, hq, hv => by
    simp at h; subst h
    rw [List.set_cons_zero, List.countP_cons, List.countP_cons]
    simp [hv, hq]
  | p :: l, k + 1, v, q, h, hq, hv => by
    have ih := cnt_keep (l := l) (k := k) (v := v) (q := q) (by simpa using h) hq hv
    rw [List.set_cons_succ, List.countP_cons, List.countP_cons, ih]
theorem gI_at {l : List Int} {i v : Int} (h0 : 0 ≤ i) (h1 : i < (l.length : Int)) (h : gI l i = v) : l[i.toNat]? = some v := by
  unfold gI at h
  rw [List.getD_eq_getElem?_getD, List.getElem?_eq_getElem (by omega)] at h
  rw [List.getElem?_eq_getElem (by omega), ← h]; rfl
/-- what a search leaves as it was; the rank of an open node is kept where K holds -/
structure RkX (F K : Int → Prop) (s s' : RS) : Prop where
  opn : ∀ j, F j → gI s.2 j = 1 → gI s'.2 j = 1
  opr : ∀ j, F j → K j → gI s.2 j = 1 → gI s'.1 j = gI s.1 j
  cls : ∀ j, F j → gI s.2 j = 2 → gI s'.2 j = 2 ∧ gI s'.1 j = gI s.1 j
  bck : ∀ j, F j → gI s'.2 j = 1 → gI s.2 j = 1
  out : ∀ j, 0 ≤ j → ¬ F j → gI s'.1 j = gI s.1 j
  cnt : cnt0 s' ≤ cnt0 s
section
variable {es : List Ed} {w : Ed → Int} {n g : Nat} {F K : Int → Prop} {s s' s'' : RS} {i : Int}
theorem RkX.refl (s : RS) : RkX F K s s := ⟨fun _ _ h => h, fun _ _ _ _ => rfl, fun _ _ h => ⟨h, rfl⟩, fun _ _ h => h, fun _ _ _ => rfl, Nat.le_refl _⟩
theorem RkX.trans (h : RkX F K s s') (k : RkX F K s' s'') : RkX F K s s'' :=
  ⟨fun j hf h1 => k.opn j hf (h.opn j hf h1), fun j hf hk h1 => (k.opr j hf hk (h.opn j hf h1)).trans (h.opr j hf hk h1), fun j hf h1 => ⟨(k.cls j hf (h.cls j hf h1).1).1, (k.cls j hf (h.cls j hf h1).1).2.trans (h.cls j hf h1).2⟩,
   fun j hf h1 => h.bck j hf (k.bck j hf h1), fun j h0 hf => (k.out j h0 hf).trans (h.out j h0 hf), Nat.le_trans k.cnt h.cnt⟩
end
end Go.Proofs.Ytddhaidimadliaa

/- Plain: all ranks: by a search in depth, and by rounds; they are the same, where there is no circle (chapter 41). -/
namespace Go.Proofs.Ytddhaidimadliaa
open Go

section
variable {es : List Ed} {w : Ed → Int} {n : Nat} {fa : Nat → Bool} {r r' : List Int}
/-- all ranks by searches in depth -/
def solG (es : List Ed) (w : Ed → Int) (fa : Nat → Bool) (g : Nat) : Nat → Nat → RS → Bool × RS
  | 0, _, s => (true, s)
  | d + 1, i, s =>
    if fa i = true then (if (rkD es w g (i : Int) s).1 = true then solG es w fa g d (i + 1) (rkD es w g (i : Int) s).2 else (false, (rkD es w g (i : Int) s).2))
    else solG es w fa g d (i + 1) (s.1.set i (-1), s.2)
def solS (es : List Ed) (w : Ed → Int) (n : Nat) (fa : Nat → Bool) : Bool × RS := solG es w fa (n + 1) n 0 (List.replicate n 0, List.replicate n 0)
theorem gI_rep (n : Nat) (j : Int) : gI (List.replicate n 0) j = 0 := by
  unfold gI
  rw [List.getD_eq_getElem?_getD, List.getElem?_replicate]
  by_cases h : j.toNat < n
  · rw [if_pos h]; rfl
  · rw [if_neg h]; rfl
end
end Go.Proofs.Ytddhaidimadliaa

/- Plain: the law's circles are the circles of walks (chapter 41). -/
namespace Go.Proofs.Ytddhaidimadliaa
open Go

section
variable {es : List Ed} {perm : Ed → Bool} {n : Nat} {fa : Nat → Bool}
/-- all edges within n nodes -/
def EdR (n : Nat) (es : List Ed) : Prop := ∀ x ∈ es, (0 ≤ x.f ∧ x.f < (n : Int)) ∧ (0 ≤ x.t ∧ x.t < (n : Int))
end
end Go.Proofs.Ytddhaidimadliaa

/- Plain: the twin plant (chapter 41). -/
namespace Go.Proofs.Ytddhaidimadliaa
open Go

/-- a plant with what is known of its events: can each be observed, which class of faults is it -/
structure Dm where
  a : Aut
  obs : List Bool
  flt : List Int
def Dm.ob (m : Dm) (x : Int) : Bool := fl m.obs x
def Dm.ft (m : Dm) (x : Int) : Int := gI m.flt x
/-- a pair: a state, has a fault occurred, a state -/
abbrev TwS := Int × Bool × Int
/-- the labels of moves: three times the event, and the side (0 both, 1 first, 2 second) -/
def twV (m : Dm) : List Int := m.a.al.flatMap fun x => if m.ob x = true then [3 * x] else [3 * x + 1, 3 * x + 2]
def twS (m : Dm) (c : Int) (t : TwS) (v : Int) : Option TwS :=
  if v % 3 = 0 then (if nxt m.a t.1 (v / 3) < 0 ∨ nxt m.a t.2.2 (v / 3) < 0 then none else some (nxt m.a t.1 (v / 3), t.2.1, nxt m.a t.2.2 (v / 3)))
  else if v % 3 = 1 then (if nxt m.a t.1 (v / 3) < 0 then none else some (nxt m.a t.1 (v / 3), (t.2.1 || m.ft (v / 3) == c), t.2.2))
  else (if m.ft (v / 3) = c ∨ nxt m.a t.2.2 (v / 3) < 0 then none else some (t.1, t.2.1, nxt m.a t.2.2 (v / 3)))
/-- the twin plant of a class -/
def twin (m : Dm) (c : Int) : Option (Bs TwS) := if m.a.st = 0 then some ⟨[], []⟩ else bfs 4096 (twS m c) (twV m) (0, false, 0)
/-- the faulty pairs -/
def twF (s : Bs TwS) (i : Nat) : Bool := (s.ts.getD i (0, false, 0)).2.1
/-- a move's part of the first run -/
def twW (x : Ed) : Int := if x.e % 3 = 2 then 0 else 1
section
variable {m : Dm} {c : Int} {t u : TwS} {v : Int}
theorem twV_mem : v ∈ twV m ↔ ∃ x ∈ m.a.al, (m.ob x = true ∧ v = 3 * x) ∨ (m.ob x = false ∧ (v = 3 * x + 1 ∨ v = 3 * x + 2)) := by
  unfold twV
  rw [List.mem_flatMap]
  constructor
  · rintro ⟨x, hx, hv⟩
    refine ⟨x, hx, ?_⟩
    cases ho : m.ob x with
    | true => rw [ho] at hv; exact .inl ⟨rfl, by simpa using hv⟩
    | false => rw [ho] at hv; exact .inr ⟨rfl, by simpa using hv⟩
  · rintro ⟨x, hx, ⟨ho, rfl⟩ | ⟨ho, h⟩⟩
    · exact ⟨x, hx, by rw [ho]; simp⟩
    · exact ⟨x, hx, by rw [ho]; simpa using h⟩
/-- pairs within the plant -/
def TwR (m : Dm) (t : TwS) : Prop := (0 ≤ t.1 ∧ t.1 < m.a.st) ∧ (0 ≤ t.2.2 ∧ t.2.2 < m.a.st)
theorem nxt_in {a : Aut} (hw : WF a) {s x : Int} (h : ¬ nxt a s x < 0) : 0 ≤ nxt a s x ∧ nxt a s x < a.st := by
  have := hw.nxt_rng (s := s) (v := x) (by omega)
  exact ⟨this.1, this.2.1⟩
theorem twS_rng (hw : WF m.a) (h : twS m c t v = some u) (hr : TwR m t) : TwR m u := by
  unfold twS at h
  split at h
  · split at h
    · cases h
    · rename_i hn
      injection h with h
      rw [← h]
      exact ⟨nxt_in hw (fun h => hn (.inl h)), nxt_in hw (fun h => hn (.inr h))⟩
  · split at h
    · split at h
      · cases h
      · rename_i hn
        injection h with h
        rw [← h]
        exact ⟨nxt_in hw hn, hr.2⟩
    · split at h
      · cases h
      · rename_i hn
        injection h with h
        rw [← h]
        exact ⟨hr.1, nxt_in hw (fun h => hn (.inr h))⟩
theorem rch_tw (hw : WF m.a) (h0 : m.a.st ≠ 0) (h : Rch (twS m c) (twV m) (0, false, 0) t) : TwR m t := by
  have := hw.st0
  induction h with
  | start => exact ⟨⟨Int.le_refl _, by show (0 : Int) < _; omega⟩, ⟨Int.le_refl _, by show (0 : Int) < _; omega⟩⟩
  | step _ _ hs ih => exact twS_rng hw hs ih
/-- all pairs of a small plant -/
def twU (n : Nat) : List TwS := (rngI n).flatMap fun a => (rngI n).flatMap fun b => [(a, false, b), (a, true, b)]
theorem twU_len (n : Nat) : (twU n).length = n * (n * 2) := by
  unfold twU
  rw [List.length_flatMap]
  have h : ∀ a : Int, ((rngI (n : Int)).flatMap fun b => [((a, false, b) : TwS), (a, true, b)]).length = n * 2 := fun a => by
    rw [List.length_flatMap]
    simp only [List.length_cons, List.length_nil]
    rw [List.map_const', List.sum_replicate_nat, rngI_len, Int.toNat_natCast]
  simp only [h]
  rw [List.map_const', List.sum_replicate_nat, rngI_len, Int.toNat_natCast]
theorem twin_some (hw : WF m.a) (h0 : m.a.st ≠ 0) (hs : m.a.st ≤ 40) : ∃ s, twin m c = some s ∧ BInv 4096 (twS m c) (twV m) (0, false, 0) s.ts.length s := by
  unfold twin
  rw [if_neg h0]
  have hst := hw.st0
  rcases bfs_spec (C := 4096) (st := twS m c) (V := twV m) (x0 := (0, false, 0)) (by omega) with h | ⟨_, h⟩
  · exact h
  · exfalso
    refine not_many (twU m.a.st.toNat) ?_ (fun x hx => ?_) h
    · rw [twU_len]
      have h1 : m.a.st.toNat ≤ 40 := by omega
      calc m.a.st.toNat * (m.a.st.toNat * 2) ≤ 40 * (40 * 2) := Nat.mul_le_mul h1 (Nat.mul_le_mul h1 (Nat.le_refl _))
        _ ≤ 4096 := by decide
    · obtain ⟨h1, h2⟩ := rch_tw hw h0 hx
      obtain ⟨a, f, b⟩ := x
      unfold twU
      rw [List.mem_flatMap]
      refine ⟨a, rngI_mem.2 ⟨h1.1, by have := h1.2; dsimp only at this; omega⟩, ?_⟩
      rw [List.mem_flatMap]
      refine ⟨b, rngI_mem.2 ⟨h2.1, by have := h2.2; dsimp only at this; omega⟩, ?_⟩
      cases f <;> simp
/-- the moves of the twin plant -/
theorem tw_move {s : Bs TwS} (h : BInv 4096 (twS m c) (twV m) (0, false, 0) s.ts.length s) {x : Ed} : x ∈ s.es ↔ ∃ (j k : Nat) (t u : TwS), s.ts[j]? = some t ∧ s.ts[k]? = some u ∧ x.e ∈ twV m ∧ twS m c t x.e = some u ∧ x.f = (j : Int) ∧ x.t = (k : Int) := by
  rw [h.es, edsOf_mem]
  constructor
  · rintro ⟨j, t, v, y, hj, ht, hv, hs, rfl⟩
    have hy := h.clo j t v y hj ht hv hs
    obtain ⟨k, hk, hk2⟩ := idx_yes hy
    exact ⟨j, k, t, y, ht, hk2, hv, hs, rfl, hk⟩
  · rintro ⟨j, k, t, u, ht, hu, hv, hs, hf, hk⟩
    refine ⟨j, t, x.e, u, (List.getElem?_eq_some_iff.1 ht).1, ht, hv, hs, ?_⟩
    rw [Ed.eq_iff]
    exact ⟨hf, rfl, by rw [hk, idx_at h.nd hu]⟩
theorem twF_at {s : Bs TwS} {j : Nat} {t : TwS} (ht : s.ts[j]? = some t) : twF s j = t.2.1 := by
  unfold twF
  rw [List.getD_eq_getElem?_getD, ht]
  rfl
theorem tw_edr {s : Bs TwS} (h : BInv 4096 (twS m c) (twV m) (0, false, 0) s.ts.length s) : EdR s.ts.length s.es := fun x hx => by
  obtain ⟨j, k, t, u, ht, hu, _, _, hf, hk⟩ := (tw_move h).1 hx
  have h1 := (List.getElem?_eq_some_iff.1 ht).1
  have h2 := (List.getElem?_eq_some_iff.1 hu).1
  omega
end
end Go.Proofs.Ytddhaidimadliaa

/- Plain: walks of the twin plant are pairs of runs with the same observation (chapter 41). -/
namespace Go.Proofs.Ytddhaidimadliaa
open Go

/-- the events of the first and of the second run -/
def fst1 (L : List Int) : List Int := L.filterMap fun v => if v % 3 = 2 then none else some (v / 3)
def snd1 (L : List Int) : List Int := L.filterMap fun v => if v % 3 = 1 then none else some (v / 3)
theorem fst1_app (L M : List Int) : fst1 (L ++ M) = fst1 L ++ fst1 M := List.filterMap_append
theorem snd1_app (L M : List Int) : snd1 (L ++ M) = snd1 L ++ snd1 M := List.filterMap_append
/-- a model that is right: faults cannot be observed -/
structure DmW (m : Dm) (c : Int) : Prop where
  wf : WF m.a
  cls : 1 ≤ c
  ob0 : ∀ x, m.ob x = true → m.ft x = 0
/-- a fault of the class occurs -/
def fltB (m : Dm) (c : Int) (ws : List Int) : Bool := ws.any fun x => m.ft x == c
theorem fltB_app (m : Dm) (c : Int) (a b : List Int) : fltB m c (a ++ b) = (fltB m c a || fltB m c b) := List.any_append
def obsW (m : Dm) (ws : List Int) : List Int := ws.filter m.ob
theorem obsW_app (m : Dm) (a b : List Int) : obsW m (a ++ b) = obsW m a ++ obsW m b := List.filter_append ..
/-- what a walk of the twin plant says of its runs -/
structure TwK (m : Dm) (c : Int) (t u : TwS) (L : List Int) : Prop where
  fst : goS (stA m.a) t.1 (fst1 L) = some u.1
  snd : goS (stA m.a) t.2.2 (snd1 L) = some u.2.2
  flt : u.2.1 = (t.2.1 || fltB m c (fst1 L))
  nof : fltB m c (snd1 L) = false
  obs : obsW m (fst1 L) = obsW m (snd1 L)
  evs : (∀ x ∈ fst1 L, x ∈ m.a.al) ∧ ∀ x ∈ snd1 L, x ∈ m.a.al
section
variable {m : Dm} {c : Int} {t u r : TwS} {L M : List Int} {v : Int}
theorem stA_nxt {a : Aut} {s x : Int} (h : ¬ nxt a s x < 0) : goS (stA a) s [x] = some (nxt a s x) := by
  unfold goS stA
  rw [if_neg h]
  rfl
theorem TwK.refl (t : TwS) : TwK m c t t [] := ⟨rfl, rfl, by show t.2.1 = (t.2.1 || false); simp, rfl, rfl, (fun x hx => by cases hx), fun x hx => by cases hx⟩
theorem TwK.trans (h : TwK m c t u L) (k : TwK m c u r M) : TwK m c t r (L ++ M) :=
  ⟨by rw [fst1_app, goS_app, h.fst]; exact k.fst, by rw [snd1_app, goS_app, h.snd]; exact k.snd, by rw [k.flt, h.flt, fst1_app, fltB_app, Bool.or_assoc], by rw [snd1_app, fltB_app, h.nof, k.nof]; rfl,
   by rw [fst1_app, snd1_app, obsW_app, obsW_app, h.obs, k.obs], (fun x hx => by
     rw [fst1_app] at hx
     exact (List.mem_append.1 hx).elim (h.evs.1 x) (k.evs.1 x)), fun x hx => by
     rw [snd1_app] at hx
     exact (List.mem_append.1 hx).elim (h.evs.2 x) (k.evs.2 x)⟩
theorem TwK.one (hm : DmW m c) (hv : v ∈ twV m) (h : twS m c t v = some u) : TwK m c t u [v] := by
  obtain ⟨x, hx, ⟨ho, rfl⟩ | ⟨ho, rfl | rfl⟩⟩ := twV_mem.1 hv
  · have e1 : (3 * x) % 3 = 0 := by omega
    have e2 : (3 * x) / 3 = x := by omega
    unfold twS at h
    rw [if_pos e1, e2] at h
    have hft : (m.ft x == c) = false := by rw [hm.ob0 x ho]; have := hm.cls; simp; omega
    split at h
    · cases h
    · rename_i hn
      injection h with h
      subst h
      have hf : fst1 [3 * x] = [x] := by unfold fst1; simp only [List.filterMap_cons, List.filterMap_nil, e1, e2]; rfl
      have hs : snd1 [3 * x] = [x] := by unfold snd1; simp only [List.filterMap_cons, List.filterMap_nil, e1, e2]; rfl
      refine ⟨by rw [hf]; exact stA_nxt (fun h => hn (.inl h)), by rw [hs]; exact stA_nxt (fun h => hn (.inr h)), ?_, ?_, by rw [hf, hs], (fun y hy => ?_), fun y hy => ?_⟩
      · rw [hf]; show t.2.1 = (t.2.1 || ((m.ft x == c) || false)); rw [hft]; simp
      · rw [hs]; show ((m.ft x == c) || false) = false; rw [hft]; rfl
      · rw [hf] at hy; rw [List.mem_singleton.1 hy]; exact hx
      · rw [hs] at hy; rw [List.mem_singleton.1 hy]; exact hx
  · have e1 : (3 * x + 1) % 3 = 1 := by omega
    have e2 : (3 * x + 1) / 3 = x := by omega
    unfold twS at h
    rw [if_neg (by omega), if_pos e1, e2] at h
    split at h
    · cases h
    · rename_i hn
      injection h with h
      subst h
      have hf : fst1 [3 * x + 1] = [x] := by unfold fst1; simp only [List.filterMap_cons, List.filterMap_nil, e1, e2]; rfl
      have hs : snd1 [3 * x + 1] = [] := by unfold snd1; simp only [List.filterMap_cons, List.filterMap_nil, e1]; rfl
      refine ⟨by rw [hf]; exact stA_nxt hn, by rw [hs]; rfl, ?_, by rw [hs]; rfl, ?_, (fun y hy => ?_), fun y hy => ?_⟩
      · rw [hf]; show (t.2.1 || m.ft x == c) = (t.2.1 || ((m.ft x == c) || false)); simp
      · rw [hf, hs]; unfold obsW; simp [ho]
      · rw [hf] at hy; rw [List.mem_singleton.1 hy]; exact hx
      · rw [hs] at hy; cases hy
  · have e1 : (3 * x + 2) % 3 = 2 := by omega
    have e2 : (3 * x + 2) / 3 = x := by omega
    unfold twS at h
    rw [if_neg (by omega), if_neg (by omega), e2] at h
    split at h
    · cases h
    · rename_i hn
      injection h with h
      subst h
      have hf : fst1 [3 * x + 2] = [] := by unfold fst1; simp only [List.filterMap_cons, List.filterMap_nil, e1]; rfl
      have hs : snd1 [3 * x + 2] = [x] := by unfold snd1; simp only [List.filterMap_cons, List.filterMap_nil, e1, e2]; rfl
      refine ⟨by rw [hf]; rfl, by rw [hs]; exact stA_nxt (fun h => hn (.inr h)), ?_, ?_, ?_, (fun y hy => ?_), fun y hy => ?_⟩
      · rw [hf]; show t.2.1 = (t.2.1 || false); simp
      · rw [hs]; show ((m.ft x == c) || false) = false; simp; exact fun h => hn (.inl h)
      · rw [hf, hs]; unfold obsW; simp [ho]
      · rw [hf] at hy; cases hy
      · rw [hs] at hy; rw [List.mem_singleton.1 hy]; exact hx
end
end Go.Proofs.Ytddhaidimadliaa

/- Plain: pairs of runs are walks of the twin plant; ranks bound what comes after a fault (chapter 41). -/
namespace Go.Proofs.Ytddhaidimadliaa
open Go

section
variable {m : Dm} {c : Int} {t u : TwS} {L : List Int}
theorem stA_cons {a : Aut} {s x : Int} {ws : List Int} {z : Int} (h : goS (stA a) s (x :: ws) = some z) : ¬ nxt a s x < 0 ∧ goS (stA a) (nxt a s x) ws = some z := by
  unfold goS stA at h
  by_cases hn : nxt a s x < 0
  · rw [if_pos hn] at h; cases h
  · rw [if_neg hn] at h; exact ⟨hn, h⟩
theorem fst1_cons (v : Int) (L : List Int) : fst1 (v :: L) = (if v % 3 = 2 then [] else [v / 3]) ++ fst1 L := by
  unfold fst1
  rw [List.filterMap_cons]
  by_cases h : v % 3 = 2
  · rw [if_pos h, if_pos h]; rfl
  · rw [if_neg h, if_neg h]; rfl
theorem snd1_cons (v : Int) (L : List Int) : snd1 (v :: L) = (if v % 3 = 1 then [] else [v / 3]) ++ snd1 L := by
  unfold snd1
  rw [List.filterMap_cons]
  by_cases h : v % 3 = 1
  · rw [if_pos h, if_pos h]; rfl
  · rw [if_neg h, if_neg h]; rfl
end
end Go.Proofs.Ytddhaidimadliaa

/- Plain: the least bound: what it says of words (chapter 41). -/
namespace Go.Proofs.Ytddhaidimadliaa
open Go

/-- the least bound, by the ranks -/
def diaX (s : Bs TwS) (r : List Int) (b : Int) (x : Ed) : Int := if twF s x.f.toNat = false ∧ twF s x.t.toNat = true then max b (gI r x.t + 1) else b
def diaB (s : Bs TwS) (r : List Int) : Int := s.es.foldl (diaX s r) 0
end Go.Proofs.Ytddhaidimadliaa

/- Plain: with a further observable event a class stays diagnosable, with no greater bound (chapter 41). -/
namespace Go.Proofs.Ytddhaidimadliaa
open Go

/-- a second model with more that can be observed, faults aside -/
structure DmM (m m' : Dm) (c : Int) : Prop where
  a : m'.a = m.a
  flt : ∀ x, m'.ft x = m.ft x
  obs : ∀ x, m.ob x = true → m'.ob x = true
  w : DmW m c
  w' : DmW m' c
end Go.Proofs.Ytddhaidimadliaa

/- Plain: the twin plant's paths (chapter 41). -/
namespace Go.Proofs.Ytddhaidimadliaa
open Go

/-- by which move a pair was found -/
def befA (bef : List Ed) (k : Int) : Option Ed := bef.find? fun x => x.t == k
/-- the moves on the way back -/
def tbk (bef : List Ed) (fr : Int) : Nat → Ed → List Ed
  | 0, x => [x]
  | g + 1, x => if x.f = fr then [x] else x :: (match befA bef x.f with | some y => tbk bef fr g y | none => [])
/-- the moves of a pair are looked at -/
def tpX (fr tg : Int) : List Ed → List Ed → Sum (List Ed) (List Ed)
  | [], bef => .inr bef
  | x :: r, bef => if (befA bef x.t).isSome = true then tpX fr tg r bef else if x.t = tg then .inl (tbk (bef ++ [x]) fr bef.length x).reverse else tpX fr tg r (bef ++ [x])
/-- pair by pair: those to be looked at are the start and what was found -/
def tpG (es : List Ed) (fr tg : Int) : Nat → Nat → List Ed → Option (List Ed)
  | 0, _, _ => none
  | g + 1, i, bef => match (fr :: bef.map Ed.t)[i]? with
    | none => none
    | some k => match tpX fr tg (outL es k) bef with
      | .inl l => some l
      | .inr bef' => tpG es fr tg g (i + 1) bef'
/-- a shortest path with at least one move -/
def tpS (es : List Ed) (n : Nat) (fr tg : Int) : Option (List Ed) := tpG es fr tg (n + 2) 0 []
/-- what was found, and how -/
structure TpI (es : List Ed) (n : Nat) (fr tg : Int) (bef : List Ed) : Prop where
  mem : ∀ x ∈ bef, x ∈ es
  par : ∀ (k : Nat) (x : Ed), bef[k]? = some x → x.f = fr ∨ ∃ (j : Nat) (y : Ed), j < k ∧ bef[j]? = some y ∧ y.t = x.f
  nd : (bef.map Ed.t).Nodup
  nt : tg ∉ bef.map Ed.t
section
variable {es : List Ed} {n : Nat} {fr tg : Int} {bef bef' : List Ed} {x : Ed}
theorem befA_none : (befA bef tg).isSome = true ↔ tg ∈ bef.map Ed.t := by
  unfold befA
  rw [List.find?_isSome, List.mem_map]
  constructor
  · rintro ⟨x, hx, h⟩; exact ⟨x, hx, by simpa using h⟩
  · rintro ⟨x, hx, h⟩; exact ⟨x, hx, by simpa using h⟩
theorem befA_at (hn : (bef.map Ed.t).Nodup) {j : Nat} {y : Ed} (hj : bef[j]? = some y) : befA bef y.t = some y := by
  unfold befA
  cases hf : bef.find? (fun x => x.t == y.t) with
  | none =>
    have := List.find?_eq_none.1 hf y (List.mem_of_getElem? hj)
    simp at this
  | some z =>
    have hz := List.find?_some hf
    have hzm := List.mem_of_find?_eq_some hf
    obtain ⟨i, hi⟩ := List.getElem?_of_mem hzm
    have hzt : z.t = y.t := by simpa using hz
    have h1 : (bef.map Ed.t)[i]? = some z.t := by rw [List.getElem?_map, hi]; rfl
    have h2 : (bef.map Ed.t)[j]? = some y.t := by rw [List.getElem?_map, hj]; rfl
    have hij : i = j := (List.getElem?_inj (List.getElem?_eq_some_iff.1 h1).1 hn).1 (by rw [h1, h2, hzt])
    subst hij
    rw [hi] at hj
    exact hj
theorem TpI.push (h : TpI es n fr tg bef) (hx : x ∈ es) (hk : x.f = fr ∨ x.f ∈ bef.map Ed.t) (hn : x.t ∉ bef.map Ed.t) : (∀ y ∈ bef ++ [x], y ∈ es) ∧ (∀ (k : Nat) (z : Ed), (bef ++ [x])[k]? = some z → z.f = fr ∨ ∃ (j : Nat) (y : Ed), j < k ∧ (bef ++ [x])[j]? = some y ∧ y.t = z.f) ∧ ((bef ++ [x]).map Ed.t).Nodup := by
  refine ⟨fun y hy => ?_, fun k z hz => ?_, ?_⟩
  · rcases List.mem_append.1 hy with hy | hy
    · exact h.mem y hy
    · rw [List.mem_singleton.1 hy]; exact hx
  · by_cases hkl : k < bef.length
    · rw [List.getElem?_append_left hkl] at hz
      rcases h.par k z hz with h1 | ⟨j, y, hj, hy, hyt⟩
      · exact .inl h1
      · exact .inr ⟨j, y, hj, by rw [List.getElem?_append_left (by omega)]; exact hy, hyt⟩
    · have hkl2 : k = bef.length := by
        have := (List.getElem?_eq_some_iff.1 hz).1
        rw [List.length_append, List.length_singleton] at this
        omega
      subst hkl2
      rw [List.getElem?_append_right (Nat.le_refl _), Nat.sub_self] at hz
      have hz : x = z := by simpa using hz
      subst hz
      rcases hk with hk | hk
      · exact .inl hk
      · obtain ⟨y, hy, hyt⟩ := List.mem_map.1 hk
        obtain ⟨j, hj⟩ := List.getElem?_of_mem hy
        have hjl := (List.getElem?_eq_some_iff.1 hj).1
        exact .inr ⟨j, y, hjl, by rw [List.getElem?_append_left hjl]; exact hj, hyt⟩
  · rw [List.map_append, List.nodup_append]
    refine ⟨h.nd, by simp, fun a ha b hb => ?_⟩
    have hb : b = x.t := by simpa using hb
    rw [hb]
    rintro rfl
    exact hn ha
end
end Go.Proofs.Ytddhaidimadliaa

/- Plain: the lasso (chapter 41). -/
namespace Go.Proofs.Ytddhaidimadliaa
open Go

/-- the first faulty pair that lies on a circle: a path to it, and round it -/
def lasG (s : Bs TwS) : Nat → Nat → Option (List Ed × List Ed)
  | 0, _ => none
  | d + 1, i => if twF s i = true then (match tpS s.es s.ts.length (i : Int) (i : Int) with
      | some cy => some ((tpS s.es s.ts.length 0 (i : Int)).getD [], cy)
      | none => lasG s d (i + 1)) else lasG s d (i + 1)
def lasS (s : Bs TwS) : Option (List Ed × List Ed) := lasG s s.ts.length 0
end Go.Proofs.Ytddhaidimadliaa

/- Plain: the excuse: the least word without a fault that has an observation (chapter 41). -/
namespace Go.Proofs.Ytddhaidimadliaa
open Go

/-- a visit: the state, how much has been observed, the visit before, the event -/
structure Vst where
  s : Int
  k : Nat
  f : Int
  e : Int
/-- where an event leads -/
def exN (m : Dm) (c : Int) (o : List Int) (s : Int) (k : Nat) (x : Int) : Option (Int × Nat) :=
  if nxt m.a s x < 0 ∨ m.ft x = c then none else
  if m.ob x = true then (if o[k]? = some x then some (nxt m.a s x, k + 1) else none) else some (nxt m.a s x, k)
def exH (l : List Vst) (s : Int) (k : Nat) : Bool := l.any fun t => t.s == s && t.k == k
/-- the events of a visit -/
def exX (m : Dm) (c : Int) (o : List Int) (i : Nat) (t : Vst) : List Int → List Vst → List Vst
  | [], l => l
  | x :: r, l => match exN m c o t.s t.k x with
    | none => exX m c o i t r l
    | some p => if exH l p.1 p.2 = true then exX m c o i t r l else exX m c o i t r (l ++ [⟨p.1, p.2, i, x⟩])
/-- the events on the way back -/
def exB (l : List Vst) : Nat → Int → List Int
  | 0, _ => []
  | n + 1, k => match l[k.toNat]? with
    | none => []
    | some t => if t.f < 0 then [] else t.e :: exB l n t.f
def exG (m : Dm) (c : Int) (o : List Int) : Nat → Nat → List Vst → Option (List Int)
  | 0, _, _ => none
  | g + 1, i, l => match l[i]? with
    | none => none
    | some t => if t.k = o.length then some (exB l l.length i).reverse else exG m c o g (i + 1) (exX m c o i t m.a.al l)
/-- the excuse for an observation -/
def excE (m : Dm) (c : Int) (o : List Int) : Option (List Int) := if m.a.st = 0 then none else exG m c o (m.a.st.toNat * (o.length + 1) + 1) 0 [⟨0, 0, -1, 0⟩]
/-- the visits are runs without a fault -/
structure ExI (m : Dm) (c : Int) (o : List Int) (l : List Vst) : Prop where
  head : l[0]? = some ⟨0, 0, -1, 0⟩
  par : ∀ (k : Nat) (t : Vst), 0 < k → l[k]? = some t → ∃ u : Vst, 0 ≤ t.f ∧ t.f.toNat < k ∧ l[t.f.toNat]? = some u ∧ exN m c o u.s u.k t.e = some (t.s, t.k) ∧ t.e ∈ m.a.al
  le : ∀ t ∈ l, t.k ≤ o.length
section
variable {m : Dm} {c : Int} {o : List Int} {l : List Vst} {i : Nat} {t : Vst}
theorem exN_some {s : Int} {k : Nat} {x : Int} {p : Int × Nat} (h : exN m c o s k x = some p) : ¬ nxt m.a s x < 0 ∧ m.ft x ≠ c ∧ p.1 = nxt m.a s x ∧ ((m.ob x = true ∧ o[k]? = some x ∧ p.2 = k + 1) ∨ (m.ob x = false ∧ p.2 = k)) := by
  unfold exN at h
  by_cases hn : nxt m.a s x < 0 ∨ m.ft x = c
  · rw [if_pos hn] at h; cases h
  rw [if_neg hn] at h
  refine ⟨fun h => hn (.inl h), fun h => hn (.inr h), ?_⟩
  cases ho : m.ob x with
  | true =>
    rw [ho, if_pos rfl] at h
    by_cases hk : o[k]? = some x
    · rw [if_pos hk] at h; injection h with h; rw [← h]; exact ⟨rfl, .inl ⟨rfl, hk, rfl⟩⟩
    · rw [if_neg hk] at h; cases h
  | false =>
    rw [ho, if_neg (by simp)] at h
    injection h with h
    rw [← h]
    exact ⟨rfl, .inr ⟨rfl, rfl⟩⟩
theorem ExI.push (h : ExI m c o l) (ht : l[i]? = some t) {x : Int} (hx : x ∈ m.a.al) {p : Int × Nat} (hp : exN m c o t.s t.k x = some p) : ExI m c o (l ++ [⟨p.1, p.2, i, x⟩]) := by
  have hil := (List.getElem?_eq_some_iff.1 ht).1
  refine ⟨by rw [List.getElem?_append_left (by omega)]; exact h.head, fun k u hk hu => ?_, fun u hu => ?_⟩
  · by_cases hkl : k < l.length
    · rw [List.getElem?_append_left hkl] at hu
      obtain ⟨v, h1, h2, h3, h4⟩ := h.par k u hk hu
      exact ⟨v, h1, h2, by rw [List.getElem?_append_left (by omega)]; exact h3, h4⟩
    · have hkl2 : k = l.length := by
        have := (List.getElem?_eq_some_iff.1 hu).1
        rw [List.length_append, List.length_singleton] at this
        omega
      subst hkl2
      rw [List.getElem?_append_right (Nat.le_refl _), Nat.sub_self] at hu
      have hu : (⟨p.1, p.2, i, x⟩ : Vst) = u := by simpa using hu
      subst hu
      exact ⟨t, by show (0 : Int) ≤ i; omega, by show ((i : Nat) : Int).toNat < _; omega, by show (l ++ _)[((i : Nat) : Int).toNat]? = _; rw [Int.toNat_natCast, List.getElem?_append_left hil]; exact ht, hp, hx⟩
  · rcases List.mem_append.1 hu with hu | hu
    · exact h.le u hu
    · rw [List.mem_singleton.1 hu]
      show p.2 ≤ o.length
      have htl := h.le t (List.mem_of_getElem? ht)
      rcases (exN_some hp).2.2.2 with ⟨_, h1, h2⟩ | ⟨_, h2⟩
      · have := (List.getElem?_eq_some_iff.1 h1).1
        omega
      · omega
theorem ExI.row : ∀ (r : List Int) (l : List Vst), (∀ x ∈ r, x ∈ m.a.al) → l[i]? = some t → ExI m c o l → ExI m c o (exX m c o i t r l) ∧ ∃ q, exX m c o i t r l = l ++ q
  | [], l, _, _, h => ⟨h, [], (List.append_nil l).symm⟩
  | x :: r, l, hr, ht, h => by
    have hrr := fun y hy => hr y (List.mem_cons_of_mem x hy)
    unfold exX
    cases hp : exN m c o t.s t.k x with
    | none => exact ExI.row r l hrr ht h
    | some p =>
      simp only
      by_cases he : exH l p.1 p.2 = true
      · rw [if_pos he]; exact ExI.row r l hrr ht h
      · rw [if_neg he]
        obtain ⟨h1, q, hq⟩ := ExI.row r (l ++ [⟨p.1, p.2, i, x⟩]) hrr (by rw [List.getElem?_append_left (List.getElem?_eq_some_iff.1 ht).1]; exact ht) (h.push ht (hr x (List.mem_cons_self ..)) hp)
        exact ⟨h1, [⟨p.1, p.2, i, x⟩] ++ q, by rw [hq, List.append_assoc]⟩
/-- the way back of a visit -/
theorem ExI.back (h : ExI m c o l) : ∀ (g k : Nat) (t : Vst), k < g → l[k]? = some t → goS (stA m.a) 0 (exB l g k).reverse = some t.s ∧ fltB m c (exB l g k).reverse = false ∧ obsW m (exB l g k).reverse = o.take t.k ∧ ∀ v ∈ (exB l g k).reverse, v ∈ m.a.al
  | 0, k, t, hk, _ => by omega
  | g + 1, k, t, hk, ht => by
    unfold exB
    rw [Int.toNat_natCast, ht]
    simp only
    by_cases h0 : k = 0
    · subst h0
      rw [h.head] at ht
      injection ht with ht
      subst ht
      rw [if_pos (by show (-1 : Int) < 0; omega)]
      exact ⟨rfl, rfl, rfl, fun v hv => by cases hv⟩
    · obtain ⟨u, h1, h2, h3, h4, h5⟩ := h.par k t (by omega) ht
      rw [if_neg (by omega), List.reverse_cons]
      obtain ⟨i1, i2, i3, i4⟩ := ExI.back h g t.f.toNat u (by omega) h3
      rw [show ((t.f.toNat : Nat) : Int) = t.f by omega] at i1 i2 i3 i4
      obtain ⟨e1, e2, e3, e4⟩ := exN_some h4
      refine ⟨?_, ?_, ?_, fun v hv => ?_⟩
      · rw [goS_app, i1]
        show goS (stA m.a) u.s [t.e] = some t.s
        rw [stA_nxt e1]
        exact congrArg some e3.symm
      · rw [fltB_app, i2]
        show (false || ((m.ft t.e == c) || false)) = false
        simp [e2]
      · rw [obsW_app, i3]
        rcases e4 with ⟨ho, hk', hkk⟩ | ⟨ho, hkk⟩
        · have hkk : t.k = u.k + 1 := hkk
          rw [hkk, List.take_add_one, hk']
          unfold obsW
          simp [ho]
        · have hkk : t.k = u.k := hkk
          rw [hkk]
          unfold obsW
          simp [ho]
      · rcases List.mem_append.1 hv with hv | hv
        · exact i4 v hv
        · rw [List.mem_singleton.1 hv]; exact h5
end
end Go.Proofs.Ytddhaidimadliaa

/- Plain: live plants, quiet cycles; the law's ranks are the twin plant's (chapter 41). -/
namespace Go.Proofs.Ytddhaidimadliaa
open Go

/-- the states without edges -/
def deadL (a : Aut) : List Int := (rngI a.st).filter fun s => (outL a.ed s).isEmpty
/-- a word to a state without edges; none: the plant is live -/
def liveR (a : Aut) : List Int × Bool := if deadL a = [] then ([], true) else match pathS a 0 (fl (inF a.st.toNat (deadL a))) anyE with
  | some w => (w, false)
  | none => ([], true)
/-- can all be ranked: the ranks and the least bound -/
def diaS (s : Bs TwS) : Option (List Int × Int) := if (solS s.es twW s.ts.length (twF s)).1 = true then some ((solS s.es twW s.ts.length (twF s)).2.1, diaB s (solS s.es twW s.ts.length (twF s)).2.1) else none
section
variable {a : Aut} {m : Dm} {c : Int} {s : Bs TwS}
theorem deadL_mem {x : Int} : x ∈ deadL a ↔ (0 ≤ x ∧ x < a.st) ∧ ∀ e ∈ a.ed, e.f ≠ x := by
  unfold deadL
  rw [List.mem_filter, rngI_mem, List.isEmpty_iff]
  constructor
  · rintro ⟨h1, h2⟩
    refine ⟨h1, fun e he hf => ?_⟩
    have : e ∈ outL a.ed x := outL_mem.2 ⟨he, hf⟩
    rw [h2] at this
    cases this
  · rintro ⟨h1, h2⟩
    refine ⟨h1, List.eq_nil_iff_forall_not_mem.2 fun e he => h2 e (outL_mem.1 he).1 (outL_mem.1 he).2⟩
end
end Go.Proofs.Ytddhaidimadliaa

/- Plain: runs of the plant: the code's and the law's; the excuse of the law (chapter 41). -/
namespace Go.Proofs.Ytddhaidimadliaa
open Go

/-- the code's run: the state it leads to, and whether a fault has occurred -/
def runC (m : Dm) (c : Int) : Int → List Int → Bool → Option (Int × Bool)
  | s, [], f => if 0 < m.a.st then some (s, f) else none
  | s, x :: r, f => if hasB m.a.al x = true ∧ 0 ≤ nxt m.a s x then runC m c (nxt m.a s x) r (f || m.ft x == c) else none
/-- the law's run: -1 where it is not possible -/
def endL (a : Aut) : Int → List Int → Int
  | s, [] => s
  | s, x :: r => if nxt a s x < 0 then -1 else endL a (nxt a s x) r
section
variable {m : Dm} {c : Int}
theorem nxt_al {a : Aut} (hw : WF a) {s x : Int} (h : 0 ≤ nxt a s x) : x ∈ a.al := hasB_mem.1 (hw.nxt_rng (s := s) (v := x) (by omega)).2.2.1
theorem runC_go (hw : WF m.a) : ∀ (ws : List Int) (s : Int) (f : Bool) (t : Int) (g : Bool), runC m c s ws f = some (t, g) ↔ 0 < m.a.st ∧ goS (stA m.a) s ws = some t ∧ g = (f || fltB m c ws)
  | [], s, f, t, g => by
    unfold runC
    by_cases h : 0 < m.a.st
    · rw [if_pos h]
      constructor
      · intro he
        injection he with he
        injection he with h1 h2
        exact ⟨h, by rw [h1]; rfl, by rw [h2]; unfold fltB; simp⟩
      · rintro ⟨_, h1, h2⟩
        have h1 : s = t := Option.some.inj h1
        rw [h1, h2]
        unfold fltB
        simp
    · rw [if_neg h]
      exact ⟨fun he => (by cases he), fun ⟨h1, _⟩ => absurd h1 h⟩
  | x :: r, s, f, t, g => by
    unfold runC
    by_cases h : hasB m.a.al x = true ∧ 0 ≤ nxt m.a s x
    · rw [if_pos h, runC_go hw r]
      have e : goS (stA m.a) s (x :: r) = goS (stA m.a) (nxt m.a s x) r := by
        show (stA m.a s x).bind _ = _
        unfold stA
        rw [if_neg (by omega)]
        rfl
      rw [e]
      have e2 : (f || fltB m c (x :: r)) = ((f || m.ft x == c) || fltB m c r) := by
        unfold fltB
        rw [List.any_cons, Bool.or_assoc]
      rw [e2]
    · rw [if_neg h]
      refine ⟨fun he => (by cases he), fun ⟨_, h2, _⟩ => ?_⟩
      obtain ⟨hn, _⟩ := stA_cons h2
      exact absurd ⟨hasB_mem.2 (nxt_al hw (s := s) (by omega)), by omega⟩ h
theorem endL_go {a : Aut} (hw : WF a) : ∀ (ws : List Int) (s : Int), 0 ≤ s → (∀ t, goS (stA a) s ws = some t → endL a s ws = t ∧ 0 ≤ t) ∧ (goS (stA a) s ws = none → endL a s ws = -1)
  | [], s, h => ⟨fun t ht => by
      have ht : s = t := Option.some.inj ht
      exact ⟨ht, by omega⟩, fun h => (by cases h)⟩
  | x :: r, s, h => by
    unfold endL
    by_cases hn : nxt a s x < 0
    · rw [if_pos hn]
      have e : goS (stA a) s (x :: r) = none := by
        show (stA a s x).bind _ = _
        unfold stA
        rw [if_pos hn]
        rfl
      rw [e]
      exact ⟨fun t ht => (by cases ht), fun _ => rfl⟩
    · rw [if_neg hn]
      have e : goS (stA a) s (x :: r) = goS (stA a) (nxt a s x) r := by
        show (stA a s x).bind _ = _
        unfold stA
        rw [if_neg hn]
        rfl
      rw [e]
      exact endL_go hw r (nxt a s x) (by omega)
end
end Go.Proofs.Ytddhaidimadliaa

/- Plain: the words of the visits of an excuse's search; how many visits there are (chapter 41). -/
namespace Go.Proofs.Ytddhaidimadliaa
open Go

section
variable {m : Dm} {c : Int} {o : List Int} {l q : List Vst}
/-- the word of a visit -/
def exW (l : List Vst) (j : Nat) : List Int := (exB l (j + 1) j).reverse
theorem exB_any (h : ExI m c o l) : ∀ (j g1 g2 : Nat) (q : List Vst), j < l.length → j < g1 → j < g2 → exB (l ++ q) g1 j = exB l g2 j := by
  intro j
  induction j using Nat.strongRecOn with
  | _ j ih =>
    intro g1 g2 q hj h1 h2
    obtain ⟨g1, rfl⟩ : ∃ k, g1 = k + 1 := ⟨g1 - 1, by omega⟩
    obtain ⟨g2, rfl⟩ : ∃ k, g2 = k + 1 := ⟨g2 - 1, by omega⟩
    unfold exB
    rw [Int.toNat_natCast, List.getElem?_append_left hj]
    have ht := List.getElem?_eq_getElem hj
    generalize l[j] = t at ht
    rw [ht]
    simp only
    by_cases hf : t.f < 0
    · rw [if_pos hf, if_pos hf]
    · rw [if_neg hf, if_neg hf]
      congr 1
      by_cases h0 : j = 0
      · subst h0
        rw [h.head] at ht
        injection ht with ht
        subst ht
        exact absurd (show (-1 : Int) < 0 by omega) hf
      · obtain ⟨u, p1, p2, p3, _⟩ := h.par j t (by omega) ht
        have := ih t.f.toNat p2 g1 g2 q (by omega) (by omega) (by omega)
        rw [show ((t.f.toNat : Nat) : Int) = t.f by omega] at this
        exact this
theorem exW_app (h : ExI m c o l) {j : Nat} (hj : j < l.length) (q : List Vst) : exW (l ++ q) j = exW l j := by
  unfold exW
  rw [exB_any h j (j + 1) (j + 1) q hj (by omega) (by omega)]
theorem exW_new (h : ExI m c o l) {i : Nat} (hi : i < l.length) (s : Int) (k : Nat) (x : Int) : exW (l ++ [⟨s, k, i, x⟩]) l.length = exW l i ++ [x] := by
  unfold exW
  rw [exB, Int.toNat_natCast, List.getElem?_append_right (Nat.le_refl _), Nat.sub_self]
  simp only [List.getElem?_cons_zero]
  rw [if_neg (show ¬ ((i : Nat) : Int) < 0 by omega), List.reverse_cons, exB_any h i l.length (i + 1) _ hi hi (by omega)]
theorem exB_len : ∀ (g : Nat) (k : Int), (exB l g k).length ≤ g
  | 0, _ => Nat.le_refl _
  | g + 1, k => by
    unfold exB
    cases l[k.toNat]? with
    | none => exact Nat.zero_le _
    | some t =>
      simp only
      by_cases hf : t.f < 0
      · rw [if_pos hf]; exact Nat.zero_le _
      · rw [if_neg hf, List.length_cons]
        exact Nat.succ_le_succ (exB_len g t.f)
theorem exB_fin (h : ExI m c o l) {i : Nat} (hi : i < l.length) : (exB l l.length i).reverse = exW l i := by
  unfold exW
  have := exB_any h i l.length (i + 1) [] hi hi (by omega)
  rw [List.append_nil] at this
  rw [this]
/-- no place is visited twice, and all are in range -/
structure ExD (m : Dm) (o : List Int) (l : List Vst) : Prop where
  nd : (l.map fun t => (t.s, t.k)).Nodup
  rng : ∀ t ∈ l, (0 ≤ t.s ∧ t.s < m.a.st) ∧ t.k ≤ o.length
theorem exH_iff {s : Int} {k : Nat} : exH l s k = true ↔ (s, k) ∈ l.map fun t => (t.s, t.k) := by
  unfold exH
  rw [List.any_eq_true, List.mem_map]
  constructor
  · rintro ⟨t, ht, h⟩
    rw [Bool.and_eq_true, beq_iff_eq, beq_iff_eq] at h
    exact ⟨t, ht, by rw [h.1, h.2]⟩
  · rintro ⟨t, ht, h⟩
    injection h with h1 h2
    exact ⟨t, ht, by rw [h1, h2]; simp⟩
theorem ExD.push (hw : WF m.a) (h : ExD m o l) {t : Vst} (ht : t ∈ l) {x : Int} {p : Int × Nat} (hp : exN m c o t.s t.k x = some p) (hn : exH l p.1 p.2 = false) (i : Int) : ExD m o (l ++ [⟨p.1, p.2, i, x⟩]) := by
  obtain ⟨e1, _, e3, e4⟩ := exN_some hp
  refine ⟨?_, fun u hu => ?_⟩
  · rw [List.map_append, List.nodup_append]
    refine ⟨h.nd, by simp, fun a ha b hb => ?_⟩
    have hb : b = (p.1, p.2) := by simpa using hb
    rw [hb]
    rintro rfl
    have := exH_iff.2 ha
    rw [hn] at this
    cases this
  · rcases List.mem_append.1 hu with hu | hu
    · exact h.rng u hu
    · rw [List.mem_singleton.1 hu]
      refine ⟨by rw [show (⟨p.1, p.2, i, x⟩ : Vst).s = p.1 from rfl, e3]; exact nxt_in hw e1, ?_⟩
      show p.2 ≤ o.length
      have htl := (h.rng t ht).2
      rcases e4 with ⟨_, h1, h2⟩ | ⟨_, h2⟩
      · have := (List.getElem?_eq_some_iff.1 h1).1
        omega
      · omega
theorem ExD.len (h : ExD m o l) : l.length ≤ m.a.st.toNat * (o.length + 1) := by
  have := nodup_le (m := (rngI m.a.st).flatMap fun s => (List.range (o.length + 1)).map fun k => (s, k)) h.nd (fun p hp => by
    obtain ⟨t, ht, rfl⟩ := List.mem_map.1 hp
    have hr := h.rng t ht
    rw [List.mem_flatMap]
    exact ⟨t.s, rngI_mem.2 hr.1, List.mem_map.2 ⟨t.k, List.mem_range.2 (by omega), rfl⟩⟩)
  rw [List.length_map, List.length_flatMap] at this
  simp only [List.length_map, List.length_range] at this
  rw [List.map_const', List.sum_replicate_nat, rngI_len] at this
  exact this
end
end Go.Proofs.Ytddhaidimadliaa

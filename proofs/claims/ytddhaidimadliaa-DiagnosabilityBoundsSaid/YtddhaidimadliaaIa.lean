/- Plain: what the graph's searches find (chapter 41). -/
import Derived.Test.YtddhaidimadliaaUx
namespace Go.Proofs.Ytddhaidimadliaa
open Go

/-- what can be reached along some edges -/
inductive Rc (ed : List Ed) (perm : Ed → Bool) (s : Int) : Int → Prop
  | refl : Rc ed perm s s
  | step {t : Int} {x : Ed} : Rc ed perm s t → x ∈ ed → perm x = true → x.f = t → Rc ed perm s x.t
section
variable {ed : List Ed} {perm : Ed → Bool} {s t u : Int}
theorem Rc.trans (h : Rc ed perm s t) (k : Rc ed perm t u) : Rc ed perm s u := by
  induction k with
  | refl => exact h
  | step _ h1 h2 h3 ih => exact .step ih h1 h2 h3
theorem Rc.rng {n : Int} (he : ∀ x ∈ ed, 0 ≤ x.t ∧ x.t < n) (hs : 0 ≤ s ∧ s < n) (h : Rc ed perm s t) : 0 ≤ t ∧ t < n := by
  cases h with
  | refl => exact hs
  | step _ h1 _ _ => exact he _ h1
theorem Rc.mono {p2 : Ed → Bool} (hp : ∀ x ∈ ed, perm x = true → p2 x = true) (h : Rc ed perm s t) : Rc ed p2 s t := by
  induction h with
  | refl => exact .refl
  | step _ h1 h2 h3 ih => exact .step ih h1 (hp _ h1 h2) h3
/-- a set that is left by no edge holds all that is reached -/
theorem Rc.closed {P : Int → Prop} (hs : P s) (hc : ∀ x ∈ ed, perm x = true → P x.f → P x.t) (h : Rc ed perm s t) : P t := by
  induction h with
  | refl => exact hs
  | step _ h1 h2 h3 ih => exact hc _ h1 h2 (by rw [h3]; exact ih)
end
section
variable {a : Aut} {perm : Ed → Bool} {n : Nat}
theorem rowF_spec (hw : WF a) (hn : a.st = (n : Int)) : ∀ (r : List Ed) (q : List Int) (N : List Bool), (∀ x ∈ r, x ∈ a.ed) → N.length = n →
    (∀ t, 0 ≤ t → (fl (rowF perm r q N).2 t = true ↔ fl N t = true ∨ ∃ x ∈ r, perm x = true ∧ x.t = t)) ∧ (∀ t, t ∈ (rowF perm r q N).1 ↔ t ∈ q ∨ (0 ≤ t ∧ fl N t = false ∧ fl (rowF perm r q N).2 t = true)) ∧ (rowF perm r q N).2.length = n
  | [], q, N, _, hN => ⟨fun t _ => ⟨.inl, fun h => h.elim id (fun ⟨x, hx, _⟩ => by cases hx)⟩, fun t => ⟨.inl, fun h => h.elim id (fun ⟨_, h1, h2⟩ => by have h3 : fl N t = true := h2; rw [h1] at h3; cases h3)⟩, hN⟩
  | x :: r, q, N, hr, hN => by
    have hx := hr x (List.mem_cons_self ..)
    have hg := hw.ev_rng hx
    have hrr := fun y hy => hr y (List.mem_cons_of_mem x hy)
    by_cases hc : fl N x.t = false ∧ perm x = true
    · rw [rowF_pos hc]
      have hs : ∀ t, 0 ≤ t → fl (fset N x.t) t = (decide (t = x.t) || fl N t) := fun t ht => fl_set ⟨hg.2.2.1, by omega⟩ ht
      obtain ⟨h1, h2, h3⟩ := rowF_spec hw hn r (q ++ [x.t]) (fset N x.t) hrr (by rw [fset_len]; exact hN)
      refine ⟨fun t ht => ?_, fun t => ?_, h3⟩
      · rw [h1 t ht, hs t ht, Bool.or_eq_true, decide_eq_true_eq]
        constructor
        · rintro ((rfl | h) | ⟨y, hy, hp, rfl⟩)
          · exact .inr ⟨x, List.mem_cons_self .., hc.2, rfl⟩
          · exact .inl h
          · exact .inr ⟨y, List.mem_cons_of_mem _ hy, hp, rfl⟩
        · rintro (h | ⟨y, hy, hp, rfl⟩)
          · exact .inl (.inr h)
          · rcases List.mem_cons.1 hy with rfl | hy
            · exact .inl (.inl rfl)
            · exact .inr ⟨y, hy, hp, rfl⟩
      · rw [h2 t, List.mem_append, List.mem_singleton]
        constructor
        · rintro ((h | rfl) | ⟨h0, hf, ht⟩)
          · exact .inl h
          · exact .inr ⟨hg.2.2.1, hc.1, (h1 _ hg.2.2.1).2 (.inl (by rw [hs _ hg.2.2.1]; simp))⟩
          · rw [hs t h0, Bool.or_eq_false_iff] at hf
            exact .inr ⟨h0, hf.2, ht⟩
        · rintro (h | ⟨h0, hf, ht⟩)
          · exact .inl (.inl h)
          · by_cases he : t = x.t
            · exact .inl (.inr he)
            · exact .inr ⟨h0, by rw [hs t h0, hf]; simp [he], ht⟩
    · rw [rowF_neg hc]
      obtain ⟨h1, h2, h3⟩ := rowF_spec hw hn r q N hrr hN
      refine ⟨fun t ht => ?_, h2, h3⟩
      rw [h1 t ht]
      constructor
      · rintro (h | ⟨y, hy, hp, rfl⟩)
        · exact .inl h
        · exact .inr ⟨y, List.mem_cons_of_mem _ hy, hp, rfl⟩
      · rintro (h | ⟨y, hy, hp, rfl⟩)
        · exact .inl h
        · rcases List.mem_cons.1 hy with rfl | hy
          · refine .inl ?_
            cases hf : fl N y.t with
            | true => rfl
            | false => exact absurd ⟨hf, hp⟩ hc
          · exact .inr ⟨y, hy, hp, rfl⟩
theorem rowF_fw (hw : WF a) (hn : a.st = (n : Int)) {i : Nat} : ∀ (r : List Ed) (q : List Int) (N : List Bool), (∀ x ∈ r, x ∈ a.ed) → FwW n i q N → FwW n i (rowF perm r q N).1 (rowF perm r q N).2
  | [], _, _, _, h => h
  | x :: r, q, N, hr, h => by
    have hg := hw.ev_rng (hr x (List.mem_cons_self ..))
    have hrr := fun y hy => hr y (List.mem_cons_of_mem x hy)
    by_cases hc : fl N x.t = false ∧ perm x = true
    · rw [rowF_pos hc]; exact rowF_fw hw hn r _ _ hrr (h.push hg.2.2.1 (by omega) hc.1)
    · rw [rowF_neg hc]; exact rowF_fw hw hn r _ _ hrr h
/-- the search's flags: those of all that is reached from state 0 -/
theorem fwdF_spec (hw : WF a) (hn : a.st = (n : Int)) : ∀ (g i : Nat) (q : List Int) (N : List Bool), FwW n i q N → n + 1 ≤ g + i →
    (∀ t, 0 ≤ t → fl N t = true → Rc a.ed perm 0 t) → (∀ t ∈ q, fl N t = true) → (∀ t, 0 ≤ t → fl N t = true → t ∈ q ∨ ∀ x ∈ outE a t, perm x = true → fl N x.t = true) → fl N 0 = true →
    ∀ t, 0 ≤ t → (fl (fwdF a perm g q N) t = true ↔ Rc a.ed perm 0 t)
  | 0, i, q, N, hf, hg, _, _, _, _ => by
    have := hf.num
    omega
  | g + 1, i, [], N, hf, hg, hs, hq, hc, h0 => fun t ht => by
    unfold fwdF
    refine ⟨hs t ht, fun h => ?_⟩
    have he : ∀ x ∈ a.ed, 0 ≤ x.t ∧ x.t < a.st := fun x hx => ⟨(hw.ev_rng hx).2.2.1, (hw.ev_rng hx).2.2.2.1⟩
    refine h.closed (P := fun t => fl N t = true) h0 (fun x hx hp hxf => ?_)
    rcases hc x.f (hw.ev_rng hx).1 hxf with h1 | h1
    · cases h1
    · exact h1 x (outE_mem.2 ⟨hx, rfl⟩) hp
  | g + 1, i, s :: q, N, hf, hg, hs, hq, hc, h0 => fun t ht => by
    unfold fwdF
    have hsr := hf.rng s (List.mem_cons_self ..)
    obtain ⟨h1, h2, h3⟩ := rowF_spec (perm := perm) hw hn (outE a s) q N (fun x hx => (outE_mem.1 hx).1) hf.nl
    have hpop := hf.pop
    have hfw : FwW n (i + 1) (rowF perm (outE a s) q N).1 (rowF perm (outE a s) q N).2 := rowF_fw hw hn (outE a s) q N (fun x hx => (outE_mem.1 hx).1) hpop
    refine fwdF_spec hw hn g (i + 1) _ _ hfw (by omega) (fun u hu hfu => ?_) (fun u hu => ?_) (fun u hu hfu => ?_) ((h1 0 (Int.le_refl _)).2 (.inl h0)) t ht
    · rcases (h1 u hu).1 hfu with h | ⟨x, hx, hp, rfl⟩
      · exact hs u hu h
      · have hm := outE_mem.1 hx
        exact .step (hs s hsr.1 (hq s (List.mem_cons_self ..))) hm.1 hp hm.2
    · rcases (h2 u).1 hu with h | ⟨_, _, h⟩
      · exact (h1 u (hpop.rng u h).1).2 (.inl (hq u (List.mem_cons_of_mem _ h)))
      · exact h
    · cases hN : fl N u with
      | false => exact .inl ((h2 u).2 (.inr ⟨hu, hN, hfu⟩))
      | true =>
        rcases hc u hu hN with h | h
        · rcases List.mem_cons.1 h with rfl | h
          · exact .inr fun x hx hp => (h1 x.t (hw.ev_rng (outE_mem.1 hx).1).2.2.1).2 (.inr ⟨x, hx, hp, rfl⟩)
          · exact .inl ((h2 u).2 (.inl h))
        · exact .inr fun x hx hp => (h1 x.t (hw.ev_rng (outE_mem.1 hx).1).2.2.1).2 (.inl (h x hx hp))
/-- the states that are reached -/
theorem fwdS_spec (hw : WF a) (h0 : a.st ≠ 0) {t : Int} (ht : 0 ≤ t) : fl (fwdS a [0] perm) t = true ↔ Rc a.ed perm 0 t := by
  obtain ⟨n, hn⟩ : ∃ n : Nat, a.st = (n : Int) := ⟨a.st.toNat, by have := hw.st0; omega⟩
  have hst : a.st.toNat = n := by omega
  unfold fwdS
  rw [hst]
  have hb := FwW.start (n := n) (s := 0) (Int.le_refl _) (by omega)
  have hin : ∀ u, 0 ≤ u → (fl (inF n [0]) u = true ↔ u ∈ [0]) := fun u hu => inF_fl (n := n) (fun s hs => by rw [List.mem_singleton.1 hs]; omega) hu
  refine fwdF_spec hw hn (n + 1) 0 [0] (inF n [0]) hb (by omega) (fun u hu hfu => ?_) (fun u hu => ?_) (fun u hu hfu => .inl ((hin u hu).1 hfu)) ((hin 0 (Int.le_refl _)).2 (by simp)) t ht
  · obtain rfl := List.mem_singleton.1 ((hin u hu).1 hfu)
    exact .refl
  · rw [List.mem_singleton.1 hu]
    exact (hin 0 (Int.le_refl _)).2 (by simp)
end
end Go.Proofs.Ytddhaidimadliaa
namespace Go.Proofs.Ytddhaidimadliaa
open Go

/-- a walk along some edges, with its events -/
inductive Wk (ed : List Ed) (perm : Ed → Bool) (s : Int) : List Int → Int → Prop
  | nil : Wk ed perm s [] s
  | snoc {ws : List Int} {t : Int} {x : Ed} : Wk ed perm s ws t → x ∈ ed → perm x = true → x.f = t → Wk ed perm s (ws ++ [x.e]) x.t
section
variable {ed : List Ed} {perm : Ed → Bool} {s t u : Int} {ws vs : List Int}
theorem Wk.rc (h : Wk ed perm s ws t) : Rc ed perm s t := by
  induction h with
  | nil => exact .refl
  | snoc _ h1 h2 h3 ih => exact .step ih h1 h2 h3
theorem Wk.app (h : Wk ed perm s ws t) (k : Wk ed perm t vs u) : Wk ed perm s (ws ++ vs) u := by
  induction k with
  | nil => rw [List.append_nil]; exact h
  | snoc _ h1 h2 h3 ih => rw [← List.append_assoc]; exact .snoc ih h1 h2 h3
theorem Wk.one {x : Ed} (h1 : x ∈ ed) (h2 : perm x = true) : Wk ed perm x.f [x.e] x.t := .snoc (ws := []) .nil h1 h2 rfl
theorem Wk.mono {p2 : Ed → Bool} (hp : ∀ x ∈ ed, perm x = true → p2 x = true) (h : Wk ed perm s ws t) : Wk ed p2 s ws t := by
  induction h with
  | nil => exact .nil
  | snoc _ h1 h2 h3 ih => exact .snoc ih h1 (hp _ h1 h2) h3
end
/-- the steps of a search: where each comes from, which flags are set, which edges have been taken up -/
structure PtQ (a : Aut) (perm : Ed → Bool) (st : Int) (n i : Nat) (l : List Stp) (N : List Bool) : Prop where
  w : StW n l N
  head : l[0]? = some ⟨st, -1, -1⟩
  par : ∀ (k : Nat) (t : Stp), 0 < k → l[k]? = some t → ∃ (x : Ed) (u : Stp), x ∈ a.ed ∧ perm x = true ∧ x.t = t.s ∧ x.e = t.e ∧ 0 ≤ t.f ∧ t.f.toNat < k ∧ l[t.f.toNat]? = some u ∧ u.s = x.f
  on : ∀ s, 0 ≤ s → (fl N s = true ↔ ∃ t ∈ l, t.s = s)
  clo : ∀ (k : Nat) (t : Stp), k < i → l[k]? = some t → ∀ x ∈ outE a t.s, perm x = true → fl N x.t = true
section
variable {a : Aut} {perm : Ed → Bool} {st : Int} {n i : Nat} {l : List Stp} {N : List Bool}
theorem PtQ.start (h0 : 0 ≤ st) (h1 : st < (n : Int)) : PtQ a perm st n 0 [⟨st, -1, -1⟩] (fset (List.replicate n false) st) := by
  refine ⟨StW.start h0 h1, rfl, fun k t hk ht => ?_, fun s hs => ?_, fun k t hk => by omega⟩
  · obtain ⟨k, rfl⟩ : ∃ j, k = j + 1 := ⟨k - 1, by omega⟩
    simp at ht
  · rw [fl_set (by rw [List.length_replicate]; exact ⟨h0, h1⟩) hs, fl_rep, Bool.or_false, decide_eq_true_eq]
    constructor
    · rintro rfl; exact ⟨_, List.mem_singleton.2 rfl, rfl⟩
    · rintro ⟨t, ht, rfl⟩; rw [List.mem_singleton.1 ht]
/-- one edge is taken up -/
theorem PtQ.push (hw : WF a) (hn : a.st = (n : Int)) (h : PtQ a perm st n i l N) {t : Stp} (ht : l[i]? = some t) {x : Ed} (hx : x ∈ a.ed) (hxf : x.f = t.s) (hp : perm x = true) (hf : fl N x.t = false) : PtQ a perm st n i (l ++ [⟨x.t, i, x.e⟩]) (fset N x.t) := by
  have hg := hw.ev_rng hx
  have hil := (List.getElem?_eq_some_iff.1 ht).1
  have hst : ∀ s, 0 ≤ s → fl (fset N x.t) s = (decide (s = x.t) || fl N s) := fun s hs => fl_set ⟨hg.2.2.1, by rw [h.w.nl]; omega⟩ hs
  refine ⟨h.w.push hil hg.2.2.1 (by omega) hg.2.2.2.2.1 hg.2.2.2.2.2 hf, ?_, fun k u hk hu => ?_, fun s hs => ?_, fun k u hk hu y hy hyp => ?_⟩
  · rw [List.getElem?_append_left (by omega)]; exact h.head
  · by_cases hkl : k < l.length
    · rw [List.getElem?_append_left hkl] at hu
      obtain ⟨y, v, h1, h2, h3, h4, h5, h6, h7, h8⟩ := h.par k u hk hu
      exact ⟨y, v, h1, h2, h3, h4, h5, h6, by rw [List.getElem?_append_left (by omega)]; exact h7, h8⟩
    · rw [List.getElem?_append_right (by omega)] at hu
      obtain ⟨m, hm⟩ : ∃ m, k - l.length = m := ⟨_, rfl⟩
      rw [hm] at hu
      cases m with
      | succ m => simp at hu
      | zero =>
        simp at hu
        subst hu
        exact ⟨x, t, hx, hp, rfl, rfl, by simp, by simp; omega, by simp; rw [List.getElem?_append_left hil]; exact ht, hxf.symm⟩
  · rw [hst s hs, Bool.or_eq_true, decide_eq_true_eq, h.on s hs]
    constructor
    · rintro (rfl | ⟨u, hu, rfl⟩)
      · exact ⟨_, List.mem_append_right _ (List.mem_singleton.2 rfl), rfl⟩
      · exact ⟨u, List.mem_append_left _ hu, rfl⟩
    · rintro ⟨u, hu, rfl⟩
      rcases List.mem_append.1 hu with hu | hu
      · exact .inr ⟨u, hu, rfl⟩
      · rw [List.mem_singleton.1 hu]; exact .inl rfl
  · rw [List.getElem?_append_left (by omega)] at hu
    have := h.clo k u hk hu y hy hyp
    rw [hst _ (hw.ev_rng (outE_mem.1 hy).1).2.2.1, this, Bool.or_true]
theorem PtQ.row (hw : WF a) (hn : a.st = (n : Int)) {t : Stp} : ∀ (r : List Ed) (l : List Stp) (N : List Bool), (∀ x ∈ r, x ∈ outE a t.s) → l[i]? = some t → PtQ a perm st n i l N →
    PtQ a perm st n i (rowS perm i r l N).1 (rowS perm i r l N).2 ∧ (rowS perm i r l N).1[i]? = some t ∧ (∀ s, 0 ≤ s → fl N s = true → fl (rowS perm i r l N).2 s = true) ∧ ∀ x ∈ r, perm x = true → fl (rowS perm i r l N).2 x.t = true
  | [], _, _, _, ht, h => ⟨h, ht, fun _ _ h => h, fun x hx => by cases hx⟩
  | x :: r, l, N, hr, ht, h => by
    have hx := outE_mem.1 (hr x (List.mem_cons_self ..))
    have hrr := fun y hy => hr y (List.mem_cons_of_mem x hy)
    have hg := hw.ev_rng hx.1
    by_cases hc : fl N x.t = false ∧ perm x = true
    · rw [rowS_pos hc]
      have hst : ∀ s, 0 ≤ s → fl (fset N x.t) s = (decide (s = x.t) || fl N s) := fun s hs => fl_set ⟨hg.2.2.1, by rw [h.w.nl]; omega⟩ hs
      obtain ⟨h1, h2, h3, h4⟩ := PtQ.row hw hn r _ _ hrr (by rw [List.getElem?_append_left (List.getElem?_eq_some_iff.1 ht).1]; exact ht) (h.push hw hn ht hx.1 hx.2 hc.2 hc.1)
      refine ⟨h1, h2, fun s hs hf => h3 s hs (by rw [hst s hs, hf, Bool.or_true]), fun y hy hp => ?_⟩
      rcases List.mem_cons.1 hy with rfl | hy
      · exact h3 _ hg.2.2.1 (by rw [hst _ hg.2.2.1]; simp)
      · exact h4 y hy hp
    · rw [rowS_neg hc]
      obtain ⟨h1, h2, h3, h4⟩ := PtQ.row hw hn r l N hrr ht h
      refine ⟨h1, h2, h3, fun y hy hp => ?_⟩
      rcases List.mem_cons.1 hy with rfl | hy
      · refine h3 _ hg.2.2.1 ?_
        cases hf : fl N y.t with
        | true => rfl
        | false => exact absurd ⟨hf, hp⟩ hc
      · exact h4 y hy hp
theorem rowS_pre {perm : Ed → Bool} {i k : Nat} {u : Stp} : ∀ (r : List Ed) (l : List Stp) (N : List Bool), l[k]? = some u → (rowS perm i r l N).1[k]? = some u
  | [], _, _, h => h
  | x :: r, l, N, h => by
    by_cases hc : fl N x.t = false ∧ perm x = true
    · rw [rowS_pos hc]; exact rowS_pre r _ _ (by rw [List.getElem?_append_left (List.getElem?_eq_some_iff.1 h).1]; exact h)
    · rw [rowS_neg hc]; exact rowS_pre r _ _ h
/-- the way back, turned round, is a walk to the step -/
theorem PtQ.walk (h : PtQ a perm st n i l N) : ∀ (g k : Nat) (t : Stp), k < g → l[k]? = some t → Wk a.ed perm st (bckS l g k).reverse t.s
  | 0, k, t, hk, _ => by omega
  | g + 1, k, t, hk, ht => by
    unfold bckS
    rw [Int.toNat_natCast, ht]
    simp only
    by_cases h0 : k = 0
    · subst h0
      rw [h.head] at ht
      injection ht with ht
      subst ht
      rw [if_pos (by show (-1 : Int) < 0; omega)]
      exact .nil
    · obtain ⟨x, u, h1, h2, h3, h4, h5, h6, h7, h8⟩ := h.par k t (by omega) ht
      rw [if_neg (by omega), List.reverse_cons, ← h3, ← h4]
      have hw := PtQ.walk h g t.f.toNat u (by omega) h7
      rw [show ((t.f.toNat : Nat) : Int) = t.f by omega] at hw
      exact .snoc hw h1 h2 h8.symm
theorem pthF_spec (hw : WF a) (hn : a.st = (n : Int)) {want : Int → Bool} : ∀ (g i : Nat) (l : List Stp) (N : List Bool), PtQ a perm st n i l N → n + 1 ≤ g + i → i ≤ l.length → (∀ (k : Nat) (t : Stp), k < i → l[k]? = some t → want t.s = false) →
    match pthF a want perm g i l N with
    | some ws => ∃ u, want u = true ∧ Wk a.ed perm st ws u
    | none => ∀ u, Rc a.ed perm st u → want u = false
  | 0, i, l, N, h, hg, hi, _ => by
    have := h.w.num
    omega
  | g + 1, i, l, N, h, hg, hi, hno => by
    unfold pthF
    cases ht : l[i]? with
    | none =>
      simp only
      have hil : l.length = i := by have := List.getElem?_eq_none_iff.1 ht; omega
      intro u hu
      have hfl : ∀ u, Rc a.ed perm st u → 0 ≤ u ∧ fl N u = true := fun u hu => by
        have hs0 : 0 ≤ st ∧ st < (n : Int) := h.w.rng _ (List.mem_of_getElem? h.head)
        refine hu.closed (P := fun u => 0 ≤ u ∧ fl N u = true) ⟨hs0.1, (h.on st hs0.1).2 ⟨_, List.mem_of_getElem? h.head, rfl⟩⟩ (fun x hx hp hxf => ⟨(hw.ev_rng hx).2.2.1, ?_⟩)
        obtain ⟨t, htm, hts⟩ := (h.on x.f hxf.1).1 hxf.2
        obtain ⟨k, hk⟩ := List.getElem?_of_mem htm
        exact h.clo k t (by have := (List.getElem?_eq_some_iff.1 hk).1; omega) hk x (outE_mem.2 ⟨hx, hts.symm⟩) hp
      obtain ⟨h0, h1⟩ := hfl u hu
      obtain ⟨t, htm, hts⟩ := (h.on u h0).1 h1
      obtain ⟨k, hk⟩ := List.getElem?_of_mem htm
      rw [← hts]
      exact hno k t (by have := (List.getElem?_eq_some_iff.1 hk).1; omega) hk
    | some t =>
      simp only
      by_cases hq : want t.s = true
      · rw [if_pos hq]
        exact ⟨t.s, hq, h.walk l.length i t (List.getElem?_eq_some_iff.1 ht).1 ht⟩
      · rw [if_neg hq]
        obtain ⟨h1, h2, h3, h4⟩ := PtQ.row hw hn (t := t) (outE a t.s) l N (fun _ hx => hx) ht h
        have hpre : ∀ k u, k ≤ i → l[k]? = some u → (rowS perm i (outE a t.s) l N).1[k]? = some u := fun k u hk hu => rowS_pre _ _ _ hu
        have hno2 : ∀ (k : Nat) (u : Stp), k < i + 1 → (rowS perm i (outE a t.s) l N).1[k]? = some u → want u.s = false := fun k u hk hu => by
          have hkl : k < l.length := by have := (List.getElem?_eq_some_iff.1 ht).1; omega
          have hu2 := hpre k l[k] (by omega) (List.getElem?_eq_getElem hkl)
          rw [hu] at hu2
          injection hu2 with hu2
          subst hu2
          by_cases hki : k = i
          · subst hki
            rw [List.getElem?_eq_getElem hkl] at ht
            injection ht with ht
            rw [ht]
            simpa using hq
          · exact hno k _ (by omega) (List.getElem?_eq_getElem hkl)
        refine pthF_spec hw hn g (i + 1) _ _ ⟨h1.w, h1.head, h1.par, h1.on, fun k u hk hu y hy hyp => ?_⟩ (by omega) (by have := (List.getElem?_eq_some_iff.1 h2).1; omega) hno2
        by_cases hki : k = i
        · subst hki
          rw [h2] at hu
          injection hu with hu
          subst hu
          exact h4 y hy hyp
        · exact h1.clo k u (by omega) hu y hy hyp
theorem pathS_spec (hw : WF a) {want : Int → Bool} (h0 : 0 ≤ st) (h1 : st < a.st) :
    match pathS a st want perm with
    | some ws => ∃ u, want u = true ∧ Wk a.ed perm st ws u
    | none => ∀ u, Rc a.ed perm st u → want u = false := by
  obtain ⟨n, hn⟩ : ∃ n : Nat, a.st = (n : Int) := ⟨a.st.toNat, by omega⟩
  have hst : a.st.toNat = n := by omega
  unfold pathS
  rw [hst]
  exact pthF_spec hw hn (n + 1) 0 _ _ (PtQ.start h0 (by omega)) (by omega) (Nat.zero_le _) (fun k t hk => by omega)
end
end Go.Proofs.Ytddhaidimadliaa

/- Plain: rounds and cycles (chapter 41). -/
namespace Go.Proofs.Ytddhaidimadliaa
open Go

section
variable {a : Aut} {perm : Ed → Bool} {s : Int}
/-- an edge of a round, with what the round has so far -/
theorem rndX_spec (hw : WF a) (h0 : 0 ≤ s) (h1 : s < a.st) {c : List Int × Bool} {x : Ed} (hx : x ∈ outE a s) (hc : c.2 = true → c.1 ≠ [] ∧ Wk a.ed perm s c.1 s) :
    ((rndX a s perm c x).2 = true ↔ c.2 = true ∨ (perm x = true ∧ Rc a.ed perm x.t s)) ∧ ((rndX a s perm c x).2 = true → (rndX a s perm c x).1 ≠ [] ∧ Wk a.ed perm s (rndX a s perm c x).1 s) := by
  have hm := outE_mem.1 hx
  have hg := hw.ev_rng hm.1
  unfold rndX
  by_cases hp : perm x = true
  · rw [if_pos hp]
    have hs := pathS_spec (perm := perm) (want := fun t => t == s) hw hg.2.2.1 hg.2.2.2.1
    cases hr : pathS a x.t (fun t => t == s) perm with
    | none =>
      rw [hr] at hs
      simp only at hs ⊢
      refine ⟨⟨.inl, fun h => h.elim id (fun h => ?_)⟩, hc⟩
      have := hs s h.2
      simp at this
    | some ws =>
      rw [hr] at hs
      simp only at hs ⊢
      obtain ⟨u, hu, hwk⟩ := hs
      obtain rfl : u = s := by simpa using hu
      have hone := Wk.one hm.1 hp
      rw [hm.2] at hone
      have hall := hone.app hwk
      by_cases hq : c.2 = false ∨ ws.length + 1 < c.1.length
      · rw [if_pos hq]
        exact ⟨⟨fun _ => .inr ⟨hp, hwk.rc⟩, fun _ => rfl⟩, fun _ => ⟨by simp, hall⟩⟩
      · rw [if_neg hq]
        have hc2 : c.2 = true := by cases h : c.2 with | true => rfl | false => exact absurd (.inl h) hq
        exact ⟨⟨fun _ => .inl hc2, fun _ => hc2⟩, hc⟩
  · rw [if_neg hp]
    exact ⟨⟨.inl, fun h => h.elim id (fun h => absurd h.1 hp)⟩, hc⟩
theorem rndL_spec (hw : WF a) (h0 : 0 ≤ s) (h1 : s < a.st) : ∀ (l : List Ed) (c : List Int × Bool), (∀ x ∈ l, x ∈ outE a s) → (c.2 = true → c.1 ≠ [] ∧ Wk a.ed perm s c.1 s) →
    ((l.foldl (rndX a s perm) c).2 = true ↔ c.2 = true ∨ ∃ x ∈ l, perm x = true ∧ Rc a.ed perm x.t s) ∧ ((l.foldl (rndX a s perm) c).2 = true → (l.foldl (rndX a s perm) c).1 ≠ [] ∧ Wk a.ed perm s (l.foldl (rndX a s perm) c).1 s)
  | [], c, _, hc => ⟨⟨.inl, fun h => h.elim id (fun ⟨x, hx, _⟩ => by cases hx)⟩, hc⟩
  | x :: l, c, hl, hc => by
    obtain ⟨h2, h3⟩ := rndX_spec hw h0 h1 (hl x (List.mem_cons_self ..)) hc
    obtain ⟨h4, h5⟩ := rndL_spec hw h0 h1 l _ (fun y hy => hl y (List.mem_cons_of_mem _ hy)) h3
    refine ⟨?_, h5⟩
    rw [List.foldl_cons, h4, h2]
    constructor
    · rintro ((h | h) | ⟨y, hy, h⟩)
      · exact .inl h
      · exact .inr ⟨x, List.mem_cons_self .., h⟩
      · exact .inr ⟨y, List.mem_cons_of_mem _ hy, h⟩
    · rintro (h | ⟨y, hy, h⟩)
      · exact .inl (.inl h)
      · rcases List.mem_cons.1 hy with rfl | hy
        · exact .inl (.inr h)
        · exact .inr ⟨y, hy, h⟩
/-- a round is found where there is one, and is one -/
theorem rndF_spec (hw : WF a) (h0 : 0 ≤ s) (h1 : s < a.st) : ((rndF a s perm).2 = true ↔ ∃ x ∈ outE a s, perm x = true ∧ Rc a.ed perm x.t s) ∧ ((rndF a s perm).2 = true → (rndF a s perm).1 ≠ [] ∧ Wk a.ed perm s (rndF a s perm).1 s) := by
  obtain ⟨h2, h3⟩ := rndL_spec (perm := perm) hw h0 h1 (outE a s) ([], false) (fun _ h => h) (fun h => by cases h)
  refine ⟨?_, h3⟩
  unfold rndF
  rw [h2]
  exact ⟨fun h => h.elim (fun h => by cases h) id, .inr⟩
/-- a state has a round -/
def OnC (ed : List Ed) (perm : Ed → Bool) (s : Int) : Prop := ∃ x ∈ ed, x.f = s ∧ perm x = true ∧ Rc ed perm x.t s
theorem rndF_on (hw : WF a) (h0 : 0 ≤ s) (h1 : s < a.st) : (rndF a s perm).2 = true ↔ OnC a.ed perm s := by
  rw [(rndF_spec hw h0 h1).1]
  constructor
  · rintro ⟨x, hx, h⟩; exact ⟨x, (outE_mem.1 hx).1, (outE_mem.1 hx).2, h⟩
  · rintro ⟨x, hx, hf, h⟩; exact ⟨x, outE_mem.2 ⟨hx, hf⟩, h⟩
theorem cycG_spec (hw : WF a) (hz : a.st ≠ 0) : ∀ (g s : Nat), (g : Int) + s = a.st →
    ((cycG a perm (fwdS a [0] fun _ => true) g s).2 = true ↔ ∃ t : Int, (s : Int) ≤ t ∧ t < a.st ∧ Rc a.ed (fun _ => true) 0 t ∧ OnC a.ed perm t) ∧
    ((cycG a perm (fwdS a [0] fun _ => true) g s).2 = true → ∃ t, Wk a.ed (fun _ => true) 0 (cycG a perm (fwdS a [0] fun _ => true) g s).1.1 t ∧ (cycG a perm (fwdS a [0] fun _ => true) g s).1.2 ≠ [] ∧ Wk a.ed perm t (cycG a perm (fwdS a [0] fun _ => true) g s).1.2 t)
  | 0, s, hg => ⟨⟨(fun h => by cases h), fun ⟨t, h1, h2, _⟩ => by omega⟩, fun h => by cases h⟩
  | g + 1, s, hg => by
    have hs0 : (0 : Int) ≤ s := by omega
    have hs1 : (s : Int) < a.st := by omega
    have hfl := fwdS_spec (perm := fun _ => true) hw hz hs0
    have hon := rndF_on (perm := perm) hw hs0 hs1
    unfold cycG
    by_cases hc : fl (fwdS a [0] fun _ => true) (s : Int) = true ∧ (rndF a (s : Int) perm).2 = true
    · rw [if_pos hc]
      refine ⟨⟨fun _ => ⟨s, Int.le_refl _, hs1, hfl.1 hc.1, hon.1 hc.2⟩, fun _ => rfl⟩, fun _ => ⟨s, ?_, ((rndF_spec hw hs0 hs1).2 hc.2).1, ((rndF_spec hw hs0 hs1).2 hc.2).2⟩⟩
      have hp := pathS_spec (perm := fun _ => true) (want := fun t => t == (s : Int)) hw (Int.le_refl 0) (by have := hw.st0; omega)
      cases hr : pathS a 0 (fun t => t == (s : Int)) (fun _ => true) with
      | none =>
        rw [hr] at hp
        have := hp s (hfl.1 hc.1)
        simp at this
      | some ws =>
        rw [hr] at hp
        obtain ⟨u, hu, hwk⟩ := hp
        obtain rfl : u = (s : Int) := by simpa using hu
        exact hwk
    · rw [if_neg hc]
      obtain ⟨h1, h2⟩ := cycG_spec hw hz g (s + 1) (by omega)
      refine ⟨?_, h2⟩
      rw [h1]
      constructor
      · rintro ⟨t, h3, h4⟩; exact ⟨t, by omega, h4⟩
      · rintro ⟨t, h3, h4, h5, h6⟩
        by_cases he : t = (s : Int)
        · subst he; exact absurd ⟨hfl.2 h5, hon.2 h6⟩ hc
        · exact ⟨t, by omega, h4, h5, h6⟩
/-- what Cycle finds -/
theorem cycF_spec (hw : WF a) {evs : List Int} (hr : ∀ v ∈ evs, 0 ≤ v ∧ v < 32) :
    ((cycF a evs).2 = true ↔ ∃ t, Rc a.ed (fun _ => true) 0 t ∧ 0 < a.st ∧ OnC a.ed (fun x => hasB evs x.e) t) ∧
    ((cycF a evs).2 = true → ∃ t, Wk a.ed (fun _ => true) 0 (cycF a evs).1.1 t ∧ (cycF a evs).1.2 ≠ [] ∧ Wk a.ed (fun x => hasB evs x.e) t (cycF a evs).1.2 t) := by
  have hpe : ∀ x ∈ a.ed, prmE evs x = hasB evs x.e := fun x hx => by
    unfold prmE
    rw [Bool.eq_iff_iff, inF_fl (n := 32) hr (hw.ev_rng hx).2.2.2.2.1, hasB_mem]
  have h0 := hw.st0
  unfold cycF
  by_cases hz : a.st = 0
  · rw [hz]
    exact ⟨⟨(fun h => by cases h), fun ⟨t, _, h, _⟩ => by omega⟩, fun h => by cases h⟩
  · obtain ⟨h1, h2⟩ := cycG_spec (perm := prmE evs) hw hz a.st.toNat 0 (by omega)
    refine ⟨?_, fun h => ?_⟩
    · rw [h1]
      constructor
      · rintro ⟨t, _, _, h3, x, hx, hf, hp, hrc⟩
        exact ⟨t, h3, by omega, x, hx, hf, (hpe x hx).symm.trans hp, hrc.mono fun y hy h => (hpe y hy).symm.trans h⟩
      · rintro ⟨t, h3, _, x, hx, hf, hp, hrc⟩
        have hrg := h3.rng (n := a.st) (fun y hy => ⟨(hw.ev_rng hy).2.2.1, (hw.ev_rng hy).2.2.2.1⟩) ⟨Int.le_refl 0, by omega⟩
        exact ⟨t, by simpa using hrg.1, hrg.2, h3, x, hx, hf, (hpe x hx).trans hp, hrc.mono fun y hy h => (hpe y hy).trans h⟩
    · obtain ⟨t, h3, h4, h5⟩ := h2 h
      exact ⟨t, h3, h4, h5.mono fun y hy h => (hpe y hy).symm.trans h⟩
/-- walks are runs -/
theorem Wk.run (hw : WF a) {ws : List Int} {t : Int} (h : Wk a.ed perm s ws t) : goS (stA a) s ws = some t := by
  induction h with
  | nil => rfl
  | @snoc ws t x _ h1 _ h3 ih =>
    rw [goS_app, ih]
    show goS (stA a) t [x.e] = some x.t
    have := stA_some.2 ((nxt_ed hw).1 (show (⟨t, x.e, x.t⟩ : Ed) ∈ a.ed by rw [← h3]; exact h1))
    unfold goS
    rw [this]
    rfl
end
end Go.Proofs.Ytddhaidimadliaa

/- Plain: which nodes of a graph lie on a circle: the law's circles (chapter 41). -/
namespace Go.Proofs.Ytddhaidimadliaa
open Go

/-- a table of flags -/
abbrev Mat := List (List Bool)
def gM (M : Mat) (i j : Nat) : Bool := (M.getD i []).getD j false
def sM (M : Mat) (i j : Nat) (b : Bool) : Mat := M.set i ((M.getD i []).set j b)
/-- n rows of n flags -/
def Sq (n : Nat) (M : Mat) : Prop := M.length = n ∧ ∀ r ∈ M, r.length = n
theorem Sq.row {n i : Nat} {M : Mat} (h : Sq n M) (hi : i < n) : (M.getD i []).length = n := by
  have hl : i < M.length := by rw [h.1]; exact hi
  rw [List.getD_eq_getElem?_getD, List.getElem?_eq_getElem hl]
  exact h.2 _ (List.getElem_mem hl)
theorem Sq.set {n i j : Nat} {M : Mat} (h : Sq n M) (hi : i < n) (b : Bool) : Sq n (sM M i j b) := by
  refine ⟨by unfold sM; rw [List.length_set]; exact h.1, fun r hr => ?_⟩
  unfold sM at hr
  rcases List.mem_or_eq_of_mem_set hr with hr | rfl
  · exact h.2 r hr
  · rw [List.length_set]; exact h.row hi
theorem gM_set {n i j k m : Nat} {M : Mat} (h : Sq n M) (hi : i < n) (hj : j < n) (b : Bool) : gM (sM M i j b) k m = if k = i ∧ m = j then b else gM M k m := by
  have hl : i < M.length := by rw [h.1]; exact hi
  have hr := h.row hi
  unfold gM sM
  rw [List.getD_eq_getElem?_getD (l := M.set _ _), List.getElem?_set]
  by_cases hk : i = k
  · subst hk
    rw [if_pos rfl, if_pos hl, Option.getD_some, List.getD_eq_getElem?_getD (l := List.set _ _ _), List.getElem?_set]
    by_cases hm : j = m
    · subst hm; rw [if_pos rfl, if_pos (by omega), if_pos ⟨rfl, rfl⟩]; rfl
    · rw [if_neg hm, if_neg (by rintro ⟨_, h⟩; exact hm h.symm), ← List.getD_eq_getElem?_getD]
  · rw [if_neg hk, if_neg (by rintro ⟨h, _⟩; exact hk h.symm), ← List.getD_eq_getElem?_getD]
/-- walks whose inner nodes are below k -/
inductive Pw (E : List (Nat × Nat)) (k : Nat) : Nat → Nat → Prop
  | one {i j : Nat} : (i, j) ∈ E → Pw E k i j
  | cat {i m j : Nat} : Pw E k i m → m < k → Pw E k m j → Pw E k i j
section
variable {E : List (Nat × Nat)} {n k i j m : Nat}
theorem Pw.up (h : Pw E k i j) : Pw E (k + 1) i j := by
  induction h with
  | one h => exact .one h
  | cat _ hm _ ih1 ih2 => exact .cat ih1 (by omega) ih2
theorem Pw.down (h : Pw E (k + 1) i j) : Pw E k i j ∨ (Pw E k i k ∧ Pw E k k j) := by
  induction h with
  | one h => exact .inl (.one h)
  | @cat i m j _ hm _ ih1 ih2 =>
    by_cases hk : m = k
    · subst hk
      rcases ih1 with h1 | h1 <;> rcases ih2 with h2 | h2
      · exact .inr ⟨h1, h2⟩
      · exact .inr ⟨h1, h2.2⟩
      · exact .inr ⟨h1.1, h2⟩
      · exact .inr ⟨h1.1, h2.2⟩
    · have hm' : m < k := by omega
      rcases ih1 with h1 | h1 <;> rcases ih2 with h2 | h2
      · exact .inl (.cat h1 hm' h2)
      · exact .inr ⟨.cat h1 hm' h2.1, h2.2⟩
      · exact .inr ⟨h1.1, .cat h1.2 hm' h2⟩
      · exact .inr ⟨h1.1, h2.2⟩
theorem Pw.none (h : Pw E 0 i j) : (i, j) ∈ E := by
  induction h with
  | one h => exact h
  | cat _ hm _ _ _ => omega
theorem Pw.rng (hE : ∀ p ∈ E, p.1 < n ∧ p.2 < n) (h : Pw E k i j) : i < n ∧ j < n := by
  induction h with
  | one h => exact hE _ h
  | cat _ _ _ ih1 ih2 => exact ⟨ih1.1, ih2.2⟩
end
/-- the arcs are entered -/
def arcM (E : List (Nat × Nat)) (M : Mat) : Mat := E.foldl (fun M p => sM M p.1 p.2 true) M
/-- one entry of a round -/
def cirE (k i : Nat) (M : Mat) (j : Nat) : Mat := sM M i j (gM M i j || gM M i k && gM M k j)
def cirJ (k i : Nat) (M : Mat) (l : List Nat) : Mat := l.foldl (cirE k i) M
def cirI (k n : Nat) (M : Mat) (l : List Nat) : Mat := l.foldl (fun M i => cirJ k i M (List.range n)) M
def cirK (n : Nat) (M : Mat) (l : List Nat) : Mat := l.foldl (fun M k => cirI k n M (List.range n)) M
/-- the law's circles -/
def cirF (n : Nat) (E : List (Nat × Nat)) : List Bool := (List.range n).map fun i => gM (cirK n (arcM E (List.replicate n (List.replicate n false))) (List.range n)) i i
section
variable {E : List (Nat × Nat)} {n k i : Nat} {M : Mat}
theorem sq_zero (n : Nat) : Sq n (List.replicate n (List.replicate n false)) := ⟨List.length_replicate, fun r hr => by rw [List.eq_of_mem_replicate hr, List.length_replicate]⟩
theorem gM_zero (n i j : Nat) : gM (List.replicate n (List.replicate n false)) i j = false := by
  unfold gM
  rw [List.getD_eq_getElem?_getD, List.getD_eq_getElem?_getD, List.getElem?_replicate]
  by_cases h : i < n
  · rw [if_pos h, Option.getD_some, List.getElem?_replicate]
    by_cases h2 : j < n
    · rw [if_pos h2]; rfl
    · rw [if_neg h2]; rfl
  · rw [if_neg h]; rfl
theorem arcM_spec : ∀ (E : List (Nat × Nat)) (M : Mat), (∀ p ∈ E, p.1 < n ∧ p.2 < n) → Sq n M → Sq n (arcM E M) ∧ ∀ i j, gM (arcM E M) i j = true ↔ gM M i j = true ∨ (i, j) ∈ E
  | [], M, _, hM => ⟨hM, fun i j => ⟨.inl, fun h => h.elim id (fun h => by cases h)⟩⟩
  | (a, b) :: E, M, hE, hM => by
    have hp := hE (a, b) (List.mem_cons_self ..)
    obtain ⟨h1, h2⟩ := arcM_spec E (sM M a b true) (fun p hp => hE p (List.mem_cons_of_mem _ hp)) (hM.set hp.1 true)
    refine ⟨h1, fun i j => ?_⟩
    show gM (arcM E (sM M a b true)) i j = true ↔ _
    rw [h2, gM_set hM hp.1 hp.2]
    by_cases he : i = a ∧ j = b
    · rw [if_pos he]
      obtain ⟨rfl, rfl⟩ := he
      exact ⟨fun _ => .inr (List.mem_cons_self ..), fun _ => .inl rfl⟩
    · rw [if_neg he]
      constructor
      · rintro (h | h)
        · exact .inl h
        · exact .inr (List.mem_cons_of_mem _ h)
      · rintro (h | h)
        · exact .inl h
        · rcases List.mem_cons.1 h with h | h
          · injection h with h3 h4
            exact absurd ⟨h3, h4⟩ he
          · exact .inr h
/-- what a table holds, and that it only grows -/
structure CirG (E : List (Nat × Nat)) (n : Nat) (M0 M : Mat) : Prop where
  sq : Sq n M
  snd : ∀ i j, gM M i j = true → Pw E n i j
  up : ∀ i j, gM M0 i j = true → gM M i j = true
theorem CirG.refl (h : Sq n M) (hs : ∀ i j, gM M i j = true → Pw E n i j) : CirG E n M M := ⟨h, hs, fun _ _ h => h⟩
theorem CirG.e {M0 : Mat} (h : CirG E n M0 M) (hk : k < n) (hi : i < n) {j : Nat} (hj : j < n) : CirG E n M0 (cirE k i M j) ∧ (gM M0 i k = true → gM M0 k j = true → gM (cirE k i M j) i j = true) ∧ ∀ a b, gM M a b = true → gM (cirE k i M j) a b = true := by
  have hs : ∀ a b, gM (cirE k i M j) a b = if a = i ∧ b = j then (gM M i j || gM M i k && gM M k j) else gM M a b := fun a b => gM_set h.sq hi hj _
  have hup : ∀ a b, gM M a b = true → gM (cirE k i M j) a b = true := fun a b hab => by
    rw [hs]
    by_cases he : a = i ∧ b = j
    · rw [if_pos he]; obtain ⟨rfl, rfl⟩ := he; rw [hab]; rfl
    · rw [if_neg he]; exact hab
  refine ⟨⟨h.sq.set hi _, fun a b hab => ?_, fun a b hab => hup a b (h.up a b hab)⟩, fun h1 h2 => ?_, hup⟩
  · rw [hs] at hab
    by_cases he : a = i ∧ b = j
    · rw [if_pos he] at hab
      obtain ⟨rfl, rfl⟩ := he
      rw [Bool.or_eq_true, Bool.and_eq_true] at hab
      rcases hab with hab | ⟨h1, h2⟩
      · exact h.snd _ _ hab
      · exact .cat (h.snd _ _ h1) hk (h.snd _ _ h2)
    · rw [if_neg he] at hab; exact h.snd _ _ hab
  · rw [hs, if_pos ⟨rfl, rfl⟩, h.up _ _ h1, h.up _ _ h2]; simp
theorem CirG.cols {M0 : Mat} (hk : k < n) (hi : i < n) : ∀ (l : List Nat) {M : Mat}, (∀ j ∈ l, j < n) → CirG E n M0 M →
    CirG E n M0 (cirJ k i M l) ∧ (∀ j ∈ l, gM M0 i k = true → gM M0 k j = true → gM (cirJ k i M l) i j = true) ∧ ∀ a b, gM M a b = true → gM (cirJ k i M l) a b = true
  | [], _, _, h => ⟨h, (fun j hj => by cases hj), fun _ _ h => h⟩
  | j :: l, M, hl, h => by
    obtain ⟨h1, h2, h3⟩ := h.e hk hi (hl j (List.mem_cons_self ..))
    obtain ⟨h4, h5, h6⟩ := CirG.cols hk hi l (fun x hx => hl x (List.mem_cons_of_mem _ hx)) h1
    refine ⟨h4, fun x hx ha hb => ?_, fun a b hab => h6 a b (h3 a b hab)⟩
    rcases List.mem_cons.1 hx with rfl | hx
    · exact h6 _ _ (h2 ha hb)
    · exact h5 x hx ha hb
theorem CirG.rows {M0 : Mat} (hk : k < n) : ∀ (l : List Nat) {M : Mat}, (∀ i ∈ l, i < n) → CirG E n M0 M →
    CirG E n M0 (cirI k n M l) ∧ (∀ i ∈ l, ∀ j, j < n → gM M0 i k = true → gM M0 k j = true → gM (cirI k n M l) i j = true) ∧ ∀ a b, gM M a b = true → gM (cirI k n M l) a b = true
  | [], _, _, h => ⟨h, (fun j hj => by cases hj), fun _ _ h => h⟩
  | i :: l, M, hl, h => by
    obtain ⟨h1, h2, h3⟩ := CirG.cols hk (hl i (List.mem_cons_self ..)) (List.range n) (fun j hj => List.mem_range.1 hj) h
    obtain ⟨h4, h5, h6⟩ := CirG.rows hk l (fun x hx => hl x (List.mem_cons_of_mem _ hx)) h1
    refine ⟨h4, fun x hx j hj ha hb => ?_, fun a b hab => h6 a b (h3 a b hab)⟩
    rcases List.mem_cons.1 hx with rfl | hx
    · exact h6 _ _ (h2 j (List.mem_range.2 hj) ha hb)
    · exact h5 x hx j hj ha hb
/-- after k rounds -/
theorem cirK_spec (hE : ∀ p ∈ E, p.1 < n ∧ p.2 < n) : ∀ (d k : Nat) (M : Mat), k + d ≤ n → Sq n M → (∀ i j, gM M i j = true → Pw E n i j) → (∀ i j, Pw E k i j → gM M i j = true) →
    ∀ i j, gM (cirK n M (List.range' k d)) i j = true ↔ (gM (cirK n M (List.range' k d)) i j = true ∧ Pw E n i j) ∨ Pw E (k + d) i j
  | 0, k, M, _, _, hs, hc, i, j => ⟨fun h => .inl ⟨h, hs i j h⟩, fun h => h.elim (fun h => h.1) (hc i j)⟩
  | d + 1, k, M, hd, hq, hs, hc, i, j => by
    obtain ⟨h1, h2, h3⟩ := CirG.rows (E := E) (k := k) (n := n) (by omega) (List.range n) (fun j hj => List.mem_range.1 hj) (CirG.refl hq hs)
    have h4 := cirK_spec hE d (k + 1) (cirI k n M (List.range n)) (by omega) h1.sq h1.snd (fun a b hab => by
      rcases hab.down with h | ⟨h5, h6⟩
      · exact h3 a b (hc a b h)
      · exact h2 a (List.mem_range.2 (hab.rng hE).1) b (hab.rng hE).2 (hc _ _ h5) (hc _ _ h6)) i j
    rw [show k + (d + 1) = k + 1 + d by omega]
    exact h4
theorem cirF_spec (hE : ∀ p ∈ E, p.1 < n ∧ p.2 < n) (hi : i < n) : (cirF n E)[i]? = some true ↔ Pw E n i i := by
  obtain ⟨h1, h2⟩ := arcM_spec (n := n) E _ hE (sq_zero n)
  have hs : ∀ a b, gM (arcM E (List.replicate n (List.replicate n false))) a b = true → Pw E n a b := fun a b h => by
    rcases (h2 a b).1 h with h | h
    · rw [gM_zero] at h; cases h
    · exact .one h
  have h := cirK_spec hE n 0 _ (by omega) h1 hs (fun a b h => (h2 a b).2 (.inr h.none)) i i
  unfold cirF
  rw [List.getElem?_map, List.getElem?_range hi, Option.map_some, List.range_eq_range']
  rw [Nat.zero_add] at h
  constructor
  · intro he
    injection he with he
    rcases h.1 he with h | h
    · exact h.2
    · exact h
  · intro hp
    rw [h.2 (.inr hp)]
end
end Go.Proofs.Ytddhaidimadliaa

/- Plain: ranks in a graph, by a search in depth (chapter 41). -/
namespace Go.Proofs.Ytddhaidimadliaa
open Go

def gI (l : List Int) (i : Int) : Int := l.getD i.toNat 0
theorem gI_set {l : List Int} {i j v : Int} (h0 : 0 ≤ i) (h1 : i < (l.length : Int)) (hj : 0 ≤ j) : gI (l.set i.toNat v) j = if j = i then v else gI l j := by
  unfold gI
  rw [List.getD_eq_getElem?_getD, List.getElem?_set]
  by_cases h : j = i
  · subst h; rw [if_pos rfl, if_pos (by omega), if_pos rfl]; rfl
  · rw [if_neg (by omega), if_neg h, List.getD_eq_getElem?_getD]
/-- the edges that leave a node -/
def outL (es : List Ed) (i : Int) : List Ed := es.filter fun x => decide (x.f = i)
theorem outL_mem {es : List Ed} {i : Int} {x : Ed} : x ∈ outL es i ↔ x ∈ es ∧ x.f = i := by unfold outL; simp
abbrev anyE : Ed → Bool := fun _ => true
/-- the value of a node, from those behind it -/
def rkV (w : Ed → Int) (ρ : Int → Int) (l : List Ed) : Int := l.foldl (fun m x => max m (ρ x.t + w x)) 0
theorem rkV_snoc (w : Ed → Int) (ρ : Int → Int) (l : List Ed) (x : Ed) : rkV w ρ (l ++ [x]) = max (rkV w ρ l) (ρ x.t + w x) := by unfold rkV; rw [List.foldl_append]; rfl
theorem foldl_same {α β : Type} {f g : β → α → β} : ∀ (l : List α) (b : β), (∀ x ∈ l, ∀ b, f b x = g b x) → l.foldl f b = l.foldl g b
  | [], _, _ => rfl
  | x :: l, b, h => by rw [List.foldl_cons, List.foldl_cons, h x (List.mem_cons_self ..)]; exact foldl_same l _ (fun y hy => h y (List.mem_cons_of_mem _ hy))
theorem rkV_same {w : Ed → Int} {ρ ρ' : Int → Int} {l : List Ed} (h : ∀ x ∈ l, ρ x.t = ρ' x.t) : rkV w ρ l = rkV w ρ' l := foldl_same _ _ fun x hx b => by rw [h x hx]
/-- a node's rank: the greatest weight of a walk from it, where all walks from it end -/
inductive Rkd (es : List Ed) (w : Ed → Int) : Int → Int → Prop
  | mk {i v : Int} (ρ : Int → Int) : (∀ x ∈ es, x.f = i → Rkd es w x.t (ρ x.t)) → v = rkV w ρ (outL es i) → Rkd es w i v
section
variable {es : List Ed} {w : Ed → Int} {i j v u : Int}
theorem Rkd.unique (h : Rkd es w i v) : ∀ {u : Int}, Rkd es w i u → v = u := by
  induction h with
  | mk ρ _ hv ih =>
    intro u hu
    cases hu with
    | mk ρ' h' hu =>
      rw [hv, hu]
      exact rkV_same fun x hx => ih x (outL_mem.1 hx).1 (outL_mem.1 hx).2 (h' x (outL_mem.1 hx).1 (outL_mem.1 hx).2)
theorem Rkd.next (h : Rkd es w i v) (hr : Rc es anyE i j) : ∃ u, Rkd es w j u := by
  induction hr with
  | refl => exact ⟨v, h⟩
  | step _ h1 _ h3 ih =>
    obtain ⟨u, hu⟩ := ih
    cases hu with
    | mk ρ hc _ => exact ⟨_, hc _ h1 h3⟩
theorem Rc.first {ed : List Ed} {perm : Ed → Bool} {s t : Int} (h : Rc ed perm s t) : s = t ∨ ∃ y ∈ ed, y.f = s ∧ perm y = true ∧ Rc ed perm y.t t := by
  induction h with
  | refl => exact .inl rfl
  | @step t x _ h1 h2 h3 ih =>
    rcases ih with rfl | ⟨y, hy, hf, hp, hr⟩
    · exact .inr ⟨x, h1, h3, h2, .refl⟩
    · exact .inr ⟨y, hy, hf, hp, .step hr h1 h2 h3⟩
theorem OnC.next {ed : List Ed} {perm : Ed → Bool} {x : Ed} (hx : x ∈ ed) (hp : perm x = true) (h : Rc ed perm x.t x.f) : OnC ed perm x.t := by
  rcases h.first with he | ⟨y, hy, hf, hpy, hr⟩
  · exact ⟨x, hx, he.symm, hp, by rw [← he] at h; exact h⟩
  · exact ⟨y, hy, hf, hpy, .step hr hx hp rfl⟩
end
/-- ranks, and what has been done: 0 nothing, 1 open, 2 done -/
abbrev RS := List Int × List Int
def updR (w : Ed → Int) (i : Int) (x : Ed) (s : RS) : RS := (s.1.set i.toNat (max (gI s.1 i) (gI s.1 x.t + w x)), s.2)
def rkL (f : Int → RS → Bool × RS) (w : Ed → Int) (i : Int) : List Ed → RS → Bool × RS
  | [], s => (true, s)
  | x :: r, s => if (f x.t s).1 = true then rkL f w i r (updR w i x (f x.t s).2) else (false, (f x.t s).2)
def rkD (es : List Ed) (w : Ed → Int) : Nat → Int → RS → Bool × RS
  | 0, _, s => (false, s)
  | g + 1, i, s =>
    if gI s.2 i = 1 then (false, s) else if gI s.2 i = 2 then (true, s) else
    if (rkL (rkD es w g) w i (outL es i) (s.1, s.2.set i.toNat 1)).1 = true then
      (true, ((rkL (rkD es w g) w i (outL es i) (s.1, s.2.set i.toNat 1)).2.1, (rkL (rkD es w g) w i (outL es i) (s.1, s.2.set i.toNat 1)).2.2.set i.toNat 2))
    else (false, (rkL (rkD es w g) w i (outL es i) (s.1, s.2.set i.toNat 1)).2)
def cnt0 (s : RS) : Nat := s.2.countP (fun q => q == 0)
theorem cnt_set : ∀ {l : List Int} {k : Nat} {v : Int}, l[k]? = some 0 → v ≠ 0 → (l.set k v).countP (fun q => q == 0) + 1 = l.countP (fun q => q == 0)
  | [], k, v, h, _ => by simp at h
  | q :: l, 0, v, h, hv => by
    simp at h; subst h
    rw [List.set_cons_zero, List.countP_cons, List.countP_cons]
    simp [hv]
  | q :: l, k + 1, v, h, hv => by
    have ih := cnt_set (l := l) (k := k) (v := v) (by simpa using h) hv
    rw [List.set_cons_succ, List.countP_cons, List.countP_cons]
    omega
theorem cnt_keep : ∀ {l : List Int} {k : Nat} {v q : Int}, l[k]? = some q → q ≠ 0 → v ≠ 0 → (l.set k v).countP (fun q => q == 0) = l.countP (fun q => q == 0)
  | [], k, v, q, h, _, _ => by simp at h
  | p :: l, 0, v, q, h, hq, hv => by
    simp at h; subst h
    rw [List.set_cons_zero, List.countP_cons, List.countP_cons]
    simp [hv, hq]
  | p :: l, k + 1, v, q, h, hq, hv => by
    have ih := cnt_keep (l := l) (k := k) (v := v) (q := q) (by simpa using h) hq hv
    rw [List.set_cons_succ, List.countP_cons, List.countP_cons, ih]
theorem gI_at {l : List Int} {i v : Int} (h0 : 0 ≤ i) (h1 : i < (l.length : Int)) (h : gI l i = v) : l[i.toNat]? = some v := by
  unfold gI at h
  rw [List.getD_eq_getElem?_getD, List.getElem?_eq_getElem (by omega)] at h
  rw [List.getElem?_eq_getElem (by omega), ← h]; rfl
/-- the graph within which is searched: some of n nodes, left by no edge -/
structure GrF (es : List Ed) (n : Nat) (F : Int → Prop) : Prop where
  rng : ∀ j, F j → 0 ≤ j ∧ j < (n : Int)
  clo : ∀ x ∈ es, F x.f → F x.t
structure RkI (es : List Ed) (w : Ed → Int) (n : Nat) (F : Int → Prop) (s : RS) : Prop where
  l1 : s.1.length = n
  l2 : s.2.length = n
  done : ∀ j, F j → gI s.2 j = 2 → Rkd es w j (gI s.1 j)
  new : ∀ j, F j → gI s.2 j = 0 → gI s.1 j = 0
  val : ∀ j, F j → gI s.2 j = 0 ∨ gI s.2 j = 1 ∨ gI s.2 j = 2
/-- what a search leaves as it was; the rank of an open node is kept where K holds -/
structure RkX (F K : Int → Prop) (s s' : RS) : Prop where
  opn : ∀ j, F j → gI s.2 j = 1 → gI s'.2 j = 1
  opr : ∀ j, F j → K j → gI s.2 j = 1 → gI s'.1 j = gI s.1 j
  cls : ∀ j, F j → gI s.2 j = 2 → gI s'.2 j = 2 ∧ gI s'.1 j = gI s.1 j
  bck : ∀ j, F j → gI s'.2 j = 1 → gI s.2 j = 1
  out : ∀ j, 0 ≤ j → ¬ F j → gI s'.1 j = gI s.1 j
  cnt : cnt0 s' ≤ cnt0 s
section
variable {es : List Ed} {w : Ed → Int} {n g : Nat} {F K : Int → Prop} {s s' s'' : RS} {i : Int}
theorem RkX.refl (s : RS) : RkX F K s s := ⟨fun _ _ h => h, fun _ _ _ _ => rfl, fun _ _ h => ⟨h, rfl⟩, fun _ _ h => h, fun _ _ _ => rfl, Nat.le_refl _⟩
theorem RkX.trans (h : RkX F K s s') (k : RkX F K s' s'') : RkX F K s s'' :=
  ⟨fun j hf h1 => k.opn j hf (h.opn j hf h1), fun j hf hk h1 => (k.opr j hf hk (h.opn j hf h1)).trans (h.opr j hf hk h1), fun j hf h1 => ⟨(k.cls j hf (h.cls j hf h1).1).1, (k.cls j hf (h.cls j hf h1).1).2.trans (h.cls j hf h1).2⟩,
   fun j hf h1 => h.bck j hf (k.bck j hf h1), fun j h0 hf => (k.out j h0 hf).trans (h.out j h0 hf), Nat.le_trans k.cnt h.cnt⟩
/-- the loop over the edges of an open node -/
theorem rkL_spec (hg : GrF es n F) (hi : F i) {f : Int → RS → Bool × RS} {c : Nat}
    (hf : ∀ (k : Int) (s : RS), RkI es w n F s → F k → cnt0 s < c → (∀ j, F j → gI s.2 j = 1 → ∃ x ∈ es, x.f = j ∧ Rc es anyE x.t k) → ((f k s).1 = true → RkI es w n F (f k s).2 ∧ RkX F (fun _ => True) s (f k s).2 ∧ gI (f k s).2.2 k = 2) ∧ ((f k s).1 = false → ∃ c, Rc es anyE k c ∧ OnC es anyE c))
    (s0 : RS) (h0 : ∀ j, F j → gI s0.2 j = 1 → j = i ∨ ∃ x ∈ es, x.f = j ∧ Rc es anyE x.t i) (hc0 : cnt0 s0 < c) :
    ∀ (r pre : List Ed) (s : RS), outL es i = pre ++ r → RkI es w n F s → gI s.2 i = 1 → RkX F (fun j => j ≠ i) s0 s → gI s.1 i = rkV w (gI s.1) pre → (∀ x ∈ pre, gI s.2 x.t = 2) →
    ((rkL f w i r s).1 = true → RkI es w n F (rkL f w i r s).2 ∧ RkX F (fun j => j ≠ i) s0 (rkL f w i r s).2 ∧ gI (rkL f w i r s).2.2 i = 1 ∧ Rkd es w i (gI (rkL f w i r s).2.1 i)) ∧
    ((rkL f w i r s).1 = false → ∃ c, Rc es anyE i c ∧ OnC es anyE c)
  | [], pre, s, ho, hI, hs, hX, hv, hp => by
    rw [List.append_nil] at ho
    refine ⟨fun _ => ⟨hI, hX, hs, .mk (gI s.1) (fun x hx hxf => ?_) (by rw [ho]; exact hv)⟩, fun h => by cases h⟩
    have hm : x ∈ pre := by rw [← ho]; exact outL_mem.2 ⟨hx, hxf⟩
    exact hI.done x.t (hg.clo x hx (by rw [hxf]; exact hi)) (hp x hm)
  | x :: r, pre, s, ho, hI, hs, hX, hv, hp => by
    have hx := outL_mem.1 (show x ∈ outL es i by rw [ho]; exact List.mem_append_right _ (List.mem_cons_self ..))
    have hFt : F x.t := hg.clo x hx.1 (by rw [hx.2]; exact hi)
    have hir := hg.rng i hi
    obtain ⟨h1, h2⟩ := hf x.t s hI hFt (Nat.lt_of_le_of_lt hX.cnt hc0) (fun j hj hj1 => by
      rcases h0 j hj (hX.bck j hj hj1) with rfl | ⟨y, hy, hyf, hr⟩
      · exact ⟨x, hx.1, hx.2, .refl⟩
      · exact ⟨y, hy, hyf, .step hr hx.1 rfl hx.2⟩)
    unfold rkL
    by_cases hq : (f x.t s).1 = true
    · rw [if_pos hq]
      obtain ⟨hI2, hX2, h3⟩ := h1 hq
      generalize (f x.t s).2 = s2 at hI2 hX2 h3
      have hs2 : gI s2.2 i = 1 := hX2.opn i hi hs
      have hset : ∀ j, 0 ≤ j → gI (updR w i x s2).1 j = if j = i then max (gI s2.1 i) (gI s2.1 x.t + w x) else gI s2.1 j := fun j hj => gI_set hir.1 (by rw [hI2.l1]; exact hir.2) hj
      have hne : ∀ y, gI s2.2 y = 2 → y ≠ i := fun y hy e => by rw [e, hs2] at hy; cases hy
      have hsame : ∀ y, F y → gI s2.2 y = 2 → gI (updR w i x s2).1 y = gI s2.1 y := fun y hF hy => by rw [hset y (hg.rng y hF).1, if_neg (hne y hy)]
      have hpre : ∀ y ∈ pre, F y.t ∧ gI s2.2 y.t = 2 ∧ gI s2.1 y.t = gI s.1 y.t := fun y hy => by
        have hym := outL_mem.1 (show y ∈ outL es i by rw [ho]; exact List.mem_append_left _ hy)
        have hF := hg.clo y hym.1 (by rw [hym.2]; exact hi)
        exact ⟨hF, hX2.cls y.t hF (hp y hy)⟩
      have hv2 : gI s2.1 i = rkV w (gI s2.1) pre := by
        rw [hX2.opr i hi trivial hs, hv]
        exact rkV_same fun y hy => (hpre y hy).2.2.symm
      refine rkL_spec hg hi hf s0 h0 hc0 r (pre ++ [x]) (updR w i x s2) (by rw [List.append_assoc]; exact ho) ⟨by unfold updR; rw [List.length_set]; exact hI2.l1, hI2.l2, fun j hj h => ?_, fun j hj h => ?_, hI2.val⟩ hs2 ?_ ?_ (fun y hy => ?_)
      · rw [hsame j hj h]; exact hI2.done j hj h
      · rw [hset j (hg.rng j hj).1, if_neg (fun e => by have h : gI s2.2 j = 0 := h; rw [e, hs2] at h; cases h)]; exact hI2.new j hj h
      · refine hX.trans ⟨fun j hF h => hX2.opn j hF h, fun j hF hne' h => ?_, fun j hF h => ⟨(hX2.cls j hF h).1, ?_⟩, fun j hF h => hX2.bck j hF h, fun j hj0 hF => ?_, hX2.cnt⟩
        · rw [hset j (hg.rng j hF).1, if_neg hne']; exact hX2.opr j hF trivial h
        · rw [hsame j hF (hX2.cls j hF h).1]; exact (hX2.cls j hF h).2
        · rw [hset j hj0, if_neg (fun e => hF (by rw [e]; exact hi))]; exact hX2.out j hj0 hF
      · rw [hset i hir.1, if_pos rfl, rkV_snoc]
        congr 1
        · rw [hv2]
          exact rkV_same fun y hy => (hsame y.t (hpre y hy).1 (hpre y hy).2.1).symm
        · rw [hsame x.t hFt h3]
      · rcases List.mem_append.1 hy with hy | hy
        · exact (hpre y hy).2.1
        · rw [List.mem_singleton.1 hy]; exact h3
    · rw [if_neg hq]
      refine ⟨fun h => absurd h (by simp), fun _ => ?_⟩
      obtain ⟨c, hc1, hc2⟩ := h2 (by simpa using hq)
      exact ⟨c, (Rc.step .refl hx.1 rfl hx.2).trans hc1, hc2⟩
/-- the search in depth -/
theorem rkD_spec (hg : GrF es n F) : ∀ (g : Nat) (i : Int) (s : RS), RkI es w n F s → F i → cnt0 s < g → (∀ j, F j → gI s.2 j = 1 → ∃ x ∈ es, x.f = j ∧ Rc es anyE x.t i) →
    ((rkD es w g i s).1 = true → RkI es w n F (rkD es w g i s).2 ∧ RkX F (fun _ => True) s (rkD es w g i s).2 ∧ gI (rkD es w g i s).2.2 i = 2) ∧ ((rkD es w g i s).1 = false → ∃ c, Rc es anyE i c ∧ OnC es anyE c)
  | 0, _, _, _, _, h, _ => by omega
  | g + 1, i, s, hI, hi, hc, ho => by
    have hir := hg.rng i hi
    unfold rkD
    by_cases h1 : gI s.2 i = 1
    · rw [if_pos h1]
      refine ⟨fun h => (by cases h), fun _ => ?_⟩
      obtain ⟨x, hx, hf, hr⟩ := ho i hi h1
      exact ⟨i, .refl, x, hx, hf, rfl, hr⟩
    rw [if_neg h1]
    by_cases h2 : gI s.2 i = 2
    · rw [if_pos h2]
      exact ⟨fun _ => ⟨hI, RkX.refl s, h2⟩, fun h => (by cases h)⟩
    rw [if_neg h2]
    have h0 : gI s.2 i = 0 := (hI.val i hi).elim id fun h => h.elim (fun h => absurd h h1) (fun h => absurd h h2)
    have hl2 : i < (s.2.length : Int) := by rw [hI.l2]; exact hir.2
    have hset : ∀ j, 0 ≤ j → gI (s.2.set i.toNat 1) j = if j = i then 1 else gI s.2 j := fun j hj => gI_set hir.1 hl2 hj
    have hcs : cnt0 (s.1, s.2.set i.toNat 1) + 1 = cnt0 s := cnt_set (gI_at hir.1 hl2 h0) (by omega)
    have hI0 : RkI es w n F (s.1, s.2.set i.toNat 1) := ⟨hI.l1, by show (s.2.set i.toNat 1).length = n; rw [List.length_set]; exact hI.l2,
      fun j hj h => by
        have h : gI (s.2.set i.toNat 1) j = 2 := h
        rw [hset j (hg.rng j hj).1] at h
        by_cases e : j = i
        · rw [if_pos e] at h; cases h
        · rw [if_neg e] at h; exact hI.done j hj h,
      fun j hj h => by
        have h : gI (s.2.set i.toNat 1) j = 0 := h
        rw [hset j (hg.rng j hj).1] at h
        by_cases e : j = i
        · rw [if_pos e] at h; cases h
        · rw [if_neg e] at h; exact hI.new j hj h,
      fun j hj => by
        show gI (s.2.set i.toNat 1) j = 0 ∨ gI (s.2.set i.toNat 1) j = 1 ∨ gI (s.2.set i.toNat 1) j = 2
        rw [hset j (hg.rng j hj).1]
        by_cases e : j = i
        · rw [if_pos e]; exact .inr (.inl rfl)
        · rw [if_neg e]; exact hI.val j hj⟩
    have hs1 : gI (s.2.set i.toNat 1) i = 1 := by rw [hset i hir.1, if_pos rfl]
    obtain ⟨h3, h4⟩ := rkL_spec (w := w) hg hi (f := rkD es w g) (c := g) (fun k s hI hk hc ho => rkD_spec hg g k s hI hk hc ho) (s.1, s.2.set i.toNat 1) (fun j hj h => by
        have h : gI (s.2.set i.toNat 1) j = 1 := h
        rw [hset j (hg.rng j hj).1] at h
        by_cases e : j = i
        · exact .inl e
        · rw [if_neg e] at h; exact .inr (ho j hj h)) (by omega) (outL es i) [] (s.1, s.2.set i.toNat 1) rfl hI0 hs1 (RkX.refl _) (hI.new i hi h0) (fun x hx => by cases hx)
    generalize rkL (rkD es w g) w i (outL es i) (s.1, s.2.set i.toNat 1) = R at h3 h4 ⊢
    by_cases hq : R.1 = true
    · rw [if_pos hq]
      obtain ⟨hI2, hX2, hs2, hrk⟩ := h3 hq
      have hl3 : i < (R.2.2.length : Int) := by rw [hI2.l2]; exact hir.2
      have hset2 : ∀ j, 0 ≤ j → gI (R.2.2.set i.toNat 2) j = if j = i then 2 else gI R.2.2 j := fun j hj => gI_set hir.1 hl3 hj
      have hcn : cnt0 (R.2.1, R.2.2.set i.toNat 2) = cnt0 R.2 := cnt_keep (gI_at hir.1 hl3 hs2) (by omega) (by omega)
      have hold : ∀ j, F j → ∀ v, v ≠ 0 → gI s.2 j = v → j ≠ i := fun j _ v hv h e => by rw [e, h0] at h; exact hv h.symm
      refine ⟨fun _ => ⟨⟨hI2.l1, by show (R.2.2.set i.toNat 2).length = n; rw [List.length_set]; exact hI2.l2, fun j hj h => ?_, fun j hj h => ?_, fun j hj => ?_⟩, ⟨fun j hj h => ?_, fun j hj _ h => ?_, fun j hj h => ⟨?_, ?_⟩, fun j hj h => ?_, fun j hj0 hj => hX2.out j hj0 hj, ?_⟩, ?_⟩, fun h => (by cases h)⟩
      · have h : gI (R.2.2.set i.toNat 2) j = 2 := h
        rw [hset2 j (hg.rng j hj).1] at h
        by_cases e : j = i
        · rw [e]; exact hrk
        · rw [if_neg e] at h; exact hI2.done j hj h
      · have h : gI (R.2.2.set i.toNat 2) j = 0 := h
        rw [hset2 j (hg.rng j hj).1] at h
        by_cases e : j = i
        · rw [if_pos e] at h; cases h
        · rw [if_neg e] at h; exact hI2.new j hj h
      · show gI (R.2.2.set i.toNat 2) j = 0 ∨ gI (R.2.2.set i.toNat 2) j = 1 ∨ gI (R.2.2.set i.toNat 2) j = 2
        rw [hset2 j (hg.rng j hj).1]
        by_cases e : j = i
        · rw [if_pos e]; exact .inr (.inr rfl)
        · rw [if_neg e]; exact hI2.val j hj
      · have e := hold j hj 1 (by omega) h
        show gI (R.2.2.set i.toNat 2) j = 1
        rw [hset2 j (hg.rng j hj).1, if_neg e]
        exact hX2.opn j hj (by show gI (s.2.set i.toNat 1) j = 1; rw [hset j (hg.rng j hj).1, if_neg e]; exact h)
      · have e := hold j hj 1 (by omega) h
        exact hX2.opr j hj e (by show gI (s.2.set i.toNat 1) j = 1; rw [hset j (hg.rng j hj).1, if_neg e]; exact h)
      · have e := hold j hj 2 (by omega) h
        show gI (R.2.2.set i.toNat 2) j = 2
        rw [hset2 j (hg.rng j hj).1, if_neg e]
        exact (hX2.cls j hj (by show gI (s.2.set i.toNat 1) j = 2; rw [hset j (hg.rng j hj).1, if_neg e]; exact h)).1
      · have e := hold j hj 2 (by omega) h
        exact (hX2.cls j hj (by show gI (s.2.set i.toNat 1) j = 2; rw [hset j (hg.rng j hj).1, if_neg e]; exact h)).2
      · have h : gI (R.2.2.set i.toNat 2) j = 1 := h
        rw [hset2 j (hg.rng j hj).1] at h
        by_cases e : j = i
        · rw [if_pos e] at h; cases h
        · rw [if_neg e] at h
          have := hX2.bck j hj h
          have h9 : gI (s.2.set i.toNat 1) j = 1 := this
          rw [hset j (hg.rng j hj).1, if_neg e] at h9
          exact h9
      · rw [hcn]; have := hX2.cnt; omega
      · show gI (R.2.2.set i.toNat 2) i = 2
        rw [hset2 i hir.1, if_pos rfl]
    · rw [if_neg hq]
      exact ⟨fun h => absurd h (by simp), fun _ => h4 (by simpa using hq)⟩
end
end Go.Proofs.Ytddhaidimadliaa

/- Plain: all ranks: by a search in depth, and by rounds; they are the same, where there is no circle (chapter 41). -/
namespace Go.Proofs.Ytddhaidimadliaa
open Go

/-- the nodes below n that are chosen -/
def FaN (n : Nat) (fa : Nat → Bool) (j : Int) : Prop := (0 ≤ j ∧ j < (n : Int)) ∧ fa j.toNat = true
/-- ranks: of each chosen node its own, -1 of the others -/
structure RkAll (es : List Ed) (w : Ed → Int) (n : Nat) (fa : Nat → Bool) (r : List Int) : Prop where
  len : r.length = n
  yes : ∀ j, FaN n fa j → Rkd es w j (gI r j)
  no : ∀ j, 0 ≤ j → j < (n : Int) → ¬ FaN n fa j → gI r j = -1
theorem gI_ext {r r' : List Int} (hl : r.length = r'.length) (h : ∀ j : Int, 0 ≤ j → j < (r.length : Int) → gI r j = gI r' j) : r = r' := by
  apply List.ext_getElem hl
  intro i h1 h2
  have := h (i : Int) (by omega) (by omega)
  unfold gI at this
  rw [Int.toNat_natCast, List.getD_eq_getElem?_getD, List.getD_eq_getElem?_getD, List.getElem?_eq_getElem h1, List.getElem?_eq_getElem h2] at this
  exact this
section
variable {es : List Ed} {w : Ed → Int} {n : Nat} {fa : Nat → Bool} {r r' : List Int}
theorem RkAll.unique (h : RkAll es w n fa r) (k : RkAll es w n fa r') : r = r' := by
  refine gI_ext (h.len.trans k.len.symm) fun j h0 h1 => ?_
  rw [h.len] at h1
  by_cases hf : FaN n fa j
  · exact (h.yes j hf).unique (k.yes j hf)
  · rw [h.no j h0 h1 hf, k.no j h0 h1 hf]
/-- all ranks by searches in depth -/
def solG (es : List Ed) (w : Ed → Int) (fa : Nat → Bool) (g : Nat) : Nat → Nat → RS → Bool × RS
  | 0, _, s => (true, s)
  | d + 1, i, s =>
    if fa i = true then (if (rkD es w g (i : Int) s).1 = true then solG es w fa g d (i + 1) (rkD es w g (i : Int) s).2 else (false, (rkD es w g (i : Int) s).2))
    else solG es w fa g d (i + 1) (s.1.set i (-1), s.2)
def solS (es : List Ed) (w : Ed → Int) (n : Nat) (fa : Nat → Bool) : Bool × RS := solG es w fa (n + 1) n 0 (List.replicate n 0, List.replicate n 0)
theorem gI_rep (n : Nat) (j : Int) : gI (List.replicate n 0) j = 0 := by
  unfold gI
  rw [List.getD_eq_getElem?_getD, List.getElem?_replicate]
  by_cases h : j.toNat < n
  · rw [if_pos h]; rfl
  · rw [if_neg h]; rfl
theorem solG_spec (hg : GrF es n (FaN n fa)) : ∀ (d i : Nat) (s : RS), i + d = n → RkI es w n (FaN n fa) s → (∀ j, FaN n fa j → gI s.2 j ≠ 1) → (∀ j, FaN n fa j → j < (i : Int) → gI s.2 j = 2) → (∀ j : Int, 0 ≤ j → j < (i : Int) → ¬ FaN n fa j → gI s.1 j = -1) →
    ((solG es w fa (n + 1) d i s).1 = true → RkAll es w n fa (solG es w fa (n + 1) d i s).2.1) ∧ ((solG es w fa (n + 1) d i s).1 = false → ∃ c, FaN n fa c ∧ OnC es anyE c)
  | 0, i, s, hd, hI, _, hdn, hno => ⟨fun _ => ⟨hI.l1, fun j hj => hI.done j hj (hdn j hj (by have := hj.1.2; omega)), fun j h0 h1 hf => hno j h0 (by omega) hf⟩, fun h => (by cases h)⟩
  | d + 1, i, s, hd, hI, hop, hdn, hno => by
    unfold solG
    by_cases hf : fa i = true
    · rw [if_pos hf]
      have hi : FaN n fa (i : Int) := ⟨⟨by omega, by omega⟩, by rw [Int.toNat_natCast]; exact hf⟩
      have hc : cnt0 s < n + 1 := by
        have : cnt0 s ≤ s.2.length := List.countP_le_length
        rw [hI.l2] at this
        omega
      obtain ⟨h1, h2⟩ := rkD_spec hg (n + 1) (i : Int) s hI hi hc (fun j hj h => absurd h (hop j hj))
      by_cases hq : (rkD es w (n + 1) (i : Int) s).1 = true
      · rw [if_pos hq]
        obtain ⟨hI2, hX, hi2⟩ := h1 hq
        refine solG_spec hg d (i + 1) _ (by omega) hI2 (fun j hj h => hop j hj (hX.bck j hj h)) (fun j hj hlt => ?_) (fun j h0 hlt hnf => ?_)
        · by_cases he : j = (i : Int)
          · rw [he]; exact hi2
          · exact (hX.cls j hj (hdn j hj (by omega))).1
        · rw [hX.out j h0 hnf]
          exact hno j h0 (by by_cases he : j = (i : Int); · exact absurd (by rw [he]; exact hi) hnf
                             · omega) hnf
      · rw [if_neg hq]
        refine ⟨fun h => absurd h (by simp), fun _ => ?_⟩
        obtain ⟨c, hc1, hc2⟩ := h2 (by simpa using hq)
        exact ⟨c, hc1.closed hi (fun x hx _ hxf => hg.clo x hx hxf), hc2⟩
    · rw [if_neg hf]
      have hni : ¬ FaN n fa (i : Int) := fun h => hf (by have := h.2; rwa [Int.toNat_natCast] at this)
      have hset : ∀ j, 0 ≤ j → gI (s.1.set i (-1)) j = if j = (i : Int) then -1 else gI s.1 j := fun j hj => by
        have := gI_set (l := s.1) (i := (i : Int)) (v := -1) (by omega) (by rw [hI.l1]; omega) hj
        rwa [Int.toNat_natCast] at this
      have hne : ∀ j, FaN n fa j → j ≠ (i : Int) := fun j hj e => hni (by rw [← e]; exact hj)
      refine solG_spec hg d (i + 1) (s.1.set i (-1), s.2) (by omega) ⟨by show (s.1.set i (-1)).length = n; rw [List.length_set]; exact hI.l1, hI.l2, fun j hj h => ?_, fun j hj h => ?_, hI.val⟩ hop (fun j hj hlt => hdn j hj (by have := hne j hj; omega)) (fun j h0 hlt hnf => ?_)
      · show Rkd es w j (gI (s.1.set i (-1)) j)
        rw [hset j hj.1.1, if_neg (hne j hj)]; exact hI.done j hj h
      · show gI (s.1.set i (-1)) j = 0
        rw [hset j hj.1.1, if_neg (hne j hj)]; exact hI.new j hj h
      · show gI (s.1.set i (-1)) j = -1
        rw [hset j h0]
        by_cases he : j = (i : Int)
        · rw [if_pos he]
        · rw [if_neg he]; exact hno j h0 (by omega) hnf
theorem solS_spec (hg : GrF es n (FaN n fa)) : ((solS es w n fa).1 = true → RkAll es w n fa (solS es w n fa).2.1) ∧ ((solS es w n fa).1 = false → ∃ c, FaN n fa c ∧ OnC es anyE c) := by
  unfold solS
  refine solG_spec hg n 0 _ (by omega) ⟨List.length_replicate, List.length_replicate, fun j _ h => ?_, fun j _ _ => gI_rep n j, fun j _ => .inl (gI_rep n j)⟩ (fun j _ h => ?_) (fun j hj h => ?_) (fun j h0 h _ => ?_)
  · have h : gI (List.replicate n 0) j = 2 := h
    rw [gI_rep] at h; cases h
  · have h : gI (List.replicate n 0) j = 1 := h
    rw [gI_rep] at h; cases h
  · have := hj.1.1; omega
  · omega
theorem rkV_ge {w : Ed → Int} {ρ : Int → Int} : ∀ (l : List Ed) (m : Int), m ≤ l.foldl (fun m x => max m (ρ x.t + w x)) m ∧ ∀ x ∈ l, ρ x.t + w x ≤ l.foldl (fun m x => max m (ρ x.t + w x)) m
  | [], m => ⟨Int.le_refl _, fun x hx => by cases hx⟩
  | y :: l, m => by
    obtain ⟨h1, h2⟩ := rkV_ge (w := w) (ρ := ρ) l (max m (ρ y.t + w y))
    rw [List.foldl_cons]
    refine ⟨by omega, fun x hx => ?_⟩
    rcases List.mem_cons.1 hx with rfl | hx
    · omega
    · exact h2 x hx
end
end Go.Proofs.Ytddhaidimadliaa

/- Plain: the law's circles are the circles of walks (chapter 41). -/
namespace Go.Proofs.Ytddhaidimadliaa
open Go

/-- the arcs of some edges -/
def arcP (es : List Ed) (perm : Ed → Bool) : List (Nat × Nat) := (es.filter perm).map fun x => (x.f.toNat, x.t.toNat)
section
variable {es : List Ed} {perm : Ed → Bool} {n : Nat} {fa : Nat → Bool}
/-- all edges within n nodes -/
def EdR (n : Nat) (es : List Ed) : Prop := ∀ x ∈ es, (0 ≤ x.f ∧ x.f < (n : Int)) ∧ (0 ≤ x.t ∧ x.t < (n : Int))
theorem arcP_rng (hr : EdR n es) : ∀ p ∈ arcP es perm, p.1 < n ∧ p.2 < n := fun p hp => by
  obtain ⟨x, hx, rfl⟩ := List.mem_map.1 hp
  have := hr x (List.mem_filter.1 hx).1
  show x.f.toNat < n ∧ x.t.toNat < n
  omega
theorem pw_on (hr : EdR n es) {i j : Nat} : Pw (arcP es perm) n i j ↔ ∃ x ∈ es, perm x = true ∧ x.f = (i : Int) ∧ Rc es perm x.t (j : Int) := by
  constructor
  · intro h
    induction h with
    | one h =>
      obtain ⟨x, hx, he⟩ := List.mem_map.1 h
      have hm := List.mem_filter.1 hx
      have hg := hr x hm.1
      injection he with h1 h2
      exact ⟨x, hm.1, hm.2, by omega, by rw [show ((_ : Nat) : Int) = x.t by omega]; exact .refl⟩
    | cat _ _ _ ih1 ih2 =>
      obtain ⟨x, hx, hp, hf, h1⟩ := ih1
      obtain ⟨y, hy, hq, hg, h2⟩ := ih2
      exact ⟨x, hx, hp, hf, (Rc.step h1 hy hq hg).trans h2⟩
  · rintro ⟨x, hx, hp, hf, h⟩
    have hone : ∀ y ∈ es, perm y = true → Pw (arcP es perm) n y.f.toNat y.t.toNat := fun y hy hyp => .one (List.mem_map.2 ⟨y, List.mem_filter.2 ⟨hy, hyp⟩, rfl⟩)
    have hall : ∀ t : Int, Rc es perm x.t t → Pw (arcP es perm) n i t.toNat := fun t ht => by
      induction ht with
      | refl => have := hone x hx hp; rwa [hf, Int.toNat_natCast] at this
      | @step t y _ hy hyp hyf ih =>
        have h9 := hone y hy hyp
        rw [hyf] at h9
        refine .cat ih ?_ h9
        have := hr y hy
        rw [hyf] at this
        omega
    have := hall j h
    rwa [Int.toNat_natCast] at this
/-- a flag of the law's circles -/
theorem cir_on (hr : EdR n es) {i : Nat} (hi : i < n) : (cirF n (arcP es perm))[i]? = some true ↔ OnC es perm (i : Int) := by
  rw [cirF_spec (arcP_rng hr) hi, pw_on hr]
  constructor
  · rintro ⟨x, hx, hp, hf, h⟩; exact ⟨x, hx, hf, hp, h⟩
  · rintro ⟨x, hx, hf, hp, h⟩; exact ⟨x, hx, hp, hf, h⟩
end
end Go.Proofs.Ytddhaidimadliaa

/- Plain: the twin plant (chapter 41). -/
namespace Go.Proofs.Ytddhaidimadliaa
open Go

/-- a plant with what is known of its events: can each be observed, which class of faults is it -/
structure Dm where
  a : Aut
  obs : List Bool
  flt : List Int
def Dm.ob (m : Dm) (x : Int) : Bool := fl m.obs x
def Dm.ft (m : Dm) (x : Int) : Int := gI m.flt x
/-- a pair: a state, has a fault occurred, a state -/
abbrev TwS := Int × Bool × Int
/-- the labels of moves: three times the event, and the side (0 both, 1 first, 2 second) -/
def twV (m : Dm) : List Int := m.a.al.flatMap fun x => if m.ob x = true then [3 * x] else [3 * x + 1, 3 * x + 2]
def twS (m : Dm) (c : Int) (t : TwS) (v : Int) : Option TwS :=
  if v % 3 = 0 then (if nxt m.a t.1 (v / 3) < 0 ∨ nxt m.a t.2.2 (v / 3) < 0 then none else some (nxt m.a t.1 (v / 3), t.2.1, nxt m.a t.2.2 (v / 3)))
  else if v % 3 = 1 then (if nxt m.a t.1 (v / 3) < 0 then none else some (nxt m.a t.1 (v / 3), (t.2.1 || m.ft (v / 3) == c), t.2.2))
  else (if m.ft (v / 3) = c ∨ nxt m.a t.2.2 (v / 3) < 0 then none else some (t.1, t.2.1, nxt m.a t.2.2 (v / 3)))
/-- the twin plant of a class -/
def twin (m : Dm) (c : Int) : Option (Bs TwS) := if m.a.st = 0 then some ⟨[], []⟩ else bfs 4096 (twS m c) (twV m) (0, false, 0)
/-- the faulty pairs -/
def twF (s : Bs TwS) (i : Nat) : Bool := (s.ts.getD i (0, false, 0)).2.1
/-- a move's part of the first run -/
def twW (x : Ed) : Int := if x.e % 3 = 2 then 0 else 1
section
variable {m : Dm} {c : Int} {t u : TwS} {v : Int}
theorem twV_mem : v ∈ twV m ↔ ∃ x ∈ m.a.al, (m.ob x = true ∧ v = 3 * x) ∨ (m.ob x = false ∧ (v = 3 * x + 1 ∨ v = 3 * x + 2)) := by
  unfold twV
  rw [List.mem_flatMap]
  constructor
  · rintro ⟨x, hx, hv⟩
    refine ⟨x, hx, ?_⟩
    cases ho : m.ob x with
    | true => rw [ho] at hv; exact .inl ⟨rfl, by simpa using hv⟩
    | false => rw [ho] at hv; exact .inr ⟨rfl, by simpa using hv⟩
  · rintro ⟨x, hx, ⟨ho, rfl⟩ | ⟨ho, h⟩⟩
    · exact ⟨x, hx, by rw [ho]; simp⟩
    · exact ⟨x, hx, by rw [ho]; simpa using h⟩
theorem twS_faulty (h : twS m c t v = some u) (hf : t.2.1 = true) : u.2.1 = true := by
  unfold twS at h
  split at h
  · split at h
    · cases h
    · injection h with h; rw [← h]; exact hf
  · split at h
    · split at h
      · cases h
      · injection h with h; rw [← h]; simp [hf]
    · split at h
      · cases h
      · injection h with h; rw [← h]; exact hf
/-- pairs within the plant -/
def TwR (m : Dm) (t : TwS) : Prop := (0 ≤ t.1 ∧ t.1 < m.a.st) ∧ (0 ≤ t.2.2 ∧ t.2.2 < m.a.st)
theorem nxt_in {a : Aut} (hw : WF a) {s x : Int} (h : ¬ nxt a s x < 0) : 0 ≤ nxt a s x ∧ nxt a s x < a.st := by
  have := hw.nxt_rng (s := s) (v := x) (by omega)
  exact ⟨this.1, this.2.1⟩
theorem twS_rng (hw : WF m.a) (h : twS m c t v = some u) (hr : TwR m t) : TwR m u := by
  unfold twS at h
  split at h
  · split at h
    · cases h
    · rename_i hn
      injection h with h
      rw [← h]
      exact ⟨nxt_in hw (fun h => hn (.inl h)), nxt_in hw (fun h => hn (.inr h))⟩
  · split at h
    · split at h
      · cases h
      · rename_i hn
        injection h with h
        rw [← h]
        exact ⟨nxt_in hw hn, hr.2⟩
    · split at h
      · cases h
      · rename_i hn
        injection h with h
        rw [← h]
        exact ⟨hr.1, nxt_in hw (fun h => hn (.inr h))⟩
theorem rch_tw (hw : WF m.a) (h0 : m.a.st ≠ 0) (h : Rch (twS m c) (twV m) (0, false, 0) t) : TwR m t := by
  have := hw.st0
  induction h with
  | start => exact ⟨⟨Int.le_refl _, by show (0 : Int) < _; omega⟩, ⟨Int.le_refl _, by show (0 : Int) < _; omega⟩⟩
  | step _ _ hs ih => exact twS_rng hw hs ih
/-- all pairs of a small plant -/
def twU (n : Nat) : List TwS := (rngI n).flatMap fun a => (rngI n).flatMap fun b => [(a, false, b), (a, true, b)]
theorem twU_len (n : Nat) : (twU n).length = n * (n * 2) := by
  unfold twU
  rw [List.length_flatMap]
  have h : ∀ a : Int, ((rngI (n : Int)).flatMap fun b => [((a, false, b) : TwS), (a, true, b)]).length = n * 2 := fun a => by
    rw [List.length_flatMap]
    simp only [List.length_cons, List.length_nil]
    rw [List.map_const', List.sum_replicate_nat, rngI_len, Int.toNat_natCast]
  simp only [h]
  rw [List.map_const', List.sum_replicate_nat, rngI_len, Int.toNat_natCast]
theorem twin_some (hw : WF m.a) (h0 : m.a.st ≠ 0) (hs : m.a.st ≤ 40) : ∃ s, twin m c = some s ∧ BInv 4096 (twS m c) (twV m) (0, false, 0) s.ts.length s := by
  unfold twin
  rw [if_neg h0]
  have hst := hw.st0
  rcases bfs_spec (C := 4096) (st := twS m c) (V := twV m) (x0 := (0, false, 0)) (by omega) with h | ⟨_, h⟩
  · exact h
  · exfalso
    refine not_many (twU m.a.st.toNat) ?_ (fun x hx => ?_) h
    · rw [twU_len]
      have h1 : m.a.st.toNat ≤ 40 := by omega
      calc m.a.st.toNat * (m.a.st.toNat * 2) ≤ 40 * (40 * 2) := Nat.mul_le_mul h1 (Nat.mul_le_mul h1 (Nat.le_refl _))
        _ ≤ 4096 := by decide
    · obtain ⟨h1, h2⟩ := rch_tw hw h0 hx
      obtain ⟨a, f, b⟩ := x
      unfold twU
      rw [List.mem_flatMap]
      refine ⟨a, rngI_mem.2 ⟨h1.1, by have := h1.2; dsimp only at this; omega⟩, ?_⟩
      rw [List.mem_flatMap]
      refine ⟨b, rngI_mem.2 ⟨h2.1, by have := h2.2; dsimp only at this; omega⟩, ?_⟩
      cases f <;> simp
/-- the moves of the twin plant -/
theorem tw_move {s : Bs TwS} (h : BInv 4096 (twS m c) (twV m) (0, false, 0) s.ts.length s) {x : Ed} : x ∈ s.es ↔ ∃ (j k : Nat) (t u : TwS), s.ts[j]? = some t ∧ s.ts[k]? = some u ∧ x.e ∈ twV m ∧ twS m c t x.e = some u ∧ x.f = (j : Int) ∧ x.t = (k : Int) := by
  rw [h.es, edsOf_mem]
  constructor
  · rintro ⟨j, t, v, y, hj, ht, hv, hs, rfl⟩
    have hy := h.clo j t v y hj ht hv hs
    obtain ⟨k, hk, hk2⟩ := idx_yes hy
    exact ⟨j, k, t, y, ht, hk2, hv, hs, rfl, hk⟩
  · rintro ⟨j, k, t, u, ht, hu, hv, hs, hf, hk⟩
    refine ⟨j, t, x.e, u, (List.getElem?_eq_some_iff.1 ht).1, ht, hv, hs, ?_⟩
    rw [Ed.eq_iff]
    exact ⟨hf, rfl, by rw [hk, idx_at h.nd hu]⟩
theorem twF_at {s : Bs TwS} {j : Nat} {t : TwS} (ht : s.ts[j]? = some t) : twF s j = t.2.1 := by
  unfold twF
  rw [List.getD_eq_getElem?_getD, ht]
  rfl
theorem tw_edr {s : Bs TwS} (h : BInv 4096 (twS m c) (twV m) (0, false, 0) s.ts.length s) : EdR s.ts.length s.es := fun x hx => by
  obtain ⟨j, k, t, u, ht, hu, _, _, hf, hk⟩ := (tw_move h).1 hx
  have h1 := (List.getElem?_eq_some_iff.1 ht).1
  have h2 := (List.getElem?_eq_some_iff.1 hu).1
  omega
theorem tw_grf {s : Bs TwS} (h : BInv 4096 (twS m c) (twV m) (0, false, 0) s.ts.length s) : GrF s.es s.ts.length (FaN s.ts.length (twF s)) := by
  refine ⟨fun j hj => hj.1, fun x hx hf => ?_⟩
  obtain ⟨j, k, t, u, ht, hu, _, hs, hxf, hxt⟩ := (tw_move h).1 hx
  have h2 := (List.getElem?_eq_some_iff.1 hu).1
  refine ⟨by omega, ?_⟩
  have h1 := hf.2
  rw [hxf, Int.toNat_natCast, twF_at ht] at h1
  rw [hxt, Int.toNat_natCast, twF_at hu]
  exact twS_faulty hs h1
end
end Go.Proofs.Ytddhaidimadliaa

/- Plain: walks of the twin plant are pairs of runs with the same observation (chapter 41). -/
namespace Go.Proofs.Ytddhaidimadliaa
open Go

/-- the events of the first and of the second run -/
def fst1 (L : List Int) : List Int := L.filterMap fun v => if v % 3 = 2 then none else some (v / 3)
def snd1 (L : List Int) : List Int := L.filterMap fun v => if v % 3 = 1 then none else some (v / 3)
theorem fst1_app (L M : List Int) : fst1 (L ++ M) = fst1 L ++ fst1 M := List.filterMap_append
theorem snd1_app (L M : List Int) : snd1 (L ++ M) = snd1 L ++ snd1 M := List.filterMap_append
/-- a model that is right: faults cannot be observed -/
structure DmW (m : Dm) (c : Int) : Prop where
  wf : WF m.a
  cls : 1 ≤ c
  ob0 : ∀ x, m.ob x = true → m.ft x = 0
/-- a fault of the class occurs -/
def fltB (m : Dm) (c : Int) (ws : List Int) : Bool := ws.any fun x => m.ft x == c
theorem fltB_app (m : Dm) (c : Int) (a b : List Int) : fltB m c (a ++ b) = (fltB m c a || fltB m c b) := List.any_append
def obsW (m : Dm) (ws : List Int) : List Int := ws.filter m.ob
theorem obsW_app (m : Dm) (a b : List Int) : obsW m (a ++ b) = obsW m a ++ obsW m b := List.filter_append ..
/-- what a walk of the twin plant says of its runs -/
structure TwK (m : Dm) (c : Int) (t u : TwS) (L : List Int) : Prop where
  fst : goS (stA m.a) t.1 (fst1 L) = some u.1
  snd : goS (stA m.a) t.2.2 (snd1 L) = some u.2.2
  flt : u.2.1 = (t.2.1 || fltB m c (fst1 L))
  nof : fltB m c (snd1 L) = false
  obs : obsW m (fst1 L) = obsW m (snd1 L)
  evs : (∀ x ∈ fst1 L, x ∈ m.a.al) ∧ ∀ x ∈ snd1 L, x ∈ m.a.al
section
variable {m : Dm} {c : Int} {t u r : TwS} {L M : List Int} {v : Int}
theorem stA_nxt {a : Aut} {s x : Int} (h : ¬ nxt a s x < 0) : goS (stA a) s [x] = some (nxt a s x) := by
  unfold goS stA
  rw [if_neg h]
  rfl
theorem TwK.refl (t : TwS) : TwK m c t t [] := ⟨rfl, rfl, by show t.2.1 = (t.2.1 || false); simp, rfl, rfl, (fun x hx => by cases hx), fun x hx => by cases hx⟩
theorem TwK.trans (h : TwK m c t u L) (k : TwK m c u r M) : TwK m c t r (L ++ M) :=
  ⟨by rw [fst1_app, goS_app, h.fst]; exact k.fst, by rw [snd1_app, goS_app, h.snd]; exact k.snd, by rw [k.flt, h.flt, fst1_app, fltB_app, Bool.or_assoc], by rw [snd1_app, fltB_app, h.nof, k.nof]; rfl,
   by rw [fst1_app, snd1_app, obsW_app, obsW_app, h.obs, k.obs], (fun x hx => by
     rw [fst1_app] at hx
     exact (List.mem_append.1 hx).elim (h.evs.1 x) (k.evs.1 x)), fun x hx => by
     rw [snd1_app] at hx
     exact (List.mem_append.1 hx).elim (h.evs.2 x) (k.evs.2 x)⟩
theorem TwK.one (hm : DmW m c) (hv : v ∈ twV m) (h : twS m c t v = some u) : TwK m c t u [v] := by
  obtain ⟨x, hx, ⟨ho, rfl⟩ | ⟨ho, rfl | rfl⟩⟩ := twV_mem.1 hv
  · have e1 : (3 * x) % 3 = 0 := by omega
    have e2 : (3 * x) / 3 = x := by omega
    unfold twS at h
    rw [if_pos e1, e2] at h
    have hft : (m.ft x == c) = false := by rw [hm.ob0 x ho]; have := hm.cls; simp; omega
    split at h
    · cases h
    · rename_i hn
      injection h with h
      subst h
      have hf : fst1 [3 * x] = [x] := by unfold fst1; simp only [List.filterMap_cons, List.filterMap_nil, e1, e2]; rfl
      have hs : snd1 [3 * x] = [x] := by unfold snd1; simp only [List.filterMap_cons, List.filterMap_nil, e1, e2]; rfl
      refine ⟨by rw [hf]; exact stA_nxt (fun h => hn (.inl h)), by rw [hs]; exact stA_nxt (fun h => hn (.inr h)), ?_, ?_, by rw [hf, hs], (fun y hy => ?_), fun y hy => ?_⟩
      · rw [hf]; show t.2.1 = (t.2.1 || ((m.ft x == c) || false)); rw [hft]; simp
      · rw [hs]; show ((m.ft x == c) || false) = false; rw [hft]; rfl
      · rw [hf] at hy; rw [List.mem_singleton.1 hy]; exact hx
      · rw [hs] at hy; rw [List.mem_singleton.1 hy]; exact hx
  · have e1 : (3 * x + 1) % 3 = 1 := by omega
    have e2 : (3 * x + 1) / 3 = x := by omega
    unfold twS at h
    rw [if_neg (by omega), if_pos e1, e2] at h
    split at h
    · cases h
    · rename_i hn
      injection h with h
      subst h
      have hf : fst1 [3 * x + 1] = [x] := by unfold fst1; simp only [List.filterMap_cons, List.filterMap_nil, e1, e2]; rfl
      have hs : snd1 [3 * x + 1] = [] := by unfold snd1; simp only [List.filterMap_cons, List.filterMap_nil, e1]; rfl
      refine ⟨by rw [hf]; exact stA_nxt hn, by rw [hs]; rfl, ?_, by rw [hs]; rfl, ?_, (fun y hy => ?_), fun y hy => ?_⟩
      · rw [hf]; show (t.2.1 || m.ft x == c) = (t.2.1 || ((m.ft x == c) || false)); simp
      · rw [hf, hs]; unfold obsW; simp [ho]
      · rw [hf] at hy; rw [List.mem_singleton.1 hy]; exact hx
      · rw [hs] at hy; cases hy
  · have e1 : (3 * x + 2) % 3 = 2 := by omega
    have e2 : (3 * x + 2) / 3 = x := by omega
    unfold twS at h
    rw [if_neg (by omega), if_neg (by omega), e2] at h
    split at h
    · cases h
    · rename_i hn
      injection h with h
      subst h
      have hf : fst1 [3 * x + 2] = [] := by unfold fst1; simp only [List.filterMap_cons, List.filterMap_nil, e1]; rfl
      have hs : snd1 [3 * x + 2] = [x] := by unfold snd1; simp only [List.filterMap_cons, List.filterMap_nil, e1, e2]; rfl
      refine ⟨by rw [hf]; rfl, by rw [hs]; exact stA_nxt (fun h => hn (.inr h)), ?_, ?_, ?_, (fun y hy => ?_), fun y hy => ?_⟩
      · rw [hf]; show t.2.1 = (t.2.1 || false); simp
      · rw [hs]; show ((m.ft x == c) || false) = false; simp; exact fun h => hn (.inl h)
      · rw [hf, hs]; unfold obsW; simp [ho]
      · rw [hf] at hy; cases hy
      · rw [hs] at hy; rw [List.mem_singleton.1 hy]; exact hx
/-- walks of the twin plant -/
theorem tw_walk (hm : DmW m c) {s : Bs TwS} (h : BInv 4096 (twS m c) (twV m) (0, false, 0) s.ts.length s) {i k : Nat} (ht : s.ts[i]? = some t) (hu : s.ts[k]? = some u) {p : Int} (hp : p = (k : Int)) (hw : Wk s.es anyE (i : Int) L p) : TwK m c t u L := by
  have hall : ∀ {L : List Int} {p : Int}, Wk s.es anyE (i : Int) L p → ∃ (k : Nat) (u : TwS), p = (k : Int) ∧ s.ts[k]? = some u ∧ TwK m c t u L := fun hw => by
    induction hw with
    | nil => exact ⟨i, t, rfl, ht, TwK.refl t⟩
    | @snoc ws q x _ hx _ hxf ih =>
      obtain ⟨k, u, hk, hu, hK⟩ := ih
      obtain ⟨j, k', t', u', ht', hu', hv, hs, hf, hk'⟩ := (tw_move h).1 hx
      have hjk : j = k := by omega
      subst hjk
      rw [hu] at ht'
      injection ht' with ht'
      subst ht'
      exact ⟨k', u', hk', hu', hK.trans (TwK.one hm hv hs)⟩
  obtain ⟨k', u', hk', hu', hK⟩ := hall hw
  have : k' = k := by omega
  subst this
  rw [hu] at hu'
  injection hu' with hu'
  subst hu'
  exact hK
end
end Go.Proofs.Ytddhaidimadliaa

/- Plain: pairs of runs are walks of the twin plant; ranks bound what comes after a fault (chapter 41). -/
namespace Go.Proofs.Ytddhaidimadliaa
open Go

section
variable {m : Dm} {c : Int} {t u : TwS} {L : List Int}
theorem stA_cons {a : Aut} {s x : Int} {ws : List Int} {z : Int} (h : goS (stA a) s (x :: ws) = some z) : ¬ nxt a s x < 0 ∧ goS (stA a) (nxt a s x) ws = some z := by
  unfold goS stA at h
  by_cases hn : nxt a s x < 0
  · rw [if_pos hn] at h; cases h
  · rw [if_neg hn] at h; exact ⟨hn, h⟩
theorem fst1_cons (v : Int) (L : List Int) : fst1 (v :: L) = (if v % 3 = 2 then [] else [v / 3]) ++ fst1 L := by
  unfold fst1
  rw [List.filterMap_cons]
  by_cases h : v % 3 = 2
  · rw [if_pos h, if_pos h]; rfl
  · rw [if_neg h, if_neg h]; rfl
theorem snd1_cons (v : Int) (L : List Int) : snd1 (v :: L) = (if v % 3 = 1 then [] else [v / 3]) ++ snd1 L := by
  unfold snd1
  rw [List.filterMap_cons]
  by_cases h : v % 3 = 1
  · rw [if_pos h, if_pos h]; rfl
  · rw [if_neg h, if_neg h]; rfl
/-- two runs with the same observation, the second without a fault, are a run of the twin plant -/
theorem tw_pair : ∀ (n : Nat) (a b : List Int) (t : TwS) (x y : Int), a.length + b.length ≤ n → goS (stA m.a) t.1 a = some x → goS (stA m.a) t.2.2 b = some y → fltB m c b = false → obsW m a = obsW m b → (∀ v ∈ a, v ∈ m.a.al) → (∀ v ∈ b, v ∈ m.a.al) →
    ∃ (L : List Int) (u : TwS), goS (twS m c) t L = some u ∧ (∀ v ∈ L, v ∈ twV m) ∧ fst1 L = a ∧ snd1 L = b ∧ u.1 = x ∧ u.2.2 = y
  | n, [], [], t, x, y, _, h1, h2, _, _, _, _ => ⟨[], t, rfl, (fun v hv => by cases hv), rfl, rfl, Option.some.inj h1, Option.some.inj h2⟩
  | 0, _ :: _, _, _, _, _, h, _, _, _, _, _, _ => by simp at h
  | 0, [], _ :: _, _, _, _, h, _, _, _, _, _, _ => by simp at h
  | n + 1, v :: a, b, t, x, y, hl, h1, h2, hf, ho, ha, hb => by
    obtain ⟨hn, h1'⟩ := stA_cons h1
    have hva := ha v (List.mem_cons_self ..)
    have haa := fun w hw => ha w (List.mem_cons_of_mem v hw)
    cases hob : m.ob v with
    | false =>
      have e1 : (3 * v + 1) % 3 = 1 := by omega
      have e2 : (3 * v + 1) / 3 = v := by omega
      have hst : twS m c t (3 * v + 1) = some (nxt m.a t.1 v, (t.2.1 || m.ft v == c), t.2.2) := by
        unfold twS
        rw [if_neg (by omega), if_pos e1, e2, if_neg hn]
      obtain ⟨L, u, g1, g2, g3, g4, g5⟩ := tw_pair n a b (nxt m.a t.1 v, (t.2.1 || m.ft v == c), t.2.2) x y (by simp only [List.length_cons] at hl; omega) h1' h2 hf (by unfold obsW at ho ⊢; rw [List.filter_cons_of_neg (by simp [hob])] at ho; exact ho) haa hb
      refine ⟨(3 * v + 1) :: L, u, by unfold goS; rw [hst]; exact g1, fun w hw => ?_, by rw [fst1_cons, if_neg (by omega), e2, g3]; rfl, by rw [snd1_cons, if_pos e1, g4]; rfl, g5⟩
      rcases List.mem_cons.1 hw with rfl | hw
      · exact twV_mem.2 ⟨v, hva, .inr ⟨hob, .inl rfl⟩⟩
      · exact g2 w hw
    | true =>
      match b, h2, hf, ho, hb, hl with
      | [], _, _, ho, _, _ =>
        unfold obsW at ho
        rw [List.filter_cons_of_pos (by simp [hob])] at ho
        cases ho
      | w :: b, h2, hf, ho, hb, hl =>
        obtain ⟨hn2, h2'⟩ := stA_cons h2
        have hwa := hb w (List.mem_cons_self ..)
        have hbb := fun z hz => hb z (List.mem_cons_of_mem w hz)
        have hf2 : (m.ft w == c) = false ∧ fltB m c b = false := by
          unfold fltB at hf ⊢
          rw [List.any_cons, Bool.or_eq_false_iff] at hf
          exact hf
        cases how : m.ob w with
        | false =>
          have e1 : (3 * w + 2) % 3 = 2 := by omega
          have e2 : (3 * w + 2) / 3 = w := by omega
          have hst : twS m c t (3 * w + 2) = some (t.1, t.2.1, nxt m.a t.2.2 w) := by
            unfold twS
            rw [if_neg (by omega), if_neg (by omega), e2, if_neg (by rintro (h | h); · rw [h] at hf2; simp at hf2
                                                                     · exact hn2 h)]
          obtain ⟨L, u, g1, g2, g3, g4, g5⟩ := tw_pair n (v :: a) b (t.1, t.2.1, nxt m.a t.2.2 w) x y (by simp only [List.length_cons] at hl ⊢; omega) h1 h2' hf2.2 (by rw [ho]; unfold obsW; rw [List.filter_cons_of_neg (by simp [how])]) ha hbb
          refine ⟨(3 * w + 2) :: L, u, by unfold goS; rw [hst]; exact g1, fun z hz => ?_, by rw [fst1_cons, if_pos e1, g3]; rfl, by rw [snd1_cons, if_neg (by omega), e2, g4]; rfl, g5⟩
          rcases List.mem_cons.1 hz with rfl | hz
          · exact twV_mem.2 ⟨w, hwa, .inr ⟨how, .inr rfl⟩⟩
          · exact g2 z hz
        | true =>
          have hvw : v = w ∧ obsW m a = obsW m b := by
            unfold obsW at ho ⊢
            rw [List.filter_cons_of_pos (by simp [hob]), List.filter_cons_of_pos (by simp [how])] at ho
            injection ho with h3 h4
            exact ⟨h3, h4⟩
          obtain ⟨rfl, ho2⟩ := hvw
          have e1 : (3 * v) % 3 = 0 := by omega
          have e2 : (3 * v) / 3 = v := by omega
          have hst : twS m c t (3 * v) = some (nxt m.a t.1 v, t.2.1, nxt m.a t.2.2 v) := by
            unfold twS
            rw [if_pos e1, e2, if_neg (by rintro (h | h); · exact hn h
                                          · exact hn2 h)]
          obtain ⟨L, u, g1, g2, g3, g4, g5⟩ := tw_pair n a b (nxt m.a t.1 v, t.2.1, nxt m.a t.2.2 v) x y (by simp only [List.length_cons] at hl; omega) h1' h2' hf2.2 ho2 haa hbb
          refine ⟨(3 * v) :: L, u, by unfold goS; rw [hst]; exact g1, fun z hz => ?_, by rw [fst1_cons, if_neg (by omega), e2, g3]; rfl, by rw [snd1_cons, if_neg (by omega), e2, g4]; rfl, g5⟩
          rcases List.mem_cons.1 hz with rfl | hz
          · exact twV_mem.2 ⟨v, hva, .inl ⟨hob, rfl⟩⟩
          · exact g2 z hz
  | n + 1, [], w :: b, t, x, y, hl, h1, h2, hf, ho, ha, hb => by
    obtain ⟨hn2, h2'⟩ := stA_cons h2
    have hwa := hb w (List.mem_cons_self ..)
    have hbb := fun z hz => hb z (List.mem_cons_of_mem w hz)
    have hf2 : (m.ft w == c) = false ∧ fltB m c b = false := by
      unfold fltB at hf ⊢
      rw [List.any_cons, Bool.or_eq_false_iff] at hf
      exact hf
    cases how : m.ob w with
    | true =>
      unfold obsW at ho
      rw [List.filter_cons_of_pos (by simp [how])] at ho
      cases ho
    | false =>
      have e1 : (3 * w + 2) % 3 = 2 := by omega
      have e2 : (3 * w + 2) / 3 = w := by omega
      have hst : twS m c t (3 * w + 2) = some (t.1, t.2.1, nxt m.a t.2.2 w) := by
        unfold twS
        rw [if_neg (by omega), if_neg (by omega), e2, if_neg (by rintro (h | h); · rw [h] at hf2; simp at hf2
                                                                 · exact hn2 h)]
      obtain ⟨L, u, g1, g2, g3, g4, g5⟩ := tw_pair n [] b (t.1, t.2.1, nxt m.a t.2.2 w) x y (by simp only [List.length_cons] at hl ⊢; omega) h1 h2' hf2.2 (by rw [ho]; unfold obsW; rw [List.filter_cons_of_neg (by simp [how])]) ha hbb
      refine ⟨(3 * w + 2) :: L, u, by unfold goS; rw [hst]; exact g1, fun z hz => ?_, by rw [fst1_cons, if_pos e1, g3]; rfl, by rw [snd1_cons, if_neg (by omega), e2, g4]; rfl, g5⟩
      rcases List.mem_cons.1 hz with rfl | hz
      · exact twV_mem.2 ⟨w, hwa, .inr ⟨how, .inr rfl⟩⟩
      · exact g2 z hz
/-- a run of the twin plant is a walk in it -/
theorem tw_go {s : Bs TwS} (h : BInv 4096 (twS m c) (twV m) (0, false, 0) s.ts.length s) : ∀ (L : List Int) {i : Nat} {t u : TwS}, s.ts[i]? = some t → goS (twS m c) t L = some u → (∀ v ∈ L, v ∈ twV m) → ∃ k : Nat, s.ts[k]? = some u ∧ Wk s.es anyE (i : Int) L (k : Int)
  | [], i, t, u, ht, hg, _ => ⟨i, by rw [ht]; exact hg, .nil⟩
  | v :: L, i, t, u, ht, hg, hv => by
    have hvv := hv v (List.mem_cons_self ..)
    cases hs : twS m c t v with
    | none => unfold goS at hg; rw [hs] at hg; cases hg
    | some r =>
      unfold goS at hg
      rw [hs] at hg
      have hi := (List.getElem?_eq_some_iff.1 ht).1
      have hr := h.clo i t v r hi ht hvv hs
      obtain ⟨k, hk⟩ := List.getElem?_of_mem hr
      obtain ⟨q, hq, hwk⟩ := tw_go h L hk hg (fun w hw => hv w (List.mem_cons_of_mem _ hw))
      refine ⟨q, hq, ?_⟩
      have hx : (⟨(i : Int), v, (k : Int)⟩ : Ed) ∈ s.es := (tw_move h).2 ⟨i, k, t, r, ht, hk, hvv, hs, rfl, rfl⟩
      exact (Wk.one (perm := anyE) hx rfl).app hwk
/-- what comes after a pair is no longer than its rank -/
theorem rk_walk {es : List Ed} {R : Int → Int} {F : Int → Prop} (hR : ∀ j, F j → Rkd es twW j (R j)) (hc : ∀ x ∈ es, F x.f → F x.t) {i k : Int} (hi : F i) (h : Wk es anyE i L k) : F k ∧ ((fst1 L).length : Int) + R k ≤ R i := by
  induction h with
  | nil => exact ⟨hi, by show ((0 : Nat) : Int) + _ ≤ _; omega⟩
  | @snoc ws q x _ hx _ hxf ih =>
    obtain ⟨hq, hle⟩ := ih
    have hFx : F x.f := by rw [hxf]; exact hq
    have hFt := hc x hx hFx
    refine ⟨hFt, ?_⟩
    have hge : R x.t + twW x ≤ R x.f := by
      have h9 := hR x.f hFx
      generalize R x.f = v at h9 ⊢
      cases h9 with
      | mk ρ hch hv =>
        have h8 := (hch x hx rfl).unique (hR x.t hFt)
        rw [hv, ← h8]
        exact (rkV_ge _ _).2 x (outL_mem.2 ⟨hx, rfl⟩)
    rw [hxf] at hge
    have hl : ((fst1 (ws ++ [x.e])).length : Int) = (fst1 ws).length + twW x := by
      rw [fst1_app, List.length_append, fst1_cons]
      unfold twW
      by_cases h : x.e % 3 = 2
      · rw [if_pos h, if_pos h]; simp [fst1]
      · rw [if_neg h, if_neg h]; simp [fst1]
    rw [hl]
    omega
end
end Go.Proofs.Ytddhaidimadliaa

/- Plain: the least bound: what it says of words (chapter 41). -/
namespace Go.Proofs.Ytddhaidimadliaa
open Go

/-- the least bound, by the ranks -/
def diaX (s : Bs TwS) (r : List Int) (b : Int) (x : Ed) : Int := if twF s x.f.toNat = false ∧ twF s x.t.toNat = true then max b (gI r x.t + 1) else b
def diaB (s : Bs TwS) (r : List Int) : Int := s.es.foldl (diaX s r) 0
section
variable {m : Dm} {c : Int} {t u : TwS} {L : List Int} {s : Bs TwS} {r : List Int}
theorem diaX_ge : ∀ (l : List Ed) (b : Int), b ≤ l.foldl (diaX s r) b ∧ ∀ x ∈ l, twF s x.f.toNat = false → twF s x.t.toNat = true → gI r x.t + 1 ≤ l.foldl (diaX s r) b
  | [], b => ⟨Int.le_refl _, fun x hx => by cases hx⟩
  | y :: l, b => by
    obtain ⟨h1, h2⟩ := diaX_ge l (diaX s r b y)
    rw [List.foldl_cons]
    have hb : b ≤ diaX s r b y := by
      unfold diaX
      split
      · omega
      · exact Int.le_refl _
    refine ⟨by omega, fun x hx hf ht => ?_⟩
    rcases List.mem_cons.1 hx with rfl | hx
    · have : gI r x.t + 1 ≤ diaX s r b x := by
        unfold diaX
        rw [if_pos ⟨hf, ht⟩]
        omega
      omega
    · exact h2 x hx hf ht
theorem diaB_nonneg : 0 ≤ diaB s r := (diaX_ge s.es 0).1
/-- labels are cut where their first runs are cut -/
theorem fst1_cut : ∀ (L a : List Int) (x : Int) (b : List Int), fst1 L = a ++ x :: b → ∃ L1 e L2, L = L1 ++ e :: L2 ∧ fst1 L1 = a ∧ e % 3 ≠ 2 ∧ e / 3 = x ∧ fst1 L2 = b
  | [], a, x, b, h => by
    have h : ([] : List Int) = a ++ x :: b := h
    cases a <;> cases h
  | v :: L, a, x, b, h => by
    rw [fst1_cons] at h
    by_cases hv : v % 3 = 2
    · rw [if_pos hv, List.nil_append] at h
      obtain ⟨L1, e, L2, h1, h2, h3⟩ := fst1_cut L a x b h
      exact ⟨v :: L1, e, L2, by rw [h1]; rfl, by rw [fst1_cons, if_pos hv, h2]; rfl, h3⟩
    · rw [if_neg hv] at h
      cases a with
      | nil =>
        injection h with h1 h2
        exact ⟨[], v, L, rfl, rfl, hv, h1, h2⟩
      | cons y a =>
        injection h with h1 h2
        obtain ⟨L1, e, L2, h3, h4, h5⟩ := fst1_cut L a x b h2
        exact ⟨v :: L1, e, L2, by rw [h3]; rfl, by rw [fst1_cons, if_neg hv, h4, h1]; rfl, h5⟩
theorem goS_cut {σ : Type} {st : σ → Int → Option σ} {t u : σ} {a b : List Int} (h : goS st t (a ++ b) = some u) : ∃ r, goS st t a = some r ∧ goS st r b = some u := by
  rw [goS_app] at h
  cases hr : goS st t a with
  | none => rw [hr] at h; cases h
  | some r => rw [hr] at h; exact ⟨r, rfl, h⟩
theorem rk_pos {es : List Ed} {w : Ed → Int} {i v : Int} (h : Rkd es w i v) : 0 ≤ v := by
  cases h with
  | mk ρ _ hv => rw [hv]; exact (rkV_ge _ _).1
/-- what comes after the first fault of a word that has an excuse is below the bound -/
theorem bound_spec (hm : DmW m c) (h : BInv 4096 (twS m c) (twV m) (0, false, 0) s.ts.length s) (hr : RkAll s.es twW s.ts.length (twF s) r) {v0 rest ws : List Int} {f x y : Int}
    (h1 : goS (stA m.a) 0 (v0 ++ f :: rest) = some x) (h2 : goS (stA m.a) 0 ws = some y) (hf0 : fltB m c v0 = false) (hf : m.ft f = c) (hw : fltB m c ws = false) (ho : obsW m (v0 ++ f :: rest) = obsW m ws) (ha : ∀ v ∈ v0 ++ f :: rest, v ∈ m.a.al) (hb : ∀ v ∈ ws, v ∈ m.a.al) :
    (rest.length : Int) < diaB s r := by
  obtain ⟨L, u, g1, g2, g3, g4, _, _⟩ := tw_pair (m := m) (c := c) ((v0 ++ f :: rest).length + ws.length) (v0 ++ f :: rest) ws (0, false, 0) x y (Nat.le_refl _) h1 h2 hw ho ha hb
  obtain ⟨L1, e, L2, rfl, k1, k2, k3, k4⟩ := fst1_cut L v0 f rest g3
  obtain ⟨p, hp, hq⟩ := goS_cut g1
  have he : e ∈ twV m := g2 e (List.mem_append_right _ (List.mem_cons_self ..))
  cases hs : twS m c p e with
  | none => unfold goS at hq; rw [hs] at hq; cases hq
  | some q =>
    unfold goS at hq
    rw [hs] at hq
    obtain ⟨kp, hkp, hw1⟩ := tw_go h L1 h.head hp (fun v hv => g2 v (List.mem_append_left _ hv))
    have hql := h.clo kp p e q (List.getElem?_eq_some_iff.1 hkp).1 hkp he hs
    obtain ⟨kq, hkq⟩ := List.getElem?_of_mem hql
    obtain ⟨ku, hku, hw2⟩ := tw_go h L2 hkq hq (fun v hv => g2 v (List.mem_append_right _ (List.mem_cons_of_mem _ hv)))
    have hx : (⟨(kp : Int), e, (kq : Int)⟩ : Ed) ∈ s.es := (tw_move h).2 ⟨kp, kq, p, q, hkp, hkq, he, hs, rfl, rfl⟩
    have hK1 := tw_walk hm h h.head hkp rfl hw1
    have hK2 := TwK.one hm he hs
    have hpf : p.2.1 = false := by rw [hK1.flt, k1, hf0]; rfl
    have hqf : q.2.1 = true := by
      rw [hK2.flt, fst1_cons, if_neg k2, k3]
      show (p.2.1 || ((m.ft f == c) || false)) = true
      rw [hf]; simp
    have hFq : FaN s.ts.length (twF s) (kq : Int) := ⟨by have := (List.getElem?_eq_some_iff.1 hkq).1; omega, by rw [Int.toNat_natCast, twF_at hkq]; exact hqf⟩
    have hg := tw_grf h
    obtain ⟨hFu, hle⟩ := rk_walk (R := gI r) hr.yes hg.clo hFq hw2
    have hpos := rk_pos (hr.yes _ hFu)
    have hge := (diaX_ge (s := s) (r := r) s.es 0).2 _ hx (by show twF s ((kp : Int)).toNat = false; rw [Int.toNat_natCast, twF_at hkp]; exact hpf) (by show twF s ((kq : Int)).toNat = true; rw [Int.toNat_natCast, twF_at hkq]; exact hqf)
    rw [k4] at hle
    have hge : gI r (kq : Int) + 1 ≤ diaB s r := hge
    omega
end
end Go.Proofs.Ytddhaidimadliaa

/- Plain: with a further observable event a class stays diagnosable, with no greater bound (chapter 41). -/
namespace Go.Proofs.Ytddhaidimadliaa
open Go

/-- a second model with more that can be observed, faults aside -/
structure DmM (m m' : Dm) (c : Int) : Prop where
  a : m'.a = m.a
  flt : ∀ x, m'.ft x = m.ft x
  obs : ∀ x, m.ob x = true → m'.ob x = true
  w : DmW m c
  w' : DmW m' c
end Go.Proofs.Ytddhaidimadliaa

/- Plain: the twin plant's paths (chapter 41). -/
namespace Go.Proofs.Ytddhaidimadliaa
open Go

/-- by which move a pair was found -/
def befA (bef : List Ed) (k : Int) : Option Ed := bef.find? fun x => x.t == k
/-- the moves on the way back -/
def tbk (bef : List Ed) (fr : Int) : Nat → Ed → List Ed
  | 0, x => [x]
  | g + 1, x => if x.f = fr then [x] else x :: (match befA bef x.f with | some y => tbk bef fr g y | none => [])
/-- the moves of a pair are looked at -/
def tpX (fr tg : Int) : List Ed → List Ed → Sum (List Ed) (List Ed)
  | [], bef => .inr bef
  | x :: r, bef => if (befA bef x.t).isSome = true then tpX fr tg r bef else if x.t = tg then .inl (tbk (bef ++ [x]) fr bef.length x).reverse else tpX fr tg r (bef ++ [x])
/-- pair by pair: those to be looked at are the start and what was found -/
def tpG (es : List Ed) (fr tg : Int) : Nat → Nat → List Ed → Option (List Ed)
  | 0, _, _ => none
  | g + 1, i, bef => match (fr :: bef.map Ed.t)[i]? with
    | none => none
    | some k => match tpX fr tg (outL es k) bef with
      | .inl l => some l
      | .inr bef' => tpG es fr tg g (i + 1) bef'
/-- a shortest path with at least one move -/
def tpS (es : List Ed) (n : Nat) (fr tg : Int) : Option (List Ed) := tpG es fr tg (n + 2) 0 []
/-- what was found, and how -/
structure TpI (es : List Ed) (n : Nat) (fr tg : Int) (bef : List Ed) : Prop where
  mem : ∀ x ∈ bef, x ∈ es
  par : ∀ (k : Nat) (x : Ed), bef[k]? = some x → x.f = fr ∨ ∃ (j : Nat) (y : Ed), j < k ∧ bef[j]? = some y ∧ y.t = x.f
  nd : (bef.map Ed.t).Nodup
  nt : tg ∉ bef.map Ed.t
section
variable {es : List Ed} {n : Nat} {fr tg : Int} {bef bef' : List Ed} {x : Ed}
theorem befA_none : (befA bef tg).isSome = true ↔ tg ∈ bef.map Ed.t := by
  unfold befA
  rw [List.find?_isSome, List.mem_map]
  constructor
  · rintro ⟨x, hx, h⟩; exact ⟨x, hx, by simpa using h⟩
  · rintro ⟨x, hx, h⟩; exact ⟨x, hx, by simpa using h⟩
theorem befA_at (hn : (bef.map Ed.t).Nodup) {j : Nat} {y : Ed} (hj : bef[j]? = some y) : befA bef y.t = some y := by
  unfold befA
  cases hf : bef.find? (fun x => x.t == y.t) with
  | none =>
    have := List.find?_eq_none.1 hf y (List.mem_of_getElem? hj)
    simp at this
  | some z =>
    have hz := List.find?_some hf
    have hzm := List.mem_of_find?_eq_some hf
    obtain ⟨i, hi⟩ := List.getElem?_of_mem hzm
    have hzt : z.t = y.t := by simpa using hz
    have h1 : (bef.map Ed.t)[i]? = some z.t := by rw [List.getElem?_map, hi]; rfl
    have h2 : (bef.map Ed.t)[j]? = some y.t := by rw [List.getElem?_map, hj]; rfl
    have hij : i = j := (List.getElem?_inj (List.getElem?_eq_some_iff.1 h1).1 hn).1 (by rw [h1, h2, hzt])
    subst hij
    rw [hi] at hj
    exact hj
theorem TpI.push (h : TpI es n fr tg bef) (hx : x ∈ es) (hk : x.f = fr ∨ x.f ∈ bef.map Ed.t) (hn : x.t ∉ bef.map Ed.t) : (∀ y ∈ bef ++ [x], y ∈ es) ∧ (∀ (k : Nat) (z : Ed), (bef ++ [x])[k]? = some z → z.f = fr ∨ ∃ (j : Nat) (y : Ed), j < k ∧ (bef ++ [x])[j]? = some y ∧ y.t = z.f) ∧ ((bef ++ [x]).map Ed.t).Nodup := by
  refine ⟨fun y hy => ?_, fun k z hz => ?_, ?_⟩
  · rcases List.mem_append.1 hy with hy | hy
    · exact h.mem y hy
    · rw [List.mem_singleton.1 hy]; exact hx
  · by_cases hkl : k < bef.length
    · rw [List.getElem?_append_left hkl] at hz
      rcases h.par k z hz with h1 | ⟨j, y, hj, hy, hyt⟩
      · exact .inl h1
      · exact .inr ⟨j, y, hj, by rw [List.getElem?_append_left (by omega)]; exact hy, hyt⟩
    · have hkl2 : k = bef.length := by
        have := (List.getElem?_eq_some_iff.1 hz).1
        rw [List.length_append, List.length_singleton] at this
        omega
      subst hkl2
      rw [List.getElem?_append_right (Nat.le_refl _), Nat.sub_self] at hz
      have hz : x = z := by simpa using hz
      subst hz
      rcases hk with hk | hk
      · exact .inl hk
      · obtain ⟨y, hy, hyt⟩ := List.mem_map.1 hk
        obtain ⟨j, hj⟩ := List.getElem?_of_mem hy
        have hjl := (List.getElem?_eq_some_iff.1 hj).1
        exact .inr ⟨j, y, hjl, by rw [List.getElem?_append_left hjl]; exact hj, hyt⟩
  · rw [List.map_append, List.nodup_append]
    refine ⟨h.nd, by simp, fun a ha b hb => ?_⟩
    have hb : b = x.t := by simpa using hb
    rw [hb]
    rintro rfl
    exact hn ha
end
end Go.Proofs.Ytddhaidimadliaa

/- Plain: the lasso (chapter 41). -/
namespace Go.Proofs.Ytddhaidimadliaa
open Go

/-- the first faulty pair that lies on a circle: a path to it, and round it -/
def lasG (s : Bs TwS) : Nat → Nat → Option (List Ed × List Ed)
  | 0, _ => none
  | d + 1, i => if twF s i = true then (match tpS s.es s.ts.length (i : Int) (i : Int) with
      | some cy => some ((tpS s.es s.ts.length 0 (i : Int)).getD [], cy)
      | none => lasG s d (i + 1)) else lasG s d (i + 1)
def lasS (s : Bs TwS) : Option (List Ed × List Ed) := lasG s s.ts.length 0
/-- a cycle of events that are not observed, that is reached -/
def QuiE (m : Dm) : Prop := ∃ t, Rc m.a.ed anyE 0 t ∧ OnC m.a.ed (fun x => !m.ob x.e) t
end Go.Proofs.Ytddhaidimadliaa

/- Plain: the excuse: the least word without a fault that has an observation (chapter 41). -/
namespace Go.Proofs.Ytddhaidimadliaa
open Go

/-- a visit: the state, how much has been observed, the visit before, the event -/
structure Vst where
  s : Int
  k : Nat
  f : Int
  e : Int
/-- where an event leads -/
def exN (m : Dm) (c : Int) (o : List Int) (s : Int) (k : Nat) (x : Int) : Option (Int × Nat) :=
  if nxt m.a s x < 0 ∨ m.ft x = c then none else
  if m.ob x = true then (if o[k]? = some x then some (nxt m.a s x, k + 1) else none) else some (nxt m.a s x, k)
def exH (l : List Vst) (s : Int) (k : Nat) : Bool := l.any fun t => t.s == s && t.k == k
/-- the events of a visit -/
def exX (m : Dm) (c : Int) (o : List Int) (i : Nat) (t : Vst) : List Int → List Vst → List Vst
  | [], l => l
  | x :: r, l => match exN m c o t.s t.k x with
    | none => exX m c o i t r l
    | some p => if exH l p.1 p.2 = true then exX m c o i t r l else exX m c o i t r (l ++ [⟨p.1, p.2, i, x⟩])
/-- the events on the way back -/
def exB (l : List Vst) : Nat → Int → List Int
  | 0, _ => []
  | n + 1, k => match l[k.toNat]? with
    | none => []
    | some t => if t.f < 0 then [] else t.e :: exB l n t.f
def exG (m : Dm) (c : Int) (o : List Int) : Nat → Nat → List Vst → Option (List Int)
  | 0, _, _ => none
  | g + 1, i, l => match l[i]? with
    | none => none
    | some t => if t.k = o.length then some (exB l l.length i).reverse else exG m c o g (i + 1) (exX m c o i t m.a.al l)
/-- the excuse for an observation -/
def excE (m : Dm) (c : Int) (o : List Int) : Option (List Int) := if m.a.st = 0 then none else exG m c o (m.a.st.toNat * (o.length + 1) + 1) 0 [⟨0, 0, -1, 0⟩]
/-- the visits are runs without a fault -/
structure ExI (m : Dm) (c : Int) (o : List Int) (l : List Vst) : Prop where
  head : l[0]? = some ⟨0, 0, -1, 0⟩
  par : ∀ (k : Nat) (t : Vst), 0 < k → l[k]? = some t → ∃ u : Vst, 0 ≤ t.f ∧ t.f.toNat < k ∧ l[t.f.toNat]? = some u ∧ exN m c o u.s u.k t.e = some (t.s, t.k) ∧ t.e ∈ m.a.al
  le : ∀ t ∈ l, t.k ≤ o.length
section
variable {m : Dm} {c : Int} {o : List Int} {l : List Vst} {i : Nat} {t : Vst}
theorem exN_some {s : Int} {k : Nat} {x : Int} {p : Int × Nat} (h : exN m c o s k x = some p) : ¬ nxt m.a s x < 0 ∧ m.ft x ≠ c ∧ p.1 = nxt m.a s x ∧ ((m.ob x = true ∧ o[k]? = some x ∧ p.2 = k + 1) ∨ (m.ob x = false ∧ p.2 = k)) := by
  unfold exN at h
  by_cases hn : nxt m.a s x < 0 ∨ m.ft x = c
  · rw [if_pos hn] at h; cases h
  rw [if_neg hn] at h
  refine ⟨fun h => hn (.inl h), fun h => hn (.inr h), ?_⟩
  cases ho : m.ob x with
  | true =>
    rw [ho, if_pos rfl] at h
    by_cases hk : o[k]? = some x
    · rw [if_pos hk] at h; injection h with h; rw [← h]; exact ⟨rfl, .inl ⟨rfl, hk, rfl⟩⟩
    · rw [if_neg hk] at h; cases h
  | false =>
    rw [ho, if_neg (by simp)] at h
    injection h with h
    rw [← h]
    exact ⟨rfl, .inr ⟨rfl, rfl⟩⟩
theorem ExI.push (h : ExI m c o l) (ht : l[i]? = some t) {x : Int} (hx : x ∈ m.a.al) {p : Int × Nat} (hp : exN m c o t.s t.k x = some p) : ExI m c o (l ++ [⟨p.1, p.2, i, x⟩]) := by
  have hil := (List.getElem?_eq_some_iff.1 ht).1
  refine ⟨by rw [List.getElem?_append_left (by omega)]; exact h.head, fun k u hk hu => ?_, fun u hu => ?_⟩
  · by_cases hkl : k < l.length
    · rw [List.getElem?_append_left hkl] at hu
      obtain ⟨v, h1, h2, h3, h4⟩ := h.par k u hk hu
      exact ⟨v, h1, h2, by rw [List.getElem?_append_left (by omega)]; exact h3, h4⟩
    · have hkl2 : k = l.length := by
        have := (List.getElem?_eq_some_iff.1 hu).1
        rw [List.length_append, List.length_singleton] at this
        omega
      subst hkl2
      rw [List.getElem?_append_right (Nat.le_refl _), Nat.sub_self] at hu
      have hu : (⟨p.1, p.2, i, x⟩ : Vst) = u := by simpa using hu
      subst hu
      exact ⟨t, by show (0 : Int) ≤ i; omega, by show ((i : Nat) : Int).toNat < _; omega, by show (l ++ _)[((i : Nat) : Int).toNat]? = _; rw [Int.toNat_natCast, List.getElem?_append_left hil]; exact ht, hp, hx⟩
  · rcases List.mem_append.1 hu with hu | hu
    · exact h.le u hu
    · rw [List.mem_singleton.1 hu]
      show p.2 ≤ o.length
      have htl := h.le t (List.mem_of_getElem? ht)
      rcases (exN_some hp).2.2.2 with ⟨_, h1, h2⟩ | ⟨_, h2⟩
      · have := (List.getElem?_eq_some_iff.1 h1).1
        omega
      · omega
theorem ExI.row : ∀ (r : List Int) (l : List Vst), (∀ x ∈ r, x ∈ m.a.al) → l[i]? = some t → ExI m c o l → ExI m c o (exX m c o i t r l) ∧ ∃ q, exX m c o i t r l = l ++ q
  | [], l, _, _, h => ⟨h, [], (List.append_nil l).symm⟩
  | x :: r, l, hr, ht, h => by
    have hrr := fun y hy => hr y (List.mem_cons_of_mem x hy)
    unfold exX
    cases hp : exN m c o t.s t.k x with
    | none => exact ExI.row r l hrr ht h
    | some p =>
      simp only
      by_cases he : exH l p.1 p.2 = true
      · rw [if_pos he]; exact ExI.row r l hrr ht h
      · rw [if_neg he]
        obtain ⟨h1, q, hq⟩ := ExI.row r (l ++ [⟨p.1, p.2, i, x⟩]) hrr (by rw [List.getElem?_append_left (List.getElem?_eq_some_iff.1 ht).1]; exact ht) (h.push ht (hr x (List.mem_cons_self ..)) hp)
        exact ⟨h1, [⟨p.1, p.2, i, x⟩] ++ q, by rw [hq, List.append_assoc]⟩
/-- the way back of a visit -/
theorem ExI.back (h : ExI m c o l) : ∀ (g k : Nat) (t : Vst), k < g → l[k]? = some t → goS (stA m.a) 0 (exB l g k).reverse = some t.s ∧ fltB m c (exB l g k).reverse = false ∧ obsW m (exB l g k).reverse = o.take t.k ∧ ∀ v ∈ (exB l g k).reverse, v ∈ m.a.al
  | 0, k, t, hk, _ => by omega
  | g + 1, k, t, hk, ht => by
    unfold exB
    rw [Int.toNat_natCast, ht]
    simp only
    by_cases h0 : k = 0
    · subst h0
      rw [h.head] at ht
      injection ht with ht
      subst ht
      rw [if_pos (by show (-1 : Int) < 0; omega)]
      exact ⟨rfl, rfl, rfl, fun v hv => by cases hv⟩
    · obtain ⟨u, h1, h2, h3, h4, h5⟩ := h.par k t (by omega) ht
      rw [if_neg (by omega), List.reverse_cons]
      obtain ⟨i1, i2, i3, i4⟩ := ExI.back h g t.f.toNat u (by omega) h3
      rw [show ((t.f.toNat : Nat) : Int) = t.f by omega] at i1 i2 i3 i4
      obtain ⟨e1, e2, e3, e4⟩ := exN_some h4
      refine ⟨?_, ?_, ?_, fun v hv => ?_⟩
      · rw [goS_app, i1]
        show goS (stA m.a) u.s [t.e] = some t.s
        rw [stA_nxt e1]
        exact congrArg some e3.symm
      · rw [fltB_app, i2]
        show (false || ((m.ft t.e == c) || false)) = false
        simp [e2]
      · rw [obsW_app, i3]
        rcases e4 with ⟨ho, hk', hkk⟩ | ⟨ho, hkk⟩
        · have hkk : t.k = u.k + 1 := hkk
          rw [hkk, List.take_add_one, hk']
          unfold obsW
          simp [ho]
        · have hkk : t.k = u.k := hkk
          rw [hkk]
          unfold obsW
          simp [ho]
      · rcases List.mem_append.1 hv with hv | hv
        · exact i4 v hv
        · rw [List.mem_singleton.1 hv]; exact h5
theorem exG_sound : ∀ (g i : Nat) (l : List Vst) (ws : List Int), ExI m c o l → exG m c o g i l = some ws → (∃ z, goS (stA m.a) 0 ws = some z) ∧ fltB m c ws = false ∧ obsW m ws = o ∧ ∀ v ∈ ws, v ∈ m.a.al
  | 0, _, _, _, _, e => by cases e
  | g + 1, i, l, ws, h, e => by
    unfold exG at e
    cases ht : l[i]? with
    | none => rw [ht] at e; cases e
    | some t =>
      rw [ht] at e
      simp only at e
      by_cases hk : t.k = o.length
      · rw [if_pos hk] at e
        injection e with e
        subst e
        obtain ⟨h1, h2, h3, h4⟩ := h.back l.length i t (List.getElem?_eq_some_iff.1 ht).1 ht
        exact ⟨⟨_, h1⟩, h2, by rw [h3, hk, List.take_length], h4⟩
      · rw [if_neg hk] at e
        obtain ⟨h1, _, _⟩ := ExI.row (i := i) (t := t) m.a.al l (fun _ h => h) ht h
        exact exG_sound g (i + 1) _ ws h1 e
/-- an excuse is a word without a fault that has the observation -/
theorem excE_sound {ws : List Int} (h : excE m c o = some ws) : (∃ z, goS (stA m.a) 0 ws = some z) ∧ fltB m c ws = false ∧ obsW m ws = o ∧ ∀ v ∈ ws, v ∈ m.a.al := by
  unfold excE at h
  by_cases h0 : m.a.st = 0
  · rw [if_pos h0] at h; cases h
  · rw [if_neg h0] at h
    refine exG_sound _ _ _ _ ⟨rfl, fun k t hk ht => ?_, fun t ht => ?_⟩ h
    · obtain ⟨k, rfl⟩ : ∃ j, k = j + 1 := ⟨k - 1, by omega⟩
      simp at ht
    · rw [List.mem_singleton.1 ht]; exact Nat.zero_le _
end
end Go.Proofs.Ytddhaidimadliaa

/- Plain: live plants, quiet cycles; the law's ranks are the twin plant's (chapter 41). -/
namespace Go.Proofs.Ytddhaidimadliaa
open Go

/-- the states without edges -/
def deadL (a : Aut) : List Int := (rngI a.st).filter fun s => (outL a.ed s).isEmpty
/-- a word to a state without edges; none: the plant is live -/
def liveR (a : Aut) : List Int × Bool := if deadL a = [] then ([], true) else match pathS a 0 (fl (inF a.st.toNat (deadL a))) anyE with
  | some w => (w, false)
  | none => ([], true)
/-- the events that are not observed -/
def hidL (m : Dm) (ne : Nat) : List Int := (rngI (ne : Int)).filter fun x => !m.ob x
/-- can all be ranked: the ranks and the least bound -/
def diaS (s : Bs TwS) : Option (List Int × Int) := if (solS s.es twW s.ts.length (twF s)).1 = true then some ((solS s.es twW s.ts.length (twF s)).2.1, diaB s (solS s.es twW s.ts.length (twF s)).2.1) else none
section
variable {a : Aut} {m : Dm} {c : Int} {s : Bs TwS}
theorem deadL_mem {x : Int} : x ∈ deadL a ↔ (0 ≤ x ∧ x < a.st) ∧ ∀ e ∈ a.ed, e.f ≠ x := by
  unfold deadL
  rw [List.mem_filter, rngI_mem, List.isEmpty_iff]
  constructor
  · rintro ⟨h1, h2⟩
    refine ⟨h1, fun e he hf => ?_⟩
    have : e ∈ outL a.ed x := outL_mem.2 ⟨he, hf⟩
    rw [h2] at this
    cases this
  · rintro ⟨h1, h2⟩
    refine ⟨h1, List.eq_nil_iff_forall_not_mem.2 fun e he => h2 e (outL_mem.1 he).1 (outL_mem.1 he).2⟩
theorem wf_edr (hw : WF a) : ∀ x ∈ a.ed, 0 ≤ x.t ∧ x.t < a.st := fun _ hx => ⟨(hw.ev_rng hx).2.2.1, (hw.ev_rng hx).2.2.2.1⟩
/-- a plant is live where all that is reached has an edge -/
theorem live_iff (hw : WF a) : (liveR a).2 = true ↔ (a.st ≠ 0 → ∀ t, Rc a.ed anyE 0 t → ∃ x ∈ a.ed, x.f = t) := by
  have h0 := hw.st0
  unfold liveR
  by_cases hd : deadL a = []
  · rw [if_pos hd]
    refine ⟨fun _ hz t ht => ?_, fun _ => rfl⟩
    have hr := ht.rng (n := a.st) (wf_edr hw) ⟨Int.le_refl 0, by omega⟩
    refine Classical.byContradiction fun hn => ?_
    have : t ∈ deadL a := deadL_mem.2 ⟨hr, fun e he hf => hn ⟨e, he, hf⟩⟩
    rw [hd] at this
    cases this
  · rw [if_neg hd]
    obtain ⟨d, hdm⟩ := List.exists_mem_of_ne_nil _ hd
    have hdr := (deadL_mem.1 hdm).1
    have hz : 0 < a.st := by omega
    have hfl : ∀ t, 0 ≤ t → (fl (inF a.st.toNat (deadL a)) t = true ↔ t ∈ deadL a) := fun t ht => inF_fl (fun x hx => by have := (deadL_mem.1 hx).1; omega) ht
    have hp := pathS_spec (perm := anyE) (want := fl (inF a.st.toNat (deadL a))) hw (Int.le_refl 0) hz
    cases hr : pathS a 0 (fl (inF a.st.toNat (deadL a))) anyE with
    | none =>
      rw [hr] at hp
      refine ⟨fun _ _ t ht => ?_, fun _ => rfl⟩
      have hrg := ht.rng (n := a.st) (wf_edr hw) ⟨Int.le_refl 0, hz⟩
      refine Classical.byContradiction fun hn => ?_
      have h1 := (hfl t hrg.1).2 (deadL_mem.2 ⟨hrg, fun e he hf => hn ⟨e, he, hf⟩⟩)
      have h2 := hp t ht
      rw [h1] at h2
      cases h2
    | some w =>
      rw [hr] at hp
      obtain ⟨u, hu, hwk⟩ := hp
      have hrg := hwk.rc.rng (n := a.st) (wf_edr hw) ⟨Int.le_refl 0, hz⟩
      refine ⟨fun h => (by cases h), fun h => ?_⟩
      obtain ⟨x, hx, hf⟩ := h (by omega) u hwk.rc
      exact absurd hf ((deadL_mem.1 ((hfl u hrg.1).1 hu)).2 x hx)
/-- Quiet finds a cycle where there is one -/
theorem quiet_iff (hw : WF m.a) {ne : Nat} (hne : ∀ x ∈ m.a.al, x < (ne : Int)) (hn32 : ne ≤ 32) : (cycF m.a (hidL m ne)).2 = true ↔ 0 < m.a.st ∧ QuiE m := by
  have hr : ∀ v ∈ hidL m ne, 0 ≤ v ∧ v < 32 := fun v hv => by
    have := rngI_mem.1 (List.mem_filter.1 hv).1
    omega
  have he : ∀ x ∈ m.a.ed, hasB (hidL m ne) x.e = !m.ob x.e := fun x hx => by
    have h1 := hw.erng x hx
    have hal := hasB_mem.1 h1.2
    have h2 := hw.rng x.e hal
    have h3 := hne x.e hal
    rw [Bool.eq_iff_iff, hasB_mem]
    unfold hidL
    rw [List.mem_filter, rngI_mem]
    exact ⟨fun h => h.2, fun h => ⟨⟨h2.1, h3⟩, h⟩⟩
  rw [(cycF_spec hw hr).1]
  constructor
  · rintro ⟨t, h1, h2, x, hx, hf, hp, h3⟩
    exact ⟨h2, t, h1, x, hx, hf, (he x hx).symm.trans hp, h3.mono fun y hy h => (he y hy).symm.trans h⟩
  · rintro ⟨h2, t, h1, x, hx, hf, hp, h3⟩
    exact ⟨t, h1, h2, x, hx, hf, (he x hx).trans hp, h3.mono fun y hy h => (he y hy).trans h⟩
end
end Go.Proofs.Ytddhaidimadliaa

/- Plain: runs of the plant: the code's and the law's; the excuse of the law (chapter 41). -/
namespace Go.Proofs.Ytddhaidimadliaa
open Go

/-- the code's run: the state it leads to, and whether a fault has occurred -/
def runC (m : Dm) (c : Int) : Int → List Int → Bool → Option (Int × Bool)
  | s, [], f => if 0 < m.a.st then some (s, f) else none
  | s, x :: r, f => if hasB m.a.al x = true ∧ 0 ≤ nxt m.a s x then runC m c (nxt m.a s x) r (f || m.ft x == c) else none
/-- the law's run: -1 where it is not possible -/
def endL (a : Aut) : Int → List Int → Int
  | s, [] => s
  | s, x :: r => if nxt a s x < 0 then -1 else endL a (nxt a s x) r
section
variable {m : Dm} {c : Int}
theorem nxt_al {a : Aut} (hw : WF a) {s x : Int} (h : 0 ≤ nxt a s x) : x ∈ a.al := hasB_mem.1 (hw.nxt_rng (s := s) (v := x) (by omega)).2.2.1
theorem runC_go (hw : WF m.a) : ∀ (ws : List Int) (s : Int) (f : Bool) (t : Int) (g : Bool), runC m c s ws f = some (t, g) ↔ 0 < m.a.st ∧ goS (stA m.a) s ws = some t ∧ g = (f || fltB m c ws)
  | [], s, f, t, g => by
    unfold runC
    by_cases h : 0 < m.a.st
    · rw [if_pos h]
      constructor
      · intro he
        injection he with he
        injection he with h1 h2
        exact ⟨h, by rw [h1]; rfl, by rw [h2]; unfold fltB; simp⟩
      · rintro ⟨_, h1, h2⟩
        have h1 : s = t := Option.some.inj h1
        rw [h1, h2]
        unfold fltB
        simp
    · rw [if_neg h]
      exact ⟨fun he => (by cases he), fun ⟨h1, _⟩ => absurd h1 h⟩
  | x :: r, s, f, t, g => by
    unfold runC
    by_cases h : hasB m.a.al x = true ∧ 0 ≤ nxt m.a s x
    · rw [if_pos h, runC_go hw r]
      have e : goS (stA m.a) s (x :: r) = goS (stA m.a) (nxt m.a s x) r := by
        show (stA m.a s x).bind _ = _
        unfold stA
        rw [if_neg (by omega)]
        rfl
      rw [e]
      have e2 : (f || fltB m c (x :: r)) = ((f || m.ft x == c) || fltB m c r) := by
        unfold fltB
        rw [List.any_cons, Bool.or_assoc]
      rw [e2]
    · rw [if_neg h]
      refine ⟨fun he => (by cases he), fun ⟨_, h2, _⟩ => ?_⟩
      obtain ⟨hn, _⟩ := stA_cons h2
      exact absurd ⟨hasB_mem.2 (nxt_al hw (s := s) (by omega)), by omega⟩ h
theorem goS_al' {a : Aut} (hw : WF a) : ∀ (ws : List Int) {s t : Int}, goS (stA a) s ws = some t → ∀ v ∈ ws, v ∈ a.al
  | [], _, _, _, v, hv => by cases hv
  | x :: r, s, t, h, v, hv => by
    obtain ⟨hn, h2⟩ := stA_cons h
    rcases List.mem_cons.1 hv with rfl | hv
    · exact nxt_al hw (s := s) (by omega)
    · exact goS_al' hw r h2 v hv
theorem endL_go {a : Aut} (hw : WF a) : ∀ (ws : List Int) (s : Int), 0 ≤ s → (∀ t, goS (stA a) s ws = some t → endL a s ws = t ∧ 0 ≤ t) ∧ (goS (stA a) s ws = none → endL a s ws = -1)
  | [], s, h => ⟨fun t ht => by
      have ht : s = t := Option.some.inj ht
      exact ⟨ht, by omega⟩, fun h => (by cases h)⟩
  | x :: r, s, h => by
    unfold endL
    by_cases hn : nxt a s x < 0
    · rw [if_pos hn]
      have e : goS (stA a) s (x :: r) = none := by
        show (stA a s x).bind _ = _
        unfold stA
        rw [if_pos hn]
        rfl
      rw [e]
      exact ⟨fun t ht => (by cases ht), fun _ => rfl⟩
    · rw [if_neg hn]
      have e : goS (stA a) s (x :: r) = goS (stA a) (nxt a s x) r := by
        show (stA a s x).bind _ = _
        unfold stA
        rw [if_neg hn]
        rfl
      rw [e]
      exact endL_go hw r (nxt a s x) (by omega)
theorem endL_iff {a : Aut} (hw : WF a) {ws : List Int} {s t : Int} (hs : 0 ≤ s) (ht : 0 ≤ t) : endL a s ws = t ↔ goS (stA a) s ws = some t := by
  obtain ⟨h1, h2⟩ := endL_go hw ws s hs
  cases hg : goS (stA a) s ws with
  | none =>
    have := h2 hg
    constructor
    · intro h; omega
    · intro h; cases h
  | some u =>
    have := (h1 u hg).1
    constructor
    · intro h; rw [← h, this]
    · intro h; injection h with h; rw [this, h]
end
end Go.Proofs.Ytddhaidimadliaa

/- Plain: the words of the visits of an excuse's search; how many visits there are (chapter 41). -/
namespace Go.Proofs.Ytddhaidimadliaa
open Go

section
variable {m : Dm} {c : Int} {o : List Int} {l q : List Vst}
theorem exB_len : ∀ (g : Nat) (k : Int), (exB l g k).length ≤ g
  | 0, _ => Nat.le_refl _
  | g + 1, k => by
    unfold exB
    cases l[k.toNat]? with
    | none => exact Nat.zero_le _
    | some t =>
      simp only
      by_cases hf : t.f < 0
      · rw [if_pos hf]; exact Nat.zero_le _
      · rw [if_neg hf, List.length_cons]
        exact Nat.succ_le_succ (exB_len g t.f)
/-- no place is visited twice, and all are in range -/
structure ExD (m : Dm) (o : List Int) (l : List Vst) : Prop where
  nd : (l.map fun t => (t.s, t.k)).Nodup
  rng : ∀ t ∈ l, (0 ≤ t.s ∧ t.s < m.a.st) ∧ t.k ≤ o.length
theorem exH_iff {s : Int} {k : Nat} : exH l s k = true ↔ (s, k) ∈ l.map fun t => (t.s, t.k) := by
  unfold exH
  rw [List.any_eq_true, List.mem_map]
  constructor
  · rintro ⟨t, ht, h⟩
    rw [Bool.and_eq_true, beq_iff_eq, beq_iff_eq] at h
    exact ⟨t, ht, by rw [h.1, h.2]⟩
  · rintro ⟨t, ht, h⟩
    injection h with h1 h2
    exact ⟨t, ht, by rw [h1, h2]; simp⟩
theorem ExD.push (hw : WF m.a) (h : ExD m o l) {t : Vst} (ht : t ∈ l) {x : Int} {p : Int × Nat} (hp : exN m c o t.s t.k x = some p) (hn : exH l p.1 p.2 = false) (i : Int) : ExD m o (l ++ [⟨p.1, p.2, i, x⟩]) := by
  obtain ⟨e1, _, e3, e4⟩ := exN_some hp
  refine ⟨?_, fun u hu => ?_⟩
  · rw [List.map_append, List.nodup_append]
    refine ⟨h.nd, by simp, fun a ha b hb => ?_⟩
    have hb : b = (p.1, p.2) := by simpa using hb
    rw [hb]
    rintro rfl
    have := exH_iff.2 ha
    rw [hn] at this
    cases this
  · rcases List.mem_append.1 hu with hu | hu
    · exact h.rng u hu
    · rw [List.mem_singleton.1 hu]
      refine ⟨by rw [show (⟨p.1, p.2, i, x⟩ : Vst).s = p.1 from rfl, e3]; exact nxt_in hw e1, ?_⟩
      show p.2 ≤ o.length
      have htl := (h.rng t ht).2
      rcases e4 with ⟨_, h1, h2⟩ | ⟨_, h2⟩
      · have := (List.getElem?_eq_some_iff.1 h1).1
        omega
      · omega
theorem ExD.len (h : ExD m o l) : l.length ≤ m.a.st.toNat * (o.length + 1) := by
  have := nodup_le (m := (rngI m.a.st).flatMap fun s => (List.range (o.length + 1)).map fun k => (s, k)) h.nd (fun p hp => by
    obtain ⟨t, ht, rfl⟩ := List.mem_map.1 hp
    have hr := h.rng t ht
    rw [List.mem_flatMap]
    exact ⟨t.s, rngI_mem.2 hr.1, List.mem_map.2 ⟨t.k, List.mem_range.2 (by omega), rfl⟩⟩)
  rw [List.length_map, List.length_flatMap] at this
  simp only [List.length_map, List.length_range] at this
  rw [List.map_const', List.sum_replicate_nat, rngI_len] at this
  exact this
end
end Go.Proofs.Ytddhaidimadliaa

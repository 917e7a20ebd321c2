/- Plain laws: the search in breadth of a machine. -/
import Derived.Test.YtbdliebjalghmaaDoorQa
namespace Go.Proofs.YtbdliebjalghmaaDoor

section
variable {σ : Type} [DecidableEq σ]
/-- the first place of an element, or -1 -/
def idx : List σ → σ → Int
  | [], _ => -1
  | y :: r, x => if y = x then 0 else if idx r x < 0 then -1 else idx r x + 1
theorem idx_ge : ∀ (l : List σ) (x : σ), -1 ≤ idx l x
  | [], _ => by simp [idx]
  | y :: r, x => by
    have := idx_ge r x
    unfold idx; split
    · omega
    · split <;> omega
theorem idx_no : ∀ {l : List σ} {x : σ}, x ∉ l → idx l x = -1
  | [], _, _ => rfl
  | y :: r, x, h => by
    have h1 : ¬ y = x := fun e => h (by rw [e]; exact List.mem_cons_self ..)
    have := idx_no (l := r) (x := x) (fun e => h (List.mem_cons_of_mem _ e))
    unfold idx; rw [if_neg h1, this]; rfl
theorem idx_yes : ∀ {l : List σ} {x : σ}, x ∈ l → ∃ k : Nat, idx l x = k ∧ l[k]? = some x
  | [], _, h => by simp at h
  | y :: r, x, h => by
    unfold idx
    by_cases h1 : y = x
    · rw [if_pos h1]; exact ⟨0, rfl, by simp [h1]⟩
    · rw [if_neg h1]
      obtain ⟨k, h2, h3⟩ := idx_yes ((List.mem_cons.1 h).resolve_left (fun e => h1 e.symm))
      rw [h2, if_neg (by omega)]
      exact ⟨k + 1, by omega, by simpa using h3⟩
theorem idx_neg {l : List σ} {x : σ} : idx l x < 0 ↔ x ∉ l := by
  constructor
  · intro h hx
    obtain ⟨k, h2, _⟩ := idx_yes hx
    omega
  · intro h; rw [idx_no h]; omega
theorem idx_at {l : List σ} {k : Nat} {x : σ} (hn : l.Nodup) (h : l[k]? = some x) : idx l x = k := by
  obtain ⟨j, h1, h2⟩ := idx_yes (List.mem_of_getElem? h)
  obtain ⟨a1, a2⟩ := List.getElem?_eq_some_iff.1 h
  obtain ⟨b1, b2⟩ := List.getElem?_eq_some_iff.1 h2
  have := (List.getElem_inj hn).1 (a2.trans b2.symm)
  omega
theorem idx_app : ∀ {l m : List σ} {x : σ}, x ∈ l → idx (l ++ m) x = idx l x
  | [], _, _, h => by simp at h
  | y :: r, m, x, h => by
    show idx (y :: (r ++ m)) x = _
    unfold idx
    by_cases h1 : y = x
    · rw [if_pos h1, if_pos h1]
    · rw [if_neg h1, if_neg h1, idx_app ((List.mem_cons.1 h).resolve_left (fun e => h1 e.symm))]
theorem idx_new : ∀ {l : List σ} {x : σ}, x ∉ l → idx (l ++ [x]) x = l.length
  | [], x, _ => by simp [idx]
  | y :: r, x, h => by
    have h1 : ¬ y = x := fun e => h (by rw [e]; exact List.mem_cons_self ..)
    have ih := idx_new (l := r) (x := x) (fun e => h (List.mem_cons_of_mem _ e))
    show idx (y :: (r ++ [x])) x = _
    unfold idx
    rw [if_neg h1, ih, if_neg (by omega)]; simp
/-- going through a list -/
theorem idx_hit : ∀ {l : List σ} {k : Nat} {x : σ}, l[k]? = some x → x ∉ l.take k → idx l x = k
  | [], k, x, h, _ => by simp at h
  | y :: r, 0, x, h, _ => by simp at h; simp [idx, h]
  | y :: r, k + 1, x, h, hn => by
    have h' : r[k]? = some x := by simpa using h
    simp only [List.take_succ_cons, List.mem_cons, not_or] at hn
    unfold idx
    rw [if_neg (fun e => hn.1 e.symm), idx_hit h' hn.2, if_neg (by omega)]
    omega
omit [DecidableEq σ] in
theorem not_take_succ {l : List σ} {k : Nat} {x y : σ} (h : l[k]? = some y) (hn : x ∉ l.take k) (hy : y ≠ x) : x ∉ l.take (k + 1) := by
  rw [take_snoc' h, List.mem_append, List.mem_singleton]
  rintro (h | h)
  · exact hn h
  · exact hy h.symm
theorem idx_end {l : List σ} {k : Nat} {x : σ} (hn : x ∉ l.take k) (h : ¬ k < l.length) : idx l x = -1 := idx_no (by rwa [List.take_of_length_le (by omega)] at hn)

/-- the states that are found, and the edges -/
structure Bs (σ : Type) where
  ts : List σ
  es : List Ed
def bsE (C : Nat) (st : σ → Int → Option σ) (i : Nat) (t : σ) (s : Bs σ) (v : Int) : Option (Bs σ) :=
  match st t v with
  | none => some s
  | some x => if idx s.ts x < 0 then (if s.ts.length = C then none else some ⟨s.ts ++ [x], s.es ++ [⟨i, v, s.ts.length⟩]⟩) else some ⟨s.ts, s.es ++ [⟨i, v, idx s.ts x⟩]⟩
def bsF (C : Nat) (st : σ → Int → Option σ) (i : Nat) (t : σ) : List Int → Bs σ → Option (Bs σ)
  | [], s => some s
  | v :: V, s => match bsE C st i t s v with
    | none => none
    | some s' => bsF C st i t V s'
def bsR (C : Nat) (st : σ → Int → Option σ) (V : List Int) : Nat → Nat → Bs σ → Option (Bs σ)
  | 0, _, s => some s
  | n + 1, i, s => match s.ts[i]? with
    | none => some s
    | some t => match bsF C st i t V s with
      | none => none
      | some s' => bsR C st V n (i + 1) s'
def bfs (C : Nat) (st : σ → Int → Option σ) (V : List Int) (x0 : σ) : Option (Bs σ) := bsR C st V (C + 1) 0 ⟨[x0], []⟩

section
variable {C : Nat} {st : σ → Int → Option σ} {i : Nat} {t x : σ} {s s' : Bs σ} {v : Int}
theorem bsE_none (h : st t v = none) : bsE C st i t s v = some s := by unfold bsE; rw [h]
theorem bsE_old (h : st t v = some x) (hi : ¬ idx s.ts x < 0) : bsE C st i t s v = some ⟨s.ts, s.es ++ [⟨i, v, idx s.ts x⟩]⟩ := by unfold bsE; rw [h]; simp only; rw [if_neg hi]
theorem bsE_new (h : st t v = some x) (hi : idx s.ts x < 0) (hC : s.ts.length ≠ C) : bsE C st i t s v = some ⟨s.ts ++ [x], s.es ++ [⟨i, v, s.ts.length⟩]⟩ := by unfold bsE; rw [h]; simp only; rw [if_pos hi, if_neg hC]
theorem bsE_full (h : st t v = some x) (hi : idx s.ts x < 0) (hC : s.ts.length = C) : bsE C st i t s v = none := by unfold bsE; rw [h]; simp only; rw [if_pos hi, if_pos hC]
theorem bsF_go {V : List Int} {k : Nat} (hv : V[k]? = some v) (h : bsE C st i t s v = some s') : bsF C st i t (V.drop k) s = bsF C st i t (V.drop (k + 1)) s' := by
  rw [drop_cons' hv, bsF, h]
theorem bsF_full {V : List Int} {k : Nat} (hv : V[k]? = some v) (h : bsE C st i t s v = none) : bsF C st i t (V.drop k) s = none := by
  rw [drop_cons' hv, bsF, h]
theorem bsF_end {V : List Int} {k : Nat} (h : ¬ k < V.length) : bsF C st i t (V.drop k) s = some s := by
  rw [List.drop_of_length_le (by omega)]; rfl
theorem bsR_end {V : List Int} {n : Nat} (h : ¬ i < s.ts.length) : bsR C st V n i s = some s := by
  cases n with
  | zero => rfl
  | succ n => rw [bsR, List.getElem?_eq_none (by omega)]
theorem bsR_go {V : List Int} {n : Nat} (ht : s.ts[i]? = some t) (h : bsF C st i t V s = some s') : bsR C st V (n + 1) i s = bsR C st V n (i + 1) s' := by
  rw [bsR, ht]; simp only [h]
theorem bsR_full {V : List Int} {n : Nat} (ht : s.ts[i]? = some t) (h : bsF C st i t V s = none) : bsR C st V (n + 1) i s = none := by
  rw [bsR, ht]; simp only [h]
end

/-- what can be reached -/
inductive Rch (st : σ → Int → Option σ) (V : List Int) (x0 : σ) : σ → Prop where
  | start : Rch st V x0 x0
  | step {t x : σ} {v : Int} : Rch st V x0 t → v ∈ V → st t v = some x → Rch st V x0 x

/-- the edges of a state -/
def edRow (st : σ → Int → Option σ) (ts : List σ) (j : Nat) (t : σ) (D : List Int) : List Ed := D.filterMap (fun v => (st t v).map (fun x => ⟨j, v, idx ts x⟩))
def edsOf (st : σ → Int → Option σ) (V : List Int) (ts : List σ) : Nat → List Ed
  | 0 => []
  | i + 1 => edsOf st V ts i ++ (match ts[i]? with | some t => edRow st ts i t V | none => [])
/-- closed under the steps of the first i states -/
def clo (st : σ → Int → Option σ) (V : List Int) (ts : List σ) (i : Nat) : Prop := ∀ j t v x, j < i → ts[j]? = some t → v ∈ V → st t v = some x → x ∈ ts
theorem edRow_app {st : σ → Int → Option σ} {ts m : List σ} {j : Nat} {t : σ} {D : List Int} (h : ∀ v ∈ D, ∀ x, st t v = some x → x ∈ ts) : edRow st (ts ++ m) j t D = edRow st ts j t D := by
  unfold edRow
  induction D with
  | nil => rfl
  | cons v D ih =>
    have h1 := ih (fun u hu => h u (List.mem_cons_of_mem _ hu))
    simp only [List.filterMap_cons]
    cases hs : st t v with
    | none => simpa using h1
    | some x => simp only [Option.map_some]; rw [h1, idx_app (h v (List.mem_cons_self ..) x hs)]
theorem edsOf_app {st : σ → Int → Option σ} {V : List Int} {ts m : List σ} : ∀ {i : Nat}, i ≤ ts.length → clo st V ts i → edsOf st V (ts ++ m) i = edsOf st V ts i
  | 0, _, _ => rfl
  | i + 1, hi, hc => by
    unfold edsOf
    rw [edsOf_app (by omega) (fun j t v x hj => hc j t v x (by omega)), List.getElem?_append_left (by omega)]
    have hti : ts[i]? = some ts[i] := List.getElem?_eq_getElem (by omega)
    rw [hti]
    simp only
    rw [edRow_app (fun v hv x hx => hc i _ v x (by omega) hti hv hx)]
omit [DecidableEq σ] in
theorem clo_app {st : σ → Int → Option σ} {V : List Int} {ts m : List σ} {i : Nat} (hi : i ≤ ts.length) (h : clo st V ts i) : clo st V (ts ++ m) i := fun j t v x hj ht hv hx => by
  rw [List.getElem?_append_left (by omega)] at ht
  exact List.mem_append_left _ (h j t v x hj ht hv hx)

/-- in the midst of a state's events -/
structure FInv (C : Nat) (st : σ → Int → Option σ) (V : List Int) (x0 : σ) (i : Nat) (t : σ) (D : List Int) (s : Bs σ) : Prop where
  nd : s.ts.Nodup
  at_ : s.ts[i]? = some t
  len : s.ts.length ≤ C
  head : s.ts[0]? = some x0
  es : s.es = edsOf st V s.ts i ++ edRow st s.ts i t D
  clo : clo st V s.ts i
  cloD : ∀ v ∈ D, ∀ x, st t v = some x → x ∈ s.ts
  rch : ∀ x ∈ s.ts, Rch st V x0 x
structure BInv (C : Nat) (st : σ → Int → Option σ) (V : List Int) (x0 : σ) (i : Nat) (s : Bs σ) : Prop where
  nd : s.ts.Nodup
  le : i ≤ s.ts.length
  len : s.ts.length ≤ C
  head : s.ts[0]? = some x0
  es : s.es = edsOf st V s.ts i
  clo : clo st V s.ts i
  rch : ∀ x ∈ s.ts, Rch st V x0 x
/-- why a search ends with 'too many' -/
def Many (C : Nat) (st : σ → Int → Option σ) (V : List Int) (x0 : σ) : Prop := ∃ (l : List σ), l.Nodup ∧ l.length = C + 1 ∧ ∀ x ∈ l, Rch st V x0 x
section
variable {C : Nat} {st : σ → Int → Option σ} {V : List Int} {x0 : σ} {i : Nat} {t : σ} {D : List Int} {s s' : Bs σ} {v : Int}
theorem FInv.lt (h : FInv C st V x0 i t D s) : i < s.ts.length := (List.getElem?_eq_some_iff.1 h.at_).1
theorem FInv.step (h : FInv C st V x0 i t D s) (hv : v ∈ V) : (∃ s', bsE C st i t s v = some s' ∧ FInv C st V x0 i t (D ++ [v]) s' ∧ s.ts <+: s'.ts) ∨ (bsE C st i t s v = none ∧ Many C st V x0) := by
  have hlt := h.lt
  cases hs : st t v with
  | none =>
    refine .inl ⟨s, bsE_none hs, ⟨h.nd, h.at_, h.len, h.head, ?_, h.clo, fun u hu x hx => ?_, h.rch⟩, List.prefix_refl _⟩
    · rw [h.es]; unfold edRow; rw [List.filterMap_append]; simp [hs]
    · rcases List.mem_append.1 hu with hu | hu
      · exact h.cloD u hu x hx
      · simp at hu; subst hu; rw [hs] at hx; cases hx
  | some x =>
    have hr : Rch st V x0 x := .step (h.rch t (List.mem_of_getElem? h.at_)) hv hs
    by_cases hi : idx s.ts x < 0
    · have hnx := idx_neg.1 hi
      by_cases hC : s.ts.length = C
      · refine .inr ⟨bsE_full hs hi hC, s.ts ++ [x], ?_, by simp [hC], fun y hy => ?_⟩
        · rw [List.nodup_append]
          exact ⟨h.nd, by simp, fun a ha b hb => by simp at hb; subst hb; rintro rfl; exact hnx ha⟩
        · rcases List.mem_append.1 hy with hy | hy
          · exact h.rch y hy
          · simp at hy; subst hy; exact hr
      · refine .inl ⟨_, bsE_new hs hi hC, ⟨?_, ?_, ?_, ?_, ?_, clo_app (by omega) h.clo, fun u hu y hy => ?_, fun y hy => ?_⟩, List.prefix_append _ _⟩
        · rw [List.nodup_append]
          exact ⟨h.nd, by simp, fun a ha b hb => by simp at hb; subst hb; rintro rfl; exact hnx ha⟩
        · show (s.ts ++ [x])[i]? = _
          rw [List.getElem?_append_left hlt]; exact h.at_
        · have := h.len; simp; omega
        · show (s.ts ++ [x])[0]? = _
          rw [List.getElem?_append_left (by omega)]; exact h.head
        · show s.es ++ _ = edsOf st V (s.ts ++ [x]) i ++ edRow st (s.ts ++ [x]) i t (D ++ [v])
          rw [edsOf_app (by omega) h.clo, h.es, List.append_assoc]
          congr 1
          unfold edRow
          rw [List.filterMap_append]
          have e1 := edRow_app (m := [x]) (j := i) h.cloD
          unfold edRow at e1
          rw [e1]
          simp [hs, idx_new hnx]
        · rcases List.mem_append.1 hu with hu | hu
          · exact List.mem_append_left _ (h.cloD u hu y hy)
          · simp at hu; subst hu; rw [hs] at hy; injection hy with hy; subst hy
            exact List.mem_append_right _ (List.mem_singleton.2 rfl)
        · rcases List.mem_append.1 hy with hy | hy
          · exact h.rch y hy
          · simp at hy; subst hy; exact hr
    · refine .inl ⟨_, bsE_old hs hi, ⟨h.nd, h.at_, h.len, h.head, ?_, h.clo, fun u hu y hy => ?_, h.rch⟩, List.prefix_refl _⟩
      · show s.es ++ _ = edsOf st V s.ts i ++ edRow st s.ts i t (D ++ [v])
        rw [h.es, List.append_assoc]
        congr 1
        unfold edRow
        rw [List.filterMap_append]; simp [hs]
      · rcases List.mem_append.1 hu with hu | hu
        · exact h.cloD u hu y hy
        · simp at hu; subst hu; rw [hs] at hy; injection hy with hy; subst hy
          by_cases hm : x ∈ s.ts
          · exact hm
          · exact absurd (idx_neg.2 hm) hi
theorem FInv.run : ∀ {R D : List Int} {s : Bs σ}, FInv C st V x0 i t D s → (∀ v ∈ R, v ∈ V) → (∃ s', bsF C st i t R s = some s' ∧ FInv C st V x0 i t (D ++ R) s' ∧ s.ts <+: s'.ts) ∨ (bsF C st i t R s = none ∧ Many C st V x0)
  | [], D, s, h, _ => .inl ⟨s, rfl, by simpa using h, List.prefix_refl _⟩
  | v :: R, D, s, h, hR => by
    rcases h.step (hR v (List.mem_cons_self ..)) with ⟨s1, e1, h1, p1⟩ | ⟨e1, h1⟩
    · rcases FInv.run h1 (fun u hu => hR u (List.mem_cons_of_mem _ hu)) with ⟨s2, e2, h2, p2⟩ | ⟨e2, h2⟩
      · refine .inl ⟨s2, by rw [bsF, e1]; exact e2, ?_, p1.trans p2⟩
        rwa [List.append_assoc] at h2
      · exact .inr ⟨by rw [bsF, e1]; exact e2, h2⟩
    · exact .inr ⟨by rw [bsF, e1], h1⟩
theorem BInv.enter (h : BInv C st V x0 i s) (ht : s.ts[i]? = some t) : FInv C st V x0 i t [] s := ⟨h.nd, ht, h.len, h.head, by rw [h.es]; simp [edRow], h.clo, fun v hv => by simp at hv, h.rch⟩
theorem FInv.leave (h : FInv C st V x0 i t V s) : BInv C st V x0 (i + 1) s := by
  refine ⟨h.nd, h.lt, h.len, h.head, ?_, fun j u v x hj hu hv hx => ?_, h.rch⟩
  · rw [h.es, edsOf, h.at_]
  · rcases Nat.lt_or_ge j i with hj' | hj'
    · exact h.clo j u v x hj' hu hv hx
    · obtain rfl : j = i := by omega
      rw [h.at_] at hu; injection hu with hu; subst hu
      exact h.cloD v hv x hx
theorem BInv.round (h : BInv C st V x0 i s) (ht : s.ts[i]? = some t) : (∃ s', bsF C st i t V s = some s' ∧ BInv C st V x0 (i + 1) s' ∧ s.ts <+: s'.ts) ∨ (bsF C st i t V s = none ∧ Many C st V x0) := by
  rcases (h.enter ht).run (R := V) (fun v hv => hv) with ⟨s', e, h', p⟩ | h'
  · exact .inl ⟨s', e, FInv.leave (by simpa using h'), p⟩
  · exact .inr h'
theorem BInv.run : ∀ {n i : Nat} {s : Bs σ}, BInv C st V x0 i s → C < n + i → (∃ s', bsR C st V n i s = some s' ∧ BInv C st V x0 s'.ts.length s' ∧ s.ts <+: s'.ts) ∨ (bsR C st V n i s = none ∧ Many C st V x0)
  | 0, i, s, h, hn => by have := h.le; have := h.len; omega
  | n + 1, i, s, h, hn => by
    by_cases hi : i < s.ts.length
    · have ht : s.ts[i]? = some s.ts[i] := List.getElem?_eq_getElem hi
      rcases h.round ht with ⟨s1, e1, h1, p1⟩ | ⟨e1, h1⟩
      · rw [bsR_go ht e1]
        rcases BInv.run (n := n) h1 (by omega) with ⟨s2, e2, h2, p2⟩ | h2
        · exact .inl ⟨s2, e2, h2, p1.trans p2⟩
        · exact .inr h2
      · exact .inr ⟨bsR_full ht e1, h1⟩
    · have hle := h.le
      obtain rfl : i = s.ts.length := by omega
      exact .inl ⟨s, bsR_end hi, h, List.prefix_refl _⟩
theorem BInv.begin (hC : 1 ≤ C) : BInv C st V x0 0 ⟨[x0], []⟩ := ⟨by simp, Nat.zero_le _, by simpa using hC, rfl, rfl, fun j t v x hj => by omega, fun x hx => by simp at hx; subst hx; exact .start⟩
/-- What a search returns. -/
theorem bfs_spec (hC : 1 ≤ C) : (∃ s, bfs C st V x0 = some s ∧ BInv C st V x0 s.ts.length s) ∨ (bfs C st V x0 = none ∧ Many C st V x0) := by
  rcases BInv.run (n := C + 1) (BInv.begin (st := st) (V := V) (x0 := x0) hC) (by omega) with ⟨s, e, h, _⟩ | h
  · exact .inl ⟨s, e, h⟩
  · exact .inr h
theorem BInv.all (h : BInv C st V x0 s.ts.length s) {x : σ} (hx : Rch st V x0 x) : x ∈ s.ts := by
  induction hx with
  | start => exact List.mem_of_getElem? h.head
  | step ht hv hs ih =>
    obtain ⟨j, hj⟩ := List.getElem?_of_mem ih
    exact h.clo j _ _ _ (List.getElem?_eq_some_iff.1 hj).1 hj hv hs
theorem BInv.mem_iff (h : BInv C st V x0 s.ts.length s) {x : σ} : x ∈ s.ts ↔ Rch st V x0 x := ⟨h.rch x, h.all⟩
end
theorem nodup_le {α : Type} [DecidableEq α] : ∀ {l m : List α}, l.Nodup → (∀ x ∈ l, x ∈ m) → l.length ≤ m.length
  | [], m, _, _ => by simp
  | a :: l, m, hn, hm => by
    obtain ⟨h1, h2⟩ := List.nodup_cons.1 hn
    have ha := hm a (List.mem_cons_self ..)
    have ih := nodup_le (l := l) (m := m.erase a) h2 (fun x hx => (List.mem_erase_of_ne (by rintro rfl; exact h1 hx)).2 (hm x (List.mem_cons_of_mem _ hx)))
    rw [List.length_erase_of_mem ha] at ih
    have : 0 < m.length := List.length_pos_of_mem ha
    simp; omega
theorem not_many {C : Nat} {st : σ → Int → Option σ} {V : List Int} {x0 : σ} (U : List σ) (hU : U.length ≤ C) (h : ∀ x, Rch st V x0 x → x ∈ U) : ¬ Many C st V x0 := by
  rintro ⟨l, h1, h2, h3⟩
  have := nodup_le h1 (fun x hx => h x (h3 x hx))
  omega
end

section
variable {σ τ : Type} [DecidableEq σ] [DecidableEq τ]
theorem idx_map {φ : σ → τ} : ∀ {l : List σ} {x : σ}, (∀ y ∈ l, φ y = φ x → y = x) → idx (l.map φ) (φ x) = idx l x
  | [], _, _ => rfl
  | y :: r, x, h => by
    have ih := idx_map (φ := φ) (l := r) (x := x) (fun z hz => h z (List.mem_cons_of_mem _ hz))
    show idx (φ y :: r.map φ) (φ x) = _
    unfold idx
    by_cases h1 : y = x
    · rw [if_pos h1, if_pos (by rw [h1])]
    · rw [if_neg h1, if_neg (fun e => h1 (h y (List.mem_cons_self ..) e)), ih]
def Bs.map (φ : σ → τ) (s : Bs σ) : Bs τ := ⟨s.ts.map φ, s.es⟩
/-- two machines that step alike -/
structure Sim (st : σ → Int → Option σ) (st' : τ → Int → Option τ) (V : List Int) (φ : σ → τ) (P : σ → Prop) : Prop where
  pres : ∀ t v x, P t → v ∈ V → st t v = some x → P x
  comm : ∀ t v, P t → v ∈ V → st' (φ t) v = (st t v).map φ
  inj : ∀ x y, P x → P y → φ x = φ y → x = y
section
variable {C : Nat} {st : σ → Int → Option σ} {st' : τ → Int → Option τ} {V : List Int} {φ : σ → τ} {P : σ → Prop}
theorem Sim.e (h : Sim st st' V φ P) {i : Nat} {t : σ} {s : Bs σ} {v : Int} (ht : P t) (hs : ∀ x ∈ s.ts, P x) (hv : v ∈ V) : bsE C st' i (φ t) (s.map φ) v = (bsE C st i t s v).map (Bs.map φ) ∧ ∀ s', bsE C st i t s v = some s' → ∀ x ∈ s'.ts, P x := by
  have hc := h.comm t v ht hv
  cases hst : st t v with
  | none =>
    rw [hst] at hc
    rw [bsE_none hst, bsE_none hc]
    exact ⟨rfl, fun s' e => by injection e with e; subst e; exact hs⟩
  | some x =>
    rw [hst] at hc
    have hx := h.pres t v x ht hv hst
    have hi : idx (s.map φ).ts (φ x) = idx s.ts x := idx_map (fun y hy e => h.inj y x (hs y hy) hx e)
    have hl : (s.map φ).ts.length = s.ts.length := by simp [Bs.map]
    by_cases h1 : idx s.ts x < 0
    · by_cases h2 : s.ts.length = C
      · rw [bsE_full hst h1 h2, bsE_full hc (by rw [hi]; exact h1) (by rw [hl]; exact h2)]
        exact ⟨rfl, fun s' e => by cases e⟩
      · rw [bsE_new hst h1 h2, bsE_new hc (by rw [hi]; exact h1) (by rw [hl]; exact h2)]
        refine ⟨by simp [Bs.map], fun s' e => ?_⟩
        injection e with e; subst e
        intro y hy
        rcases List.mem_append.1 hy with hy | hy
        · exact hs y hy
        · simp at hy; subst hy; exact hx
    · rw [bsE_old hst h1, bsE_old hc (by rw [hi]; exact h1)]
      refine ⟨by simp [Bs.map, ← hi], fun s' e => ?_⟩
      injection e with e; subst e; exact hs
theorem Sim.f (h : Sim st st' V φ P) {i : Nat} {t : σ} (ht : P t) : ∀ {R : List Int} {s : Bs σ}, (∀ v ∈ R, v ∈ V) → (∀ x ∈ s.ts, P x) → bsF C st' i (φ t) R (s.map φ) = (bsF C st i t R s).map (Bs.map φ) ∧ ∀ s', bsF C st i t R s = some s' → ∀ x ∈ s'.ts, P x
  | [], s, _, hs => ⟨rfl, fun s' e => by injection e with e; subst e; exact hs⟩
  | v :: R, s, hR, hs => by
    obtain ⟨e1, e2⟩ := h.e (C := C) (i := i) ht hs (hR v (List.mem_cons_self ..))
    unfold bsF
    rw [e1]
    cases hb : bsE C st i t s v with
    | none => exact ⟨rfl, fun s' e => by cases e⟩
    | some s1 => exact Sim.f h ht (fun u hu => hR u (List.mem_cons_of_mem _ hu)) (e2 s1 hb)
theorem Sim.r (h : Sim st st' V φ P) : ∀ {n i : Nat} {s : Bs σ}, (∀ x ∈ s.ts, P x) → bsR C st' V n i (s.map φ) = (bsR C st V n i s).map (Bs.map φ) ∧ ∀ s', bsR C st V n i s = some s' → ∀ x ∈ s'.ts, P x
  | 0, i, s, hs => ⟨rfl, fun s' e => by injection e with e; subst e; exact hs⟩
  | n + 1, i, s, hs => by
    unfold bsR
    have hg : (s.map φ).ts[i]? = s.ts[i]?.map φ := by simp [Bs.map]
    rw [hg]
    cases ht : s.ts[i]? with
    | none => exact ⟨rfl, fun s' e => by injection e with e; subst e; exact hs⟩
    | some t =>
      obtain ⟨e1, e2⟩ := h.f (C := C) (i := i) (hs t (List.mem_of_getElem? ht)) (R := V) (s := s) (fun v hv => hv) hs
      simp only [Option.map_some]
      rw [e1]
      cases hb : bsF C st i t V s with
      | none => exact ⟨rfl, fun s' e => by cases e⟩
      | some s1 => exact Sim.r h (e2 s1 hb)
/-- Machines that step alike are searched alike. -/
theorem Sim.bfs (h : Sim st st' V φ P) {x0 : σ} (h0 : P x0) : bfs C st' V (φ x0) = (Proofs.YtbdliebjalghmaaDoor.bfs C st V x0).map (Bs.map φ) ∧ ∀ s', Proofs.YtbdliebjalghmaaDoor.bfs C st V x0 = some s' → ∀ x ∈ s'.ts, P x := by
  have := Sim.r (C := C) h (n := C + 1) (i := 0) (s := ⟨[x0], []⟩) (fun x hx => by simp at hx; subst hx; exact h0)
  exact this
end
end
end Go.Proofs.YtbdliebjalghmaaDoor

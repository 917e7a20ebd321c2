/- Plain: in the order of Words the first word that leads to a bad state is the one that Check returns (for ControllableChecks). -/
import Derived.Test.YtcchnibgehonoaaDoorDt
namespace Go.Proofs.YtcchnibgehonoaaDoor

/-- among the edges the states are met in turn -/
def Ord (n : Nat) (es : List Ed) : Prop := (∀ x ∈ es, x.t < (n : Int)) ∧ ∀ (j : Nat) (x : Ed) (s : Int), es[j]? = some x → 0 < s → s < x.t → ∃ (k : Nat) (y : Ed), k < j ∧ es[k]? = some y ∧ y.t = s
theorem ord_snoc {n n' : Nat} {es : List Ed} {x : Ed} (ho : Ord n es) (hp : Par n es) (hx : x.t ≤ (n : Int)) (hn : n ≤ n') (hx' : x.t < (n' : Int)) : Ord n' (es ++ [x]) := by
 refine ⟨fun y hy => ?_, fun j y s hj h0 hs => ?_⟩
 ·rcases List.mem_append.1 hy with h1 | h1
  ·have := ho.1 y h1; omega
  ·obtain rfl := List.mem_singleton.1 h1; exact hx'
 ·by_cases hlt : j < es.length
  ·rw [List.getElem?_append_left hlt] at hj
   obtain ⟨k, z, h1, h2, h3⟩ := ho.2 j y s hj h0 hs
   exact ⟨k, z, h1, by rw [List.getElem?_append_left (by omega)]; exact h2, h3⟩
  ·rw [List.getElem?_append_right (by omega)] at hj
   have hy : y = x := by
    cases hk : j - es.length with
    | zero => rw [hk] at hj; simpa using hj.symm
    | succ k => rw [hk] at hj; simp at hj
   subst hy
   obtain ⟨z, h1, h2, _⟩ := hp s.toNat (by omega) (by omega)
   obtain ⟨k, hk⟩ := List.getElem?_of_mem h1
   have hkl := (List.getElem?_eq_some_iff.1 hk).1
   exact ⟨k, z, by omega, by rw [List.getElem?_append_left hkl]; exact hk, by omega⟩
section
variable {σ : Type} [DecidableEq σ] {C : Nat} {st : σ → Int → Option σ}
theorem bsE_ord {i : Nat} {t : σ} {v : Int} {s s' : Bs σ} (h : Par s.ts.length s.es) (ho : Ord s.ts.length s.es) (he : bsE C st i t s v = some s') : Ord s'.ts.length s'.es := by
 unfold bsE at he
 cases hs : st t v with
 | none => rw [hs] at he; injection he with he; subst he; exact ho
 | some x =>
  rw [hs] at he
  simp only at he
  split at he
  ·split at he
   ·cases he
   ·injection he with he; subst he
    show Ord (s.ts ++ [x]).length _
    rw [List.length_append, List.length_singleton]
    exact ord_snoc ho h (Int.le_refl _) (by omega) (by show ((s.ts.length : Nat) : Int) < _; omega)
  ·rename_i hi
   injection he with he; subst he
   have hm : x ∈ s.ts := by
    by_cases hm : x ∈ s.ts
    ·exact hm
    ·exact absurd (idx_neg.2 hm) hi
   obtain ⟨m, h1, h2⟩ := idx_yes hm
   have hlt := (List.getElem?_eq_some_iff.1 h2).1
   exact ord_snoc ho h (by show idx s.ts x ≤ _; omega) (Nat.le_refl _) (by show idx s.ts x < ((s.ts.length : Nat) : Int); omega)
theorem bsF_ord {i : Nat} {t : σ} : ∀ {V : List Int} {s s' : Bs σ}, Par s.ts.length s.es → Ord s.ts.length s.es → i < s.ts.length → bsF C st i t V s = some s' → Ord s'.ts.length s'.es
 | [], s, s', _, ho, _, he => by injection he with he; subst he; exact ho
 | v :: V, s, s', h, ho, hi, he => by
  rw [bsF] at he
  cases h1 : bsE C st i t s v with
  | none => rw [h1] at he; cases he
  | some s1 =>
   rw [h1] at he
   obtain ⟨g1, g2⟩ := bsE_par h hi h1
   exact bsF_ord g1 (bsE_ord h ho h1) (by omega) he
theorem bsR_ord {V : List Int} : ∀ {n i : Nat} {s s' : Bs σ}, Par s.ts.length s.es → Ord s.ts.length s.es → bsR C st V n i s = some s' → Ord s'.ts.length s'.es
 | 0, i, s, s', _, ho, he => by injection he with he; subst he; exact ho
 | n + 1, i, s, s', h, ho, he => by
  rw [bsR] at he
  cases ht : s.ts[i]? with
  | none => rw [ht] at he; injection he with he; subst he; exact ho
  | some t =>
   rw [ht] at he
   simp only at he
   cases h1 : bsF C st i t V s with
   | none => rw [h1] at he; cases he
   | some s1 =>
    rw [h1] at he
    have hlt := (List.getElem?_eq_some_iff.1 ht).1
    exact bsR_ord (bsF_par h hlt h1) (bsF_ord h ho hlt h1) he
theorem bfs_ord {V : List Int} {x0 : σ} {s' : Bs σ} (he : bfs C st V x0 = some s') : Ord s'.ts.length s'.es :=
 bsR_ord (s := ⟨[x0], []⟩) (fun k h1 h2 => by have h2 : k < 1 := h2; omega) ⟨fun x hx => (by cases hx), fun j x s hj => (by simp at hj)⟩ he
end
theorem syn_ord {l : List Aut} {p : Aut} {T : List (List Int)} (h : synR l = some (p, T)) : Ord p.st.toNat p.ed := by
 unfold synR at h
 split at h
 ·simp only [Option.some.injEq, Prod.mk.injEq] at h
  obtain ⟨rfl, rfl⟩ := h
  exact ⟨fun x hx => (by cases hx), fun j x s hj => by simp at hj⟩
 ·cases hq : synS l with
  | none => rw [hq] at h; cases h
  | some s =>
   rw [hq] at h
   simp only [Option.map_some, Option.some.injEq, Prod.mk.injEq] at h
   obtain ⟨rfl, rfl⟩ := h
   exact bfs_ord (s' := s) hq
/-- what the product's automaton is like -/
structure Num (a : Aut) (N : Nat) : Prop where
 wf : WF a
 par : Par a.st.toNat a.ed
 ord : Ord a.st.toNat a.ed
 le : a.st ≤ (N : Int)
section
variable {a : Aut} {N : Nat}
theorem pathW_any (h : Num a N) : ∀ (s n m : Nat), (s : Int) < a.st → s ≤ n → s ≤ m → pathW a.ed n s = pathW a.ed m s := by
 intro s
 induction s using Nat.strongRecOn with
 | ind s ih =>
  intro n m hs hn hm
  by_cases h0 : s = 0
  ·subst h0
   rw [pathW_end (by omega), pathW_end (by omega)]
  ·obtain ⟨j, x, h1, h2, h3, h4, h5⟩ := first_edge h.wf h.par (s := (s : Int)) (by omega) hs
   obtain ⟨n, rfl⟩ : ∃ k, n = k + 1 := ⟨n - 1, by omega⟩
   obtain ⟨m, rfl⟩ : ∃ k, m = k + 1 := ⟨m - 1, by omega⟩
   rw [pathW_step (by omega) h1 h2, pathW_step (by omega) h1 h2]
   have := ih x.f.toNat (by omega) n m (by omega) (by omega) (by omega)
   rw [show ((x.f.toNat : Nat) : Int) = x.f by omega] at this
   rw [this]
theorem path_run (h : Num a N) : ∀ (s n : Nat), (s : Int) < a.st → s ≤ n → goS (stA a) 0 (pathW a.ed n s).reverse = some (s : Int) := by
 intro s
 induction s using Nat.strongRecOn with
 | ind s ih =>
  intro n hs hn
  by_cases h0 : s = 0
  ·subst h0
   rw [pathW_end (by omega)]; rfl
  ·obtain ⟨j, x, h1, h2, h3, h4, h5⟩ := first_edge h.wf h.par (s := (s : Int)) (by omega) hs
   obtain ⟨n, rfl⟩ : ∃ k, n = k + 1 := ⟨n - 1, by omega⟩
   rw [pathW_step (by omega) h1 h2, List.reverse_cons, goS_app]
   have := ih x.f.toNat (by omega) n (by omega) (by omega)
   rw [show ((x.f.toNat : Nat) : Int) = x.f by omega] at this
   rw [this]
   show (stA a x.f x.e).bind _ = _
   have hx : (⟨x.f, x.e, x.t⟩ : Ed) ∈ a.ed := List.mem_of_getElem? h2
   rw [stA_some.2 ((nxt_ed h.wf).1 hx), h3]
   rfl
theorem filter_at {p : Ed → Bool} : ∀ (es : List Ed) (k : Nat) (e : Ed), (es.filter p)[k]? = some e → ∃ j, es[j]? = some e ∧ p e = true ∧ ∀ (j' : Nat) (e' : Ed), j' < j → es[j']? = some e' → p e' = true → ∃ k', k' < k ∧ (es.filter p)[k']? = some e'
 | [], k, e, h => by simp at h
 | y :: es, k, e, h => by
  by_cases hy : p y = true
  ·rw [List.filter_cons_of_pos hy] at h ⊢
   cases k with
   | zero =>
    have h : y = e := by simpa using h
    subst h
    exact ⟨0, rfl, hy, fun j' e' hj => by omega⟩
   | succ k =>
    obtain ⟨j, h1, h2, h3⟩ := filter_at es k e (by simpa using h)
    refine ⟨j + 1, by simpa using h1, h2, fun j' e' hj he hp => ?_⟩
    cases j' with
    | zero =>
     have he : y = e' := by simpa using he
     subst he
     exact ⟨0, by omega, rfl⟩
    | succ j' =>
     obtain ⟨k', g1, g2⟩ := h3 j' e' (by omega) (by simpa using he) hp
     exact ⟨k' + 1, by omega, by simpa using g2⟩
  ·rw [List.filter_cons_of_neg hy] at h ⊢
   obtain ⟨j, h1, h2, h3⟩ := filter_at es k e h
   refine ⟨j + 1, by simpa using h1, h2, fun j' e' hj he hp => ?_⟩
   cases j' with
   | zero =>
    have he : y = e' := by simpa using he
    subst he
    exact absurd hp hy
   | succ j' => exact h3 j' e' (by omega) (by simpa using he) hp
theorem row_mem {x : List Int × Int} {e : Ed} (he : e ∈ a.ed) (hf : e.f = x.2) : (x.1 ++ [e.e], e.t) ∈ wrow a x := List.mem_map.2 ⟨e, outE_mem.2 ⟨he, hf⟩, rfl⟩
theorem row_at {x z : List Int × Int} {k : Nat} (h : (wrow a x)[k]? = some z) : ∃ (j : Nat) (e : Ed), a.ed[j]? = some e ∧ e.f = x.2 ∧ z = (x.1 ++ [e.e], e.t) ∧ ∀ (j' : Nat) (e' : Ed), j' < j → a.ed[j']? = some e' → e'.f = x.2 → ∃ k' z', k' < k ∧ (wrow a x)[k']? = some z' ∧ z'.2 = e'.t := by
 unfold wrow at h ⊢
 rw [List.getElem?_map] at h
 cases hq : (outE a x.2)[k]? with
 | none => rw [hq] at h; cases h
 | some e =>
  rw [hq] at h
  injection h with h
  obtain ⟨j, h1, h2, h3⟩ := filter_at a.ed k e hq
  refine ⟨j, e, h1, by simpa using h2, h.symm, fun j' e' hj he hf => ?_⟩
  obtain ⟨k', g1, g2⟩ := h3 j' e' hj he (by simpa using hf)
  exact ⟨k', (x.1 ++ [e'.e], e'.t), g1, by rw [List.getElem?_map, show (outE a x.2)[k']? = some e' from g2]; rfl, rfl⟩
/-- where Words stands -/
structure EnI (a : Aut) (N i : Nat) (all : List (List Int × Int)) : Prop where
 zero : all[0]? = some ([], 0)
 run : ∀ x ∈ all, goS (stA a) 0 x.1 = some x.2
 kids : ∀ p x, p < i → all[p]? = some x → ∀ y ∈ wrow a x, y ∈ all
 mono : ∀ p x s, all[p]? = some x → 0 ≤ s → s < x.2 → ∃ (p' : Nat) (y : List Int × Int), p' < p ∧ all[p']? = some y ∧ y.2 = s
 path : ∀ p x, all[p]? = some x → (∀ (p' : Nat) (y : List Int × Int), p' < p → all[p']? = some y → y.2 ≠ x.2) → x.1 = (pathW a.ed N x.2).reverse
 srt : ∀ (p q : Nat) (x y : List Int × Int), p ≤ q → all[p]? = some x → all[q]? = some y → x.1.length ≤ y.1.length
 bnd : ∀ x y, x ∈ all → all[i]? = some y → x.1.length ≤ y.1.length + 1
theorem EnI.start : EnI a N 0 [([], 0)] := by
 have h1 : ∀ (p : Nat) (x : List Int × Int), ([(([] : List Int), (0 : Int))])[p]? = some x → p = 0 ∧ x = ([], 0) := fun p x h => by
  cases p with
  | zero => exact ⟨rfl, by simpa using h.symm⟩
  | succ p => simp at h
 refine ⟨rfl, fun x hx => ?_, fun p x hp => by omega, fun p x s h h0 hs => ?_, fun p x h _ => ?_, fun p q x y _ hx hy => ?_, fun x y hx hy => ?_⟩
 ·rw [List.mem_singleton.1 hx]; rfl
 ·obtain ⟨_, rfl⟩ := h1 p x h
  have hs : s < 0 := hs
  omega
 ·obtain ⟨_, rfl⟩ := h1 p x h
  show [] = (pathW a.ed N 0).reverse
  rw [pathW_end (by omega)]; rfl
 ·rw [(h1 p x hx).2]; exact Nat.zero_le _
 ·rw [List.mem_singleton.1 hx]; exact Nat.zero_le _
theorem EnI.step (hn : Num a N) {i : Nat} {all : List (List Int × Int)} (h : EnI a N i all) {x : List Int × Int} (hx : all[i]? = some x) : EnI a N (i + 1) (all ++ wrow a x) := by
 have hi := (List.getElem?_eq_some_iff.1 hx).1
 have hlen : 0 < all.length := by omega
 have cut : ∀ {p : Nat} {z : List Int × Int}, (all ++ wrow a x)[p]? = some z → (p < all.length ∧ all[p]? = some z) ∨ (all.length ≤ p ∧ (wrow a x)[p - all.length]? = some z) := fun {p z} hz => by
  by_cases hp : p < all.length
  ·rw [List.getElem?_append_left hp] at hz; exact .inl ⟨hp, hz⟩
  ·rw [List.getElem?_append_right (by omega)] at hz; exact .inr ⟨by omega, hz⟩
 have inl : ∀ {p : Nat} {z : List Int × Int}, all[p]? = some z → (all ++ wrow a x)[p]? = some z := fun {p z} hz => by
  rw [List.getElem?_append_left (List.getElem?_eq_some_iff.1 hz).1]; exact hz
 have mem : ∀ {z : List Int × Int}, z ∈ all → ∃ p, p < all.length ∧ (all ++ wrow a x)[p]? = some z := fun {z} hz => by
  obtain ⟨p, hp⟩ := List.getElem?_of_mem hz
  exact ⟨p, (List.getElem?_eq_some_iff.1 hp).1, inl hp⟩
 have rowl : ∀ {z : List Int × Int}, z ∈ wrow a x → z.1.length = x.1.length + 1 := fun {z} hz => by
  obtain ⟨e, _, rfl⟩ := List.mem_map.1 hz
  simp
 have early : ∀ {k j : Nat} {e : Ed}, (∀ (j' : Nat) (e' : Ed), j' < j → a.ed[j']? = some e' → e'.f = x.2 → ∃ k' z', k' < k ∧ (wrow a x)[k']? = some z' ∧ z'.2 = e'.t) → a.ed[j]? = some e → e.f = x.2 →
   ∀ (j' : Nat) (e' : Ed), j' < j → a.ed[j']? = some e' → ∃ (p' : Nat) (y : List Int × Int), p' < all.length + k ∧ (all ++ wrow a x)[p']? = some y ∧ y.2 = e'.t := fun {k j e} hrow hj hf j' e' hlt hj' => by
  obtain ⟨a1, a2⟩ := List.getElem?_eq_some_iff.1 hj'
  obtain ⟨b1, b2⟩ := List.getElem?_eq_some_iff.1 hj
  have hlx := List.pairwise_iff_getElem.1 hn.wf.einc j' j a1 b1 hlt
  rw [a2, b2] at hlx
  unfold edLt at hlx
  have h0 := (hn.wf.erng e' (List.mem_of_getElem? hj')).1
  have h0 : 0 ≤ e'.f := by unfold edOut at h0; omega
  by_cases hq : e'.f = x.2
  ·obtain ⟨k', z', g1, g2, g3⟩ := hrow j' e' hlt hj' hq
   exact ⟨all.length + k', z', by omega, by rw [List.getElem?_append_right (by omega), show all.length + k' - all.length = k' by omega]; exact g2, g3⟩
  ·obtain ⟨p', y', g1, g2, g3⟩ := h.mono i x e'.f hx h0 (by omega)
   obtain ⟨p2, m1, m2⟩ := mem (h.kids p' y' g1 g2 _ (row_mem (List.mem_of_getElem? hj') g3.symm))
   exact ⟨p2, _, by omega, m2, rfl⟩
 refine ⟨inl h.zero, fun z hz => ?_, fun p z hp hz y hy => ?_, fun p z s hz h0 hs => ?_, fun p z hz hf => ?_, fun p q z y hpq hz hy => ?_, fun z y hz hy => ?_⟩
 ·rcases List.mem_append.1 hz with hz | hz
  ·exact h.run z hz
  ·obtain ⟨e, he, rfl⟩ := List.mem_map.1 hz
   obtain ⟨g1, g2⟩ := outE_mem.1 he
   show goS (stA a) 0 (x.1 ++ [e.e]) = some e.t
   rw [goS_app, h.run x (List.mem_of_getElem? hx)]
   show (stA a x.2 e.e).bind _ = _
   have g3 : (⟨x.2, e.e, e.t⟩ : Ed) ∈ a.ed := by rw [← g2]; exact g1
   rw [stA_some.2 ((nxt_ed hn.wf).1 g3)]; rfl
 ·by_cases hpi : p = i
  ·subst hpi
   rw [inl hx] at hz
   injection hz with hz
   subst hz
   exact List.mem_append_right _ hy
  ·rcases cut hz with ⟨_, hz⟩ | ⟨h1, _⟩
   ·exact List.mem_append_left _ (h.kids p z (by omega) hz y hy)
   ·omega
 ·rcases cut hz with ⟨_, hz⟩ | ⟨h1, hz⟩
  ·obtain ⟨p', y, g1, g2, g3⟩ := h.mono p z s hz h0 hs
   exact ⟨p', y, g1, inl g2, g3⟩
  ·by_cases hs0 : s = 0
   ·exact ⟨0, _, by omega, inl h.zero, hs0.symm⟩
   ·obtain ⟨j, e, r1, r2, rfl, r3⟩ := row_at hz
    obtain ⟨k2, y2, o1, o2, o3⟩ := hn.ord.2 j e s r1 (by omega) hs
    obtain ⟨p', y, g1, g2, g3⟩ := early r3 r1 r2 k2 y2 o1 o2
    exact ⟨p', y, by omega, g2, by rw [g3, o3]⟩
 ·rcases cut hz with ⟨h1, hz⟩ | ⟨h1, hz⟩
  ·exact h.path p z hz fun p' y hp' hy => hf p' y hp' (inl hy)
  ·obtain ⟨j, e, r1, r2, rfl, r3⟩ := row_at hz
   have her := (hn.wf.erng e (List.mem_of_getElem? r1)).1
   have hr : (0 ≤ e.f ∧ e.f < a.st) ∧ 0 ≤ e.t ∧ e.t < a.st := by unfold edOut at her; omega
   have ht0 : e.t ≠ 0 := fun he => hf 0 _ (by omega) (inl h.zero) he.symm
   obtain ⟨j0, x0, f1, f2, f3, f4, f5⟩ := first_edge hn.wf hn.par (s := e.t) (by omega) (by omega)
   have hj0 : j0 = j := by
    rcases Nat.lt_trichotomy j0 j with hlt | he | hgt
    ·obtain ⟨p', y, g1, g2, g3⟩ := early r3 r1 r2 j0 x0 hlt f2
     exact absurd (g3.trans f3) (hf p' y (by omega) g2)
    ·exact he
    ·rcases idxP_spec (p := toB e.t) a.ed with ⟨q1, _⟩ | ⟨k, y, q1, _, _, q4⟩
     ·rw [q1] at f1; omega
     ·have hk : k = j0 := by rw [q1] at f1; omega
      subst hk
      have := q4 j e hgt r1
      unfold toB at this
      simp at this
   subst hj0
   rw [r1] at f2
   injection f2 with f2
   subst f2
   have hN : 1 ≤ N := by have := hn.le; omega
   obtain ⟨N', hN'⟩ : ∃ k, N = k + 1 := ⟨N - 1, by omega⟩
   show x.1 ++ [e.e] = (pathW a.ed N e.t).reverse
   have hp1 : pathW a.ed N e.t = e.e :: pathW a.ed N' e.f := by rw [hN']; exact pathW_step (by omega) f1 r1
   have hp2 : pathW a.ed N' e.f = pathW a.ed N e.f := by
    have := pathW_any hn e.f.toNat N' N (by omega) (by have := hn.le; omega) (by have := hn.le; omega)
    rw [show ((e.f.toNat : Nat) : Int) = e.f by omega] at this
    exact this
   rw [hp1, List.reverse_cons, hp2, r2]
   rw [← h.path i x hx fun p' y hp' hy he => by
    obtain ⟨p2, m1, m2⟩ := mem (h.kids p' y hp' hy _ (row_mem (List.mem_of_getElem? r1) (r2.trans he.symm)))
    exact hf p2 _ (by omega) m2 rfl]
 ·rcases cut hz with ⟨h1, hz⟩ | ⟨h1, hz⟩
  ·rcases cut hy with ⟨_, hy⟩ | ⟨_, hy⟩
   ·exact h.srt p q z y hpq hz hy
   ·rw [rowl (List.mem_of_getElem? hy)]
    exact h.bnd z x (List.mem_of_getElem? hz) hx
  ·rcases cut hy with ⟨h2, _⟩ | ⟨_, hy⟩
   ·omega
   ·rw [rowl (List.mem_of_getElem? hy), rowl (List.mem_of_getElem? hz)]; exact Nat.le_refl _
 ·have hxy : x.1.length ≤ y.1.length := by
   rcases cut hy with ⟨_, hy⟩ | ⟨_, hy⟩
   ·exact h.srt i (i + 1) x y (by omega) hx hy
   ·rw [rowl (List.mem_of_getElem? hy)]; omega
  rcases List.mem_append.1 hz with hz | hz
  ·have := h.bnd z x hz hx; omega
  ·rw [rowl hz]; omega
theorem wgo_en (hn : Num a N) {m : Nat} : ∀ (n i : Nat) (all l : List (List Int × Int)), EnI a N i all → 1025 ≤ n + i → all.length ≤ 1024 → wgo a m n i all = some l → ∃ i', EnI a N i' l ∧ ∀ y, l[i']? = some y → y.1.length = m
 | 0, i, all, l, h, hi, hl, e => by
  unfold wgo at e; injection e with e; subst e
  exact ⟨i, h, fun y hy => by have := (List.getElem?_eq_some_iff.1 hy).1; omega⟩
 | n + 1, i, all, l, h, hi, hl, e => by
  unfold wgo at e
  cases hx : all[i]? with
  | none =>
   rw [hx] at e; injection e with e; subst e
   exact ⟨i, h, fun y hy => by rw [hx] at hy; cases hy⟩
  | some x =>
   rw [hx] at e
   simp only at e
   split at e
   ·rename_i hm
    injection e with e; subst e
    exact ⟨i, h, fun y hy => by rw [hx] at hy; injection hy with hy; rw [← hy]; exact hm⟩
   ·split at e
    ·cases e
    ·exact wgo_en hn n (i + 1) _ l (h.step hn hx) (by omega) (by omega) e
theorem EnI.all (hn : Num a N) {m i : Nat} {l : List (List Int × Int)} (h : EnI a N i l) (hm : ∀ y, l[i]? = some y → y.1.length = m) : ∀ (n : Nat) (ws : List Int) (s : Int), ws.length = n → n ≤ m → goS (stA a) 0 ws = some s → (ws, s) ∈ l
 | 0, ws, s, h0, _, hg => by
  obtain rfl := List.eq_nil_of_length_eq_zero h0
  injection hg with hg
  subst hg
  exact List.mem_of_getElem? h.zero
 | n + 1, ws, s, hl, hnm, hg => by
  have hne : ws ≠ [] := by intro he; subst he; simp at hl
  rw [← List.dropLast_concat_getLast hne] at hg ⊢
  generalize hv : ws.getLast hne = v at hg ⊢
  have hd : ws.dropLast.length = n := by rw [List.length_dropLast]; omega
  generalize ws.dropLast = ds at hg hd ⊢
  rw [goS_app] at hg
  cases hr : goS (stA a) 0 ds with
  | none => rw [hr] at hg; cases hg
  | some r =>
   rw [hr] at hg
   have hs : stA a r v = some s := by
    have hg : (stA a r v).bind (fun u => goS (stA a) u []) = some s := hg
    cases hq : stA a r v with
    | none => rw [hq] at hg; cases hg
    | some t => rw [hq] at hg; injection hg with hg; rw [hg]
   have ih := EnI.all hn h hm n ds r hd (by omega) hr
   obtain ⟨p, hp⟩ := List.getElem?_of_mem ih
   have hpl := (List.getElem?_eq_some_iff.1 hp).1
   by_cases hpi : p < i
   ·exact h.kids p _ hpi hp _ (row_mem (e := ⟨r, v, s⟩) ((nxt_ed hn.wf).2 (stA_some.1 hs)) rfl)
   ·exfalso
    have h1 := List.getElem?_eq_getElem (l := l) (i := i) (by omega)
    have h2 := hm _ h1
    have h3 := h.srt i p _ _ (by omega) h1 hp
    rw [h2] at h3
    have h3 : m ≤ ds.length := h3
    omega
end
theorem least_at {α : Type} {Q : α → Prop} : ∀ {l : List α}, (∃ x ∈ l, Q x) → ∃ (p : Nat) (x : α), l[p]? = some x ∧ Q x ∧ ∀ (p' : Nat) (y : α), p' < p → l[p']? = some y → ¬ Q y
 | [], h => by obtain ⟨x, hx, _⟩ := h; cases hx
 | z :: l, h => by
  by_cases hz : Q z
  ·exact ⟨0, z, rfl, hz, fun p' y hp => by omega⟩
  ·obtain ⟨p, x, h1, h2, h3⟩ := least_at (l := l) (Q := Q) (by
    obtain ⟨x, hx, hq⟩ := h
    rcases List.mem_cons.1 hx with rfl | hx
    ·exact absurd hq hz
    ·exact ⟨x, hx, hq⟩)
   refine ⟨p + 1, x, by simpa using h1, h2, fun p' y hp hy => ?_⟩
   cases p' with
   | zero =>
    have hy : z = y := by simpa using hy
    subst hy; exact hz
   | succ p' => exact h3 p' y (by omega) (by simpa using hy)
/-- the first word that leads into B -/
theorem first_word {a : Aut} {N : Nat} (hn : Num a N) {s : Int} {B' : List Int} (hB : Inc (s :: B')) (hs : 0 ≤ s ∧ s < a.st) {m : Nat} (hm : (pathW a.ed N s).length = m) {l : List (List Int × Int)} (h : wrd a m = some l) :
  ∃ p : Nat, l[p]? = some ((pathW a.ed N s).reverse, s) ∧ ∀ (p' : Nat) (y : List Int × Int), p' < p → l[p']? = some y → y.2 ∉ s :: B' := by
 unfold wrd at h
 rw [if_neg (by omega)] at h
 obtain ⟨i, he, hmm⟩ := wgo_en hn 1025 0 _ l EnI.start (by omega) (by simp) h
 have hN := hn.le
 have hrun := path_run hn s.toNat N (by omega) (by omega)
 rw [show ((s.toNat : Nat) : Int) = s by omega] at hrun
 have hmem := he.all hn hmm m _ s (by rw [List.length_reverse]; exact hm) (Nat.le_refl _) hrun
 obtain ⟨p, x, h1, h2, h3⟩ := least_at (Q := fun x : List Int × Int => x.2 ∈ s :: B') ⟨_, hmem, List.mem_cons_self ..⟩
 have hsx : x.2 = s := by
  rcases List.mem_cons.1 h2 with h4 | h4
  ·exact h4
  ·have hlt : s < x.2 := (List.pairwise_cons.1 hB).1 _ h4
   obtain ⟨p', y, g1, g2, g3⟩ := he.mono p x s h1 hs.1 hlt
   exact absurd (by rw [g3]; exact List.mem_cons_self ..) (h3 p' y g1 g2)
 have hpx := he.path p x h1 fun p' y hp' hy hq => h3 p' y hp' hy (by show y.2 ∈ _; rw [hq, hsx]; exact List.mem_cons_self ..)
 refine ⟨p, ?_, h3⟩
 rw [h1]
 obtain ⟨x1, x2⟩ := x
 simp only at hsx hpx
 subst hsx
 rw [hpx]
theorem wrd_run {a : Aut} (hw : WF a) {m : Nat} {l : List (List Int × Int)} (h : wrd a m = some l) : ∀ x ∈ l, goS (stA a) 0 x.1 = some x.2 := by
 unfold wrd at h
 by_cases h0 : a.st = 0
 ·rw [if_pos h0] at h; injection h with h; subst h; intro x hx; cases hx
 ·rw [if_neg h0] at h
  exact wgo_sound hw _ _ _ l (fun y hy => by obtain rfl := List.mem_singleton.1 hy; rfl) h
theorem Prob.num {P R q : Aut} {u : List Int} {T : List (List Int)} (h : Prob P R u q T) : Num q T.length := ⟨h.pwf, syn_par h.syn, syn_ord h.syn, by rw [h.tups.1]; exact Int.le_refl _⟩
end Go.Proofs.YtcchnibgehonoaaDoor

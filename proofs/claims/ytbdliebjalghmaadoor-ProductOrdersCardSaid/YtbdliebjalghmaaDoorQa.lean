/- Plain laws on automata: what Check says, the step by the edges. -/
import Derived.Test.YtbdliebjalghmaaDoorPl
namespace Go.Proofs.YtbdliebjalghmaaDoor

structure Ed where
  f : Int
  e : Int
  t : Int
structure Aut where
  al : List Int
  st : Int
  ma : List Int
  ed : List Ed
theorem Ed.eq_iff {x y : Ed} : x = y ↔ x.f = y.f ∧ x.e = y.e ∧ x.t = y.t := by
  cases x; cases y; simp
instance : DecidableEq Ed := fun _ _ => decidable_of_iff _ Ed.eq_iff.symm
theorem Aut.eq_iff {x y : Aut} : x = y ↔ x.al = y.al ∧ x.st = y.st ∧ x.ma = y.ma ∧ x.ed = y.ed := by
  cases x; cases y; simp
instance : DecidableEq Aut := fun _ _ => decidable_of_iff _ Aut.eq_iff.symm

/-- the first fault of edges behind another one -/
def edOut (n : Int) (x : Ed) : Prop := x.f < 0 ∨ n ≤ x.f ∨ x.t < 0 ∨ n ≤ x.t
instance (n : Int) (x : Ed) : Decidable (edOut n x) := by unfold edOut; infer_instance
def edLe (x y : Ed) : Prop := x.f < y.f ∨ (x.f = y.f ∧ x.e ≤ y.e)
instance (x y : Ed) : Decidable (edLe x y) := by unfold edLe; infer_instance
def edG (n : Int) (al : List Int) : Option Ed → List Ed → Int
  | _, [] => 0
  | p, x :: r => if edOut n x then 2 else if hasB al x.e = false then 9 else
      match p with
      | none => edG n al (some x) r
      | some y => if edLe x y then 5 else edG n al (some x) r
def edErr (n : Int) (al : List Int) (l : List Ed) : Int := edG n al none l
section
variable {n : Int} {al : List Int} {l : List Ed} {k : Nat} {x y : Ed} {p : Option Ed}
theorem edG_out (h : l[k]? = some x) (ho : edOut n x) : edG n al p (l.drop k) = 2 := by
  cases p <;> rw [drop_cons' h, edG, if_pos ho]
theorem edG_unknown (h : l[k]? = some x) (ho : ¬ edOut n x) (hh : hasB al x.e = false) : edG n al p (l.drop k) = 9 := by
  cases p <;> rw [drop_cons' h, edG, if_neg ho, if_pos hh]
theorem edG_order (h : l[k]? = some x) (ho : ¬ edOut n x) (hh : hasB al x.e = true) (hl : edLe x y) : edG n al (some y) (l.drop k) = 5 := by
  rw [drop_cons' h, edG, if_neg ho, if_neg (by simp [hh])]; simp [hl]
theorem edG_next (h : l[k]? = some x) (ho : ¬ edOut n x) (hh : hasB al x.e = true) (hl : ¬ edLe x y) : edG n al (some y) (l.drop k) = edG n al (some x) (l.drop (k + 1)) := by
  rw [drop_cons' h, edG, if_neg ho, if_neg (by simp [hh])]; simp [hl]
theorem edG_first (h : l[k]? = some x) (ho : ¬ edOut n x) (hh : hasB al x.e = true) : edG n al none (l.drop k) = edG n al (some x) (l.drop (k + 1)) := by
  rw [drop_cons' h, edG, if_neg ho, if_neg (by simp [hh])]
theorem edG_end (h : ¬ k < l.length) : edG n al p (l.drop k) = 0 := by
  rw [List.drop_of_length_le (by omega)]; rfl
end
/-- strictly before -/
def edLt (x y : Ed) : Prop := x.f < y.f ∨ (x.f = y.f ∧ x.e < y.e)
theorem edLt_of {x y : Ed} (h : ¬ edLe y x) : edLt x y := by unfold edLe at h; unfold edLt; omega
theorem edLt_trans {x y z : Ed} (h : edLt x y) (k : edLt y z) : edLt x z := by unfold edLt at *; omega
theorem edG_zero {n : Int} {al : List Int} : ∀ {l : List Ed} {p : Option Ed}, edG n al p l = 0 → (∀ q, p = some q → ∀ x ∈ l, edLt q x) ∧ l.Pairwise edLt ∧ ∀ x ∈ l, ¬ edOut n x ∧ hasB al x.e = true
  | [], p, _ => ⟨fun q _ x hx => by simp at hx, List.Pairwise.nil, fun x hx => by simp at hx⟩
  | x :: r, p, h => by
    rw [edG.eq_def] at h
    simp only at h
    by_cases ho : edOut n x
    · rw [if_pos ho] at h; cases h
    rw [if_neg ho] at h
    by_cases hh : hasB al x.e = false
    · rw [if_pos hh] at h; cases h
    rw [if_neg hh] at h
    have hh' : hasB al x.e = true := by simpa using hh
    cases p with
    | none =>
      obtain ⟨i1, i2, i3⟩ := edG_zero h
      refine ⟨fun q hq => by (cases hq), List.pairwise_cons.2 ⟨i1 x rfl, i2⟩, fun y hy => ?_⟩
      rcases List.mem_cons.1 hy with rfl | hy
      · exact ⟨ho, hh'⟩
      · exact i3 y hy
    | some y =>
      simp only at h
      by_cases hl : edLe x y
      · rw [if_pos hl] at h; cases h
      rw [if_neg hl] at h
      obtain ⟨i1, i2, i3⟩ := edG_zero h
      refine ⟨fun q hq z hz => ?_, List.pairwise_cons.2 ⟨i1 x rfl, i2⟩, fun z hz => ?_⟩
      · injection hq with hq
        subst hq
        have hyx := edLt_of hl
        rcases List.mem_cons.1 hz with rfl | hz
        · exact hyx
        · exact edLt_trans hyx (i1 x rfl z hz)
      · rcases List.mem_cons.1 hz with rfl | hz
        · exact ⟨ho, hh'⟩
        · exact i3 z hz
/-- the converse -/
theorem edG_mk {n : Int} {al : List Int} : ∀ {l : List Ed} {p : Option Ed}, (∀ q, p = some q → ∀ x ∈ l, edLt q x) → l.Pairwise edLt → (∀ x ∈ l, ¬ edOut n x ∧ hasB al x.e = true) → edG n al p l = 0
  | [], p, _, _, _ => rfl
  | x :: r, p, h1, h2, h3 => by
    obtain ⟨g1, g2⟩ := List.pairwise_cons.1 h2
    obtain ⟨a1, a2⟩ := h3 x (List.mem_cons_self ..)
    have ih := edG_mk (p := some x) (fun q hq y hy => by injection hq with hq; subst hq; exact g1 y hy) g2 (fun y hy => h3 y (List.mem_cons_of_mem _ hy))
    rw [edG.eq_def]
    simp only
    rw [if_neg a1, if_neg (by simp [a2])]
    cases p with
    | none => exact ih
    | some y =>
      have hyx := h1 y rfl x (List.mem_cons_self ..)
      have : ¬ edLe x y := by unfold edLt at hyx; unfold edLe; omega
      simp only
      rw [if_neg this]; exact ih

def chkA (a : Aut) : Int :=
  if setErr a.al 32 ≠ 0 then setErr a.al 32 else if a.st < 0 then 2 else if 4096 < a.st then 3 else if setErr a.ma a.st ≠ 0 then setErr a.ma a.st else edErr a.st a.al a.ed
section
variable {a : Aut}
theorem chkA_al (h : setErr a.al 32 ≠ 0) : chkA a = setErr a.al 32 := if_pos h
theorem chkA_neg (h : setErr a.al 32 = 0) (h1 : a.st < 0) : chkA a = 2 := by unfold chkA; rw [if_neg (by simpa using h), if_pos h1]
theorem chkA_many (h : setErr a.al 32 = 0) (h1 : ¬ a.st < 0) (h2 : 4096 < a.st) : chkA a = 3 := by unfold chkA; rw [if_neg (by simpa using h), if_neg h1, if_pos h2]
theorem chkA_mk (h : setErr a.al 32 = 0) (h1 : ¬ a.st < 0) (h2 : ¬ 4096 < a.st) (h3 : setErr a.ma a.st ≠ 0) : chkA a = setErr a.ma a.st := by unfold chkA; rw [if_neg (by simpa using h), if_neg h1, if_neg h2, if_pos h3]
theorem chkA_ed (h : setErr a.al 32 = 0) (h1 : ¬ a.st < 0) (h2 : ¬ 4096 < a.st) (h3 : setErr a.ma a.st = 0) : chkA a = edErr a.st a.al a.ed := by unfold chkA; rw [if_neg (by simpa using h), if_neg h1, if_neg h2, if_neg (by simpa using h3)]
/-- a right automaton -/
structure WF (a : Aut) : Prop where
  inc : Inc a.al
  rng : ∀ x ∈ a.al, 0 ≤ x ∧ x < 32
  st0 : 0 ≤ a.st
  st1 : a.st ≤ 4096
  minc : Inc a.ma
  mrng : ∀ x ∈ a.ma, 0 ≤ x ∧ x < a.st
  einc : a.ed.Pairwise edLt
  erng : ∀ x ∈ a.ed, ¬ edOut a.st x ∧ hasB a.al x.e = true
theorem chkA_wf (h : chkA a = 0) : WF a := by
  unfold chkA at h
  by_cases h0 : setErr a.al 32 ≠ 0
  · rw [if_pos h0] at h; exact absurd h h0
  rw [if_neg h0] at h
  by_cases h1 : a.st < 0
  · rw [if_pos h1] at h; cases h
  rw [if_neg h1] at h
  by_cases h2 : 4096 < a.st
  · rw [if_pos h2] at h; cases h
  rw [if_neg h2] at h
  by_cases h3 : setErr a.ma a.st ≠ 0
  · rw [if_pos h3] at h; exact absurd h h3
  rw [if_neg h3] at h
  obtain ⟨_, e1, e2⟩ := edG_zero h
  obtain ⟨s1, s2⟩ := setErr_inc (by simpa using h0)
  obtain ⟨m1, m2⟩ := setErr_inc (by simpa using h3)
  exact ⟨s1, s2, by omega, by omega, m1, m2, e1, e2⟩
end
theorem setErrG_mk {n : Int} : ∀ {l : List Int} {p : Option Int}, (∀ q, p = some q → ∀ x ∈ l, q < x) → Inc l → (∀ x ∈ l, 0 ≤ x ∧ x < n) → setErrG n p l = 0
  | [], p, _, _, _ => by simp [setErrG]
  | x :: r, p, h1, h2, h3 => by
    obtain ⟨g1, g2⟩ := List.pairwise_cons.1 h2
    have hx := h3 x (List.mem_cons_self ..)
    have ih := setErrG_mk (p := some x) (fun q hq y hy => by injection hq with hq; subst hq; exact g1 y hy) g2 (fun y hy => h3 y (List.mem_cons_of_mem _ hy))
    cases p with
    | none =>
      have := setErrG_first (l := x :: r) (k := 0) (n := n) (x := x) rfl (by omega)
      simp only [List.drop_zero] at this
      rw [this]; exact ih
    | some y =>
      have hyx := h1 y rfl x (List.mem_cons_self ..)
      have := setErrG_next (l := x :: r) (k := 0) (n := n) (x := x) (q := y) rfl (by omega) (by omega)
      simp only [List.drop_zero] at this
      rw [this]; exact ih
theorem WF.chk {a : Aut} (h : WF a) : chkA a = 0 := by
  have e1 : setErr a.al 32 = 0 := setErrG_mk (fun q hq => by cases hq) h.inc h.rng
  have e2 : setErr a.ma a.st = 0 := setErrG_mk (fun q hq => by cases hq) h.minc h.mrng
  rw [chkA_ed e1 (by have := h.st0; omega) (by have := h.st1; omega) e2]
  exact edG_mk (fun q hq => by cases hq) h.einc h.erng

/-- the state to which an edge leads, or -1 -/
def nxtE (s v : Int) : List Ed → Int
  | [] => -1
  | x :: r => if x.f = s ∧ x.e = v then x.t else nxtE s v r
def nxt (a : Aut) (s v : Int) : Int := nxtE s v a.ed
theorem nxtE_hit {l : List Ed} {k : Nat} {x : Ed} {s v : Int} (h : l[k]? = some x) (h1 : x.f = s) (h2 : x.e = v) : nxtE s v (l.drop k) = x.t := by
  rw [drop_cons' h, nxtE, if_pos ⟨h1, h2⟩]
theorem nxtE_go {l : List Ed} {k : Nat} {x : Ed} {s v : Int} (h : l[k]? = some x) (h1 : ¬ (x.f = s ∧ x.e = v)) : nxtE s v (l.drop k) = nxtE s v (l.drop (k + 1)) := by
  rw [drop_cons' h, nxtE, if_neg h1]
theorem nxtE_end {l : List Ed} {k : Nat} {s v : Int} (h : ¬ k < l.length) : nxtE s v (l.drop k) = -1 := by
  rw [List.drop_of_length_le (by omega)]; rfl
theorem nxtE_mem {s v : Int} : ∀ {l : List Ed}, nxtE s v l ≠ -1 → ∃ x ∈ l, x.f = s ∧ x.e = v ∧ x.t = nxtE s v l
  | [], h => absurd rfl h
  | x :: r, h => by
    unfold nxtE at h ⊢
    by_cases hx : x.f = s ∧ x.e = v
    · rw [if_pos hx]; exact ⟨x, List.mem_cons_self .., hx.1, hx.2, rfl⟩
    · rw [if_neg hx] at h ⊢
      obtain ⟨y, hy, h1⟩ := nxtE_mem h
      exact ⟨y, List.mem_cons_of_mem _ hy, h1⟩
theorem nxtE_of {s v : Int} {x : Ed} : ∀ {l : List Ed}, l.Pairwise edLt → x ∈ l → x.f = s → x.e = v → nxtE s v l = x.t
  | [], _, h, _, _ => by simp at h
  | y :: r, hp, h, h1, h2 => by
    obtain ⟨g1, g2⟩ := List.pairwise_cons.1 hp
    unfold nxtE
    rcases List.mem_cons.1 h with rfl | h
    · rw [if_pos ⟨h1, h2⟩]
    · rw [if_neg, nxtE_of g2 h h1 h2]
      have := g1 x h
      unfold edLt at this
      omega
theorem WF.nxt_rng {a : Aut} (h : WF a) {s v : Int} (hn : nxt a s v ≠ -1) : 0 ≤ nxt a s v ∧ nxt a s v < a.st ∧ hasB a.al v = true ∧ 0 ≤ s ∧ s < a.st := by
  obtain ⟨x, hx, h1, h2, h3⟩ := nxtE_mem hn
  obtain ⟨h4, h5⟩ := h.erng x hx
  unfold edOut at h4
  unfold nxt
  rw [← h3]
  subst h1 h2
  exact ⟨by omega, by omega, h5, by omega, by omega⟩
theorem WF.nxt_neg {a : Aut} (h : WF a) (s v : Int) : (nxt a s v < 0) ↔ nxt a s v = -1 := by
  constructor
  · intro hn
    by_cases hh : nxt a s v = -1
    · exact hh
    · have := (h.nxt_rng hh).1; omega
  · intro hn; omega
end Go.Proofs.YtbdliebjalghmaaDoor

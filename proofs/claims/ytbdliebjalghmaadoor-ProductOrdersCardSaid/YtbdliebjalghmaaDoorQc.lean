/- Plain laws: the automaton that a search in breadth finds. -/
import Derived.Test.YtbdliebjalghmaaDoorQb
namespace Go.Proofs.YtbdliebjalghmaaDoor

section
variable {σ : Type} [DecidableEq σ]
/-- the places of the marked ones among the first i -/
def mksN (p : σ → Bool) (ts : List σ) : Nat → List Int
  | 0 => []
  | i + 1 => mksN p ts i ++ (match ts[i]? with | some t => if p t then [(i : Int)] else [] | none => [])
omit [DecidableEq σ] in
theorem mksN_app {p : σ → Bool} {ts m : List σ} : ∀ {i : Nat}, i ≤ ts.length → mksN p (ts ++ m) i = mksN p ts i
  | 0, _ => rfl
  | i + 1, h => by
    unfold mksN
    rw [mksN_app (by omega), List.getElem?_append_left (by omega)]
omit [DecidableEq σ] in
theorem mksN_pre {p : σ → Bool} {ts ts' : List σ} {i : Nat} (h : ts <+: ts') (hi : i ≤ ts.length) : mksN p ts' i = mksN p ts i := by
  obtain ⟨m, rfl⟩ := h
  exact mksN_app hi
omit [DecidableEq σ] in
theorem mksN_yes {p : σ → Bool} {ts : List σ} {i : Nat} {t : σ} (h : ts[i]? = some t) (hp : p t = true) : mksN p ts (i + 1) = mksN p ts i ++ [(i : Int)] := by
  rw [mksN, h]; simp [hp]
omit [DecidableEq σ] in
theorem mksN_no {p : σ → Bool} {ts : List σ} {i : Nat} {t : σ} (h : ts[i]? = some t) (hp : p t = false) : mksN p ts (i + 1) = mksN p ts i := by
  rw [mksN, h]; simp [hp]
omit [DecidableEq σ] in
theorem mksN_len (p : σ → Bool) (ts : List σ) : ∀ i, (mksN p ts i).length ≤ i
  | 0 => by simp [mksN]
  | i + 1 => by
    have := mksN_len p ts i
    unfold mksN
    rw [List.length_append]
    cases ts[i]? with
    | none => simp; omega
    | some t => cases h : p t <;> simp [h] <;> omega
omit [DecidableEq σ] in
theorem mksN_mem {p : σ → Bool} {ts : List σ} {x : Int} : ∀ {i : Nat}, x ∈ mksN p ts i ↔ ∃ j t, j < i ∧ x = (j : Nat) ∧ ts[j]? = some t ∧ p t = true
  | 0 => by simp [mksN]
  | i + 1 => by
    unfold mksN
    rw [List.mem_append, mksN_mem]
    constructor
    · rintro (⟨j, t, h1, h2⟩ | h)
      · exact ⟨j, t, by omega, h2⟩
      · cases ht : ts[i]? with
        | none => rw [ht] at h; simp at h
        | some t =>
          rw [ht] at h
          cases hp : p t with
          | false => simp [hp] at h
          | true => simp [hp] at h; exact ⟨i, t, by omega, h, ht, hp⟩
    · rintro ⟨j, t, h1, h2, h3, h4⟩
      rcases Nat.lt_or_ge j i with h | h
      · exact .inl ⟨j, t, h, h2, h3, h4⟩
      · obtain rfl : j = i := by omega
        right; rw [h3]; simp [h4, h2]
omit [DecidableEq σ] in
theorem mksN_inc (p : σ → Bool) (ts : List σ) : ∀ i, Inc (mksN p ts i)
  | 0 => List.Pairwise.nil
  | i + 1 => by
    unfold mksN
    unfold Inc
    rw [List.pairwise_append]
    refine ⟨mksN_inc p ts i, ?_, fun a ha b hb => ?_⟩
    · cases ts[i]? with
      | none => exact List.Pairwise.nil
      | some t => cases h : p t <;> simp [h]
    · obtain ⟨j, t, h1, h2, _⟩ := mksN_mem.1 ha
      cases ht : ts[i]? with
      | none => rw [ht] at hb; simp at hb
      | some t =>
        rw [ht] at hb
        cases hp : p t with
        | false => simp [hp] at hb
        | true => simp [hp] at hb; subst h2 hb; omega

/-- the automaton of a search -/
def autOf (V : List Int) (p : σ → Bool) (s : Bs σ) : Aut := ⟨V, s.ts.length, mksN p s.ts s.ts.length, s.es⟩

theorem edRow_mem {st : σ → Int → Option σ} {ts : List σ} {j : Nat} {t : σ} {D : List Int} {x : Ed} : x ∈ edRow st ts j t D ↔ ∃ v y, v ∈ D ∧ st t v = some y ∧ x = ⟨j, v, idx ts y⟩ := by
  unfold edRow
  rw [List.mem_filterMap]
  constructor
  · rintro ⟨v, hv, h⟩
    cases hs : st t v with
    | none => rw [hs] at h; cases h
    | some y => rw [hs] at h; injection h with h; exact ⟨v, y, hv, hs, h.symm⟩
  · rintro ⟨v, y, hv, hs, rfl⟩
    exact ⟨v, hv, by rw [hs]; rfl⟩
theorem edsOf_mem {st : σ → Int → Option σ} {V : List Int} {ts : List σ} {x : Ed} : ∀ {i : Nat}, x ∈ edsOf st V ts i ↔ ∃ j t v y, j < i ∧ ts[j]? = some t ∧ v ∈ V ∧ st t v = some y ∧ x = ⟨(j : Nat), v, idx ts y⟩
  | 0 => by simp [edsOf]
  | i + 1 => by
    unfold edsOf
    rw [List.mem_append, edsOf_mem]
    constructor
    · rintro (⟨j, t, v, y, h1, h2⟩ | h)
      · exact ⟨j, t, v, y, by omega, h2⟩
      · cases ht : ts[i]? with
        | none => rw [ht] at h; simp at h
        | some t =>
          rw [ht] at h
          obtain ⟨v, y, h1, h2, h3⟩ := edRow_mem.1 h
          exact ⟨i, t, v, y, by omega, ht, h1, h2, h3⟩
    · rintro ⟨j, t, v, y, h1, h2, h3, h4, h5⟩
      rcases Nat.lt_or_ge j i with h | h
      · exact .inl ⟨j, t, v, y, h, h2, h3, h4, h5⟩
      · obtain rfl : j = i := by omega
        right; rw [h2]; exact edRow_mem.2 ⟨v, y, h3, h4, h5⟩
theorem edRow_inc {st : σ → Int → Option σ} {ts : List σ} {j : Nat} {t : σ} {D : List Int} (h : Inc D) : (edRow st ts j t D).Pairwise edLt := by
  unfold edRow
  rw [List.pairwise_filterMap]
  refine h.imp fun {u v} huv x hx y hy => ?_
  cases h1 : st t u with
  | none => rw [h1] at hx; cases hx
  | some a =>
    cases h2 : st t v with
    | none => rw [h2] at hy; cases hy
    | some b =>
      rw [h1] at hx; rw [h2] at hy
      simp only [Option.map_some, Option.some.injEq] at hx hy
      subst hx hy
      exact .inr ⟨rfl, huv⟩
theorem edsOf_inc {st : σ → Int → Option σ} {V : List Int} {ts : List σ} (h : Inc V) : ∀ i, (edsOf st V ts i).Pairwise edLt
  | 0 => List.Pairwise.nil
  | i + 1 => by
    unfold edsOf
    rw [List.pairwise_append]
    refine ⟨edsOf_inc h i, ?_, fun a ha b hb => ?_⟩
    · cases ts[i]? with
      | none => exact List.Pairwise.nil
      | some t => exact edRow_inc h
    · obtain ⟨j, t, v, y, h1, _, _, _, rfl⟩ := edsOf_mem.1 ha
      cases ht : ts[i]? with
      | none => rw [ht] at hb; simp at hb
      | some t =>
        rw [ht] at hb
        obtain ⟨u, z, _, _, rfl⟩ := edRow_mem.1 hb
        left; show (j : Int) < (i : Int); omega
theorem hasB_iff' {l : List Int} {x : Int} : hasB l x = true ↔ x ∈ l := hasB_mem
section
variable {C : Nat} {st : σ → Int → Option σ} {V : List Int} {x0 : σ} {s : Bs σ} {p : σ → Bool}
/-- It is a right automaton. -/
theorem BInv.wf (h : BInv C st V x0 s.ts.length s) (hC : C ≤ 4096) (hV : Inc V) (hr : ∀ v ∈ V, 0 ≤ v ∧ v < 32) : WF (autOf V p s) := by
  refine ⟨hV, hr, by show (0 : Int) ≤ (s.ts.length : Int); omega, by show (s.ts.length : Int) ≤ 4096; have := h.len; omega, mksN_inc _ _ _, fun x hx => ?_, ?_, fun x hx => ?_⟩
  · obtain ⟨j, t, h1, h2, _⟩ := mksN_mem.1 hx
    subst h2
    show (0 : Int) ≤ _ ∧ _ < (s.ts.length : Int)
    omega
  · show s.es.Pairwise edLt
    rw [h.es]; exact edsOf_inc hV _
  · have hx' : x ∈ edsOf st V s.ts s.ts.length := by rw [← h.es]; exact hx
    obtain ⟨j, t, v, y, h1, h2, h3, h4, rfl⟩ := edsOf_mem.1 hx'
    obtain ⟨k, h5, h6⟩ := idx_yes (h.clo j t v y h1 h2 h3 h4)
    have h7 := (List.getElem?_eq_some_iff.1 h6).1
    refine ⟨?_, hasB_mem.2 h3⟩
    unfold edOut
    show ¬ ((j : Int) < 0 ∨ (s.ts.length : Int) ≤ (j : Int) ∨ idx s.ts y < 0 ∨ (s.ts.length : Int) ≤ idx s.ts y)
    omega
/-- Its steps. -/
theorem BInv.nxt (h : BInv C st V x0 s.ts.length s) (hV : Inc V) {j : Nat} {t : σ} {v : Int} (hj : s.ts[j]? = some t) (hv : v ∈ V) :
    nxt (autOf V p s) (j : Int) v = match st t v with | some y => idx s.ts y | none => -1 := by
  have hlt := (List.getElem?_eq_some_iff.1 hj).1
  have hinc : (autOf V p s).ed.Pairwise edLt := by show s.es.Pairwise edLt; rw [h.es]; exact edsOf_inc hV _
  cases hs : st t v with
  | some y =>
    refine nxtE_of (x := ⟨j, v, idx s.ts y⟩) hinc ?_ rfl rfl
    show _ ∈ s.es
    rw [h.es]
    exact edsOf_mem.2 ⟨j, t, v, y, hlt, hj, hv, hs, rfl⟩
  | none =>
    by_cases hn : Proofs.YtbdliebjalghmaaDoor.nxt (autOf V p s) (j : Int) v = -1
    · exact hn
    · obtain ⟨x, hx, h1, h2, h3⟩ := nxtE_mem hn
      have hx' : x ∈ edsOf st V s.ts s.ts.length := by rw [← h.es]; exact hx
      obtain ⟨k, u, w, y, g1, g2, g3, g4, rfl⟩ := edsOf_mem.1 hx'
      have : k = j := by have : (k : Int) = (j : Int) := h1; omega
      subst this
      have : w = v := h2
      subst this
      rw [hj] at g2; injection g2 with g2; subst g2
      rw [hs] at g4; cases g4
theorem BInv.nxt_out (h : BInv C st V x0 s.ts.length s) {j v : Int} (hv : v ∉ V) : Proofs.YtbdliebjalghmaaDoor.nxt (autOf V p s) j v = -1 := by
  by_cases hn : Proofs.YtbdliebjalghmaaDoor.nxt (autOf V p s) j v = -1
  · exact hn
  · obtain ⟨x, hx, h1, h2, h3⟩ := nxtE_mem hn
    have hx' : x ∈ edsOf st V s.ts s.ts.length := by rw [← h.es]; exact hx
    obtain ⟨k, u, w, y, g1, g2, g3, g4, rfl⟩ := edsOf_mem.1 hx'
    exact absurd (show v ∈ V from h2 ▸ g3) hv
omit [DecidableEq σ] in
theorem BInv.marked {j : Nat} {t : σ} (hj : s.ts[j]? = some t) : hasB (autOf V p s).ma (j : Int) = p t := by
  have hlt := (List.getElem?_eq_some_iff.1 hj).1
  rw [Bool.eq_iff_iff, hasB_mem]
  show (j : Int) ∈ mksN p s.ts s.ts.length ↔ _
  rw [mksN_mem]
  constructor
  · rintro ⟨k, u, h1, h2, h3, h4⟩
    have : k = j := by omega
    subst this
    rw [hj] at h3; injection h3 with h3; subst h3; exact h4
  · intro hp; exact ⟨j, t, hlt, rfl, hj, hp⟩
end
end

/-- a machine of one automaton -/
def stA (a : Aut) (s : Int) (v : Int) : Option Int := if nxt a s v < 0 then none else some (nxt a s v)
def mkA (a : Aut) (s : Int) : Bool := hasB a.ma s
/-- the canonical form -/
def canS (a : Aut) : Option (Bs Int) := bfs 4096 (stA a) a.al 0
def canA (a : Aut) : Aut := if a.st = 0 then ⟨a.al, 0, [], []⟩ else match canS a with | some s => autOf a.al (mkA a) s | none => ⟨a.al, 0, [], []⟩
theorem rch_rng {a : Aut} (h : WF a) (h0 : a.st ≠ 0) {x : Int} (hx : Rch (stA a) a.al 0 x) : 0 ≤ x ∧ x < a.st := by
  induction hx with
  | start => have := h.st0; omega
  | step ht hv hs ih =>
    unfold stA at hs
    split at hs
    · cases hs
    · rename_i hn
      injection hs with hs
      subst hs
      have hne : nxt a _ _ ≠ -1 := fun e => hn (by rw [e]; omega)
      obtain ⟨g1, g2, _⟩ := h.nxt_rng hne
      exact ⟨g1, g2⟩
theorem canS_some {a : Aut} (h : WF a) (h0 : a.st ≠ 0) : ∃ s, canS a = some s ∧ BInv 4096 (stA a) a.al 0 s.ts.length s := by
  rcases bfs_spec (C := 4096) (st := stA a) (V := a.al) (x0 := (0 : Int)) (by omega) with hs | ⟨_, hm⟩
  · exact hs
  · exfalso
    refine not_many ((List.range 4096).map (fun n : Nat => (n : Int))) (by simp) (fun x hx => ?_) hm
    obtain ⟨h1, h2⟩ := rch_rng h h0 hx
    have := h.st1
    rw [List.mem_map]
    exact ⟨x.toNat, List.mem_range.2 (by omega), by omega⟩
theorem canA_wf {a : Aut} (h : WF a) : WF (canA a) := by
  unfold canA
  by_cases h0 : a.st = 0
  · rw [if_pos h0]
    exact ⟨h.inc, h.rng, by simp, by simp, List.Pairwise.nil, fun x hx => by simp at hx, List.Pairwise.nil, fun x hx => by simp at hx⟩
  · rw [if_neg h0]
    obtain ⟨s, e, hs⟩ := canS_some h h0
    rw [e]
    exact hs.wf (by omega) h.inc h.rng
end Go.Proofs.YtbdliebjalghmaaDoor

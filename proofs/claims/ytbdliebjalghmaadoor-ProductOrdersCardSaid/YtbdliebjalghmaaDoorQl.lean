/- Plain laws: a search by the edges of a state is the search by the alphabet (for automaton.canonical). -/
import Derived.Test.YtbdliebjalghmaaDoorQf
import Derived.Test.YtbdliebjalghmaaDoorQj
namespace Go.Proofs.YtbdliebjalghmaaDoor

section
variable {σ : Type} [DecidableEq σ] {C : Nat} {st : σ → Int → Option σ} {i : Nat} {t : σ}
theorem bsF_filter : ∀ (V : List Int) (s : Bs σ), bsF C st i t V s = bsF C st i t (V.filter (fun v => (st t v).isSome)) s
  | [], _ => rfl
  | v :: V, s => by
    cases hv : st t v with
    | none =>
      rw [List.filter_cons_of_neg (by rw [hv]; simp)]
      show (match bsE C st i t s v with | none => none | some s' => bsF C st i t V s') = _
      rw [bsE_none hv]
      exact bsF_filter V s
    | some x =>
      rw [List.filter_cons_of_pos (by rw [hv]; rfl)]
      show (match bsE C st i t s v with | none => none | some s' => bsF C st i t V s') = (match bsE C st i t s v with | none => none | some s' => bsF C st i t (V.filter (fun v => (st t v).isSome)) s')
      cases bsE C st i t s v with
      | none => rfl
      | some s' => exact bsF_filter V s'
end
/-- the edges of a state -/
def outE (a : Aut) (s : Int) : List Ed := a.ed.filter (fun x => decide (x.f = s))
theorem outE_mem {a : Aut} {s : Int} {x : Ed} : x ∈ outE a s ↔ x ∈ a.ed ∧ x.f = s := by unfold outE; simp
theorem out_evs {a : Aut} (h : WF a) (s : Int) : a.al.filter (fun v => (stA a s v).isSome) = (outE a s).map Ed.e := by
  refine inc_unique (h.inc.filter _) ?_ fun v => ?_
  · unfold outE Inc
    rw [List.pairwise_map]
    refine (h.einc.filter _).imp_of_mem fun {x y} hx hy hxy => ?_
    have h1 := (outE_mem.1 hx).2
    have h2 := (outE_mem.1 hy).2
    unfold edLt at hxy
    omega
  · rw [List.mem_filter, List.mem_map]
    constructor
    · rintro ⟨_, h2⟩
      unfold stA at h2
      split at h2
      · simp at h2
      · rename_i hn
        obtain ⟨x, hx, hf, he, _⟩ := nxtE_mem (s := s) (v := v) (l := a.ed) (fun e => hn (by show nxtE s v a.ed < 0; rw [e]; omega))
        exact ⟨x, outE_mem.2 ⟨hx, hf⟩, he⟩
    · rintro ⟨x, hx, rfl⟩
      obtain ⟨hx1, hf⟩ := outE_mem.1 hx
      subst hf
      have hr := h.ev_rng hx1
      have hn : nxt a x.f x.e = x.t := nxtE_of h.einc hx1 rfl rfl
      refine ⟨hasB_mem.1 ((h.erng x hx1).2), ?_⟩
      unfold stA
      rw [hn, if_neg (by omega)]
      rfl
/-- the edges of a state lie side by side -/
theorem out_slice {l : List Ed} {s : Int} {i j : Nat} (hij : i ≤ j) (h1 : ∀ k x, k < i → l[k]? = some x → x.f < s) (h2 : ∀ k x, i ≤ k → l[k]? = some x → s ≤ x.f) (h3 : ∀ k x, k < j → l[k]? = some x → x.f < s + 1) (h4 : ∀ k x, j ≤ k → l[k]? = some x → s + 1 ≤ x.f) :
    (l.drop i).take (j - i) = l.filter (fun x => decide (x.f = s)) := by
  have e1 : l = l.take i ++ ((l.drop i).take (j - i) ++ l.drop j) := by
    have : l.drop j = (l.drop i).drop (j - i) := by rw [List.drop_drop, show i + (j - i) = j by omega]
    rw [this, List.take_append_drop, List.take_append_drop]
  have f1 : (l.take i).filter (fun x => decide (x.f = s)) = [] := List.filter_eq_nil_iff.2 fun x hx => by
    obtain ⟨k, hk⟩ := List.getElem?_of_mem hx
    rw [List.getElem?_take] at hk
    split at hk
    · rename_i hki
      have := h1 k x hki hk
      simp; omega
    · cases hk
  have f3 : (l.drop j).filter (fun x => decide (x.f = s)) = [] := List.filter_eq_nil_iff.2 fun x hx => by
    obtain ⟨k, hk⟩ := List.getElem?_of_mem hx
    rw [List.getElem?_drop] at hk
    have := h4 (j + k) x (by omega) hk
    simp; omega
  have f2 : ((l.drop i).take (j - i)).filter (fun x => decide (x.f = s)) = (l.drop i).take (j - i) := List.filter_eq_self.2 fun x hx => by
    obtain ⟨k, hk⟩ := List.getElem?_of_mem hx
    rw [List.getElem?_take] at hk
    split at hk
    · rename_i hki
      rw [List.getElem?_drop] at hk
      have a1 := h2 (i + k) x (by omega) hk
      have a2 := h3 (i + k) x (by omega) hk
      simp; omega
    · cases hk
  have e2 : l.filter (fun x => decide (x.f = s)) = (l.take i ++ ((l.drop i).take (j - i) ++ l.drop j)).filter (fun x => decide (x.f = s)) := by rw [← e1]
  rw [e2, List.filter_append, List.filter_append, f1, f2, f3]
  simp
theorem nxt_no {a : Aut} {s v : Int} (h : ∀ x ∈ outE a s, x.e ≠ v) : nxt a s v = -1 := by
  by_cases hn : nxt a s v = -1
  · exact hn
  · obtain ⟨x, hx, hf, he, _⟩ := nxtE_mem (s := s) (v := v) (l := a.ed) hn
    exact absurd he (h x (outE_mem.2 ⟨hx, hf⟩))
theorem nxt_yes {a : Aut} (h : WF a) {s v : Int} {x : Ed} (hx : x ∈ outE a s) (he : x.e = v) : nxt a s v = x.t := by
  obtain ⟨h1, h2⟩ := outE_mem.1 hx
  exact nxtE_of h.einc h1 h2 he
end Go.Proofs.YtbdliebjalghmaaDoor

/- Plain laws: words through automata (for automaton.follow, Generates, Accepts). -/
namespace Go.Proofs.YtbdliebjalghmaaDoor

/-- as far as a word goes -/
def runS {σ : Type} (st : σ → Int → Option σ) : σ → List Int → σ × Nat
  | t, [] => (t, 0)
  | t, v :: ws => match st t v with
    | none => (t, 0)
    | some u => ((runS st u ws).1, (runS st u ws).2 + 1)
section
variable {σ : Type} {st : σ → Int → Option σ} {t u : σ} {ws : List Int} {k : Nat} {v : Int}
theorem runS_end (h : ¬ k < ws.length) : runS st t (ws.drop k) = (t, 0) := by rw [List.drop_eq_nil_of_le (by omega)]; rfl
theorem runS_stop (h : ws[k]? = some v) (hs : st t v = none) : runS st t (ws.drop k) = (t, 0) := by rw [drop_cons' h, runS, hs]
theorem runS_go (h : ws[k]? = some v) (hs : st t v = some u) : runS st t (ws.drop k) = ((runS st u (ws.drop (k + 1))).1, (runS st u (ws.drop (k + 1))).2 + 1) := by rw [drop_cons' h, runS, hs]
theorem runS_le : ∀ (ws : List Int) (t : σ), (runS st t ws).2 ≤ ws.length
  | [], _ => Nat.le_refl _
  | v :: ws, t => by
    unfold runS
    cases st t v with
    | none => exact Nat.zero_le _
    | some u => have := runS_le ws u; simp only [List.length_cons]; omega
end
/-- does a word go through whole? -/
def genB {σ : Type} (st : σ → Int → Option σ) (t : σ) (ws : List Int) : Bool := decide ((runS st t ws).2 = ws.length)
end Go.Proofs.YtbdliebjalghmaaDoor

/- Plain laws: the language of a product (for ProductLanguages). -/
namespace Go.Proofs.YtbdliebjalghmaaDoor

/-- where a word leads, if it goes through whole -/
def goS {σ : Type} (st : σ → Int → Option σ) : σ → List Int → Option σ
  | t, [] => some t
  | t, v :: ws => (st t v).bind (fun u => goS st u ws)
theorem goS_run {σ : Type} {st : σ → Int → Option σ} : ∀ (ws : List Int) (t : σ), goS st t ws = if (runS st t ws).2 = ws.length then some (runS st t ws).1 else none
  | [], _ => rfl
  | v :: ws, t => by
    unfold goS runS
    cases st t v with
    | none => simp
    | some u =>
      simp only [Option.bind_some, List.length_cons]
      rw [goS_run ws u]
      by_cases h2 : (runS st u ws).2 = ws.length
      · rw [if_pos h2, if_pos (by omega)]
      · rw [if_neg h2, if_neg (by omega)]
theorem goS_sim {σ τ : Type} {st : σ → Int → Option σ} {st' : τ → Int → Option τ} {V : List Int} {φ : σ → τ} {P : σ → Prop} (h : Sim st st' V φ P) : ∀ (ws : List Int) (t : σ), P t → (∀ v ∈ ws, v ∈ V) → goS st' (φ t) ws = (goS st t ws).map φ ∧ ∀ u, goS st t ws = some u → P u
  | [], t, ht, _ => ⟨rfl, fun u hu => by injection hu with hu; subst hu; exact ht⟩
  | v :: ws, t, ht, hv => by
    have hc := h.comm t v ht (hv v (List.mem_cons_self ..))
    unfold goS
    rw [hc]
    cases hs : st t v with
    | none => exact ⟨rfl, fun u hu => by cases hu⟩
    | some x => exact goS_sim h ws x (h.pres t v x ht (hv v (List.mem_cons_self ..)) hs) (fun u hu => hv u (List.mem_cons_of_mem _ hu))
theorem projW_cons (v : Int) (ws al : List Int) : projW (v :: ws) al = if hasB al v = true then v :: projW ws al else projW ws al := by
  unfold projW; rw [List.filter_cons]
theorem stp_cons {a : Aut} {l : List Aut} {s : Int} {t : List Int} {v : Int} : stp (a :: l) (s :: t) v = (stp [a] [s] v).bind (fun u => (stp l t v).map (fun z => u ++ z)) := stp_app (l1 := [a]) (t1 := [s]) rfl
/-- a word through a list of automata: its projections through each -/
theorem goS_cons {a : Aut} {l : List Aut} : ∀ (ws : List Int) (s : Int) (t : List Int), goS (stp (a :: l)) (s :: t) ws = (goS (stA a) s (projW ws a.al)).bind (fun u => (goS (stp l) t ws).map (fun z => u :: z))
  | [], s, t => rfl
  | v :: ws, s, t => by
    rw [projW_cons]
    show (stp (a :: l) (s :: t) v).bind (fun u => goS (stp (a :: l)) u ws) = _
    rw [stp_cons]
    by_cases hv : hasB a.al v = true
    · rw [if_pos hv, stp_one (hasB_mem.1 hv)]
      show _ = ((stA a s v).bind (fun u => goS (stA a) u (projW ws a.al))).bind (fun u => ((stp l t v).bind (fun z => goS (stp l) z ws)).map (fun z => u :: z))
      cases stA a s v with
      | none => rfl
      | some x =>
        cases stp l t v with
        | none =>
          simp only [Option.map_some, Option.bind_some, Option.map_none, Option.bind_none]
          cases goS (stA a) x (projW ws a.al) <;> rfl
        | some z =>
          simp only [Option.map_some, Option.bind_some]
          exact goS_cons ws x z
    · rw [if_neg hv, stp_out (fun h => hv (hasB_mem.2 h))]
      show _ = (goS (stA a) s (projW ws a.al)).bind (fun u => ((stp l t v).bind (fun z => goS (stp l) z ws)).map (fun z => u :: z))
      cases stp l t v with
      | none =>
        simp only [Option.map_none, Option.bind_some, Option.bind_none]
        cases goS (stA a) s (projW ws a.al) <;> rfl
      | some z =>
        simp only [Option.map_some, Option.bind_some]
        exact goS_cons ws s z
/-- does an automaton generate, does it mark a word? -/
def gA (a : Aut) (ws : List Int) : Bool := !decide (a.st = 0) && (goS (stA a) 0 ws).isSome
def mA (a : Aut) (ws : List Int) : Bool := !decide (a.st = 0) && (goS (stA a) 0 ws).any (fun s => hasB a.ma s)
theorem goS_all : ∀ (l : List Aut) (ws : List Int), noSt l = false → (goS (stp l) (ini l) ws).isSome = l.all (fun a => gA a (projW ws a.al)) ∧ (goS (stp l) (ini l) ws).any (mkT l) = l.all (fun a => mA a (projW ws a.al))
  | [], ws, _ => by
    have h : ∀ ws : List Int, goS (stp []) (ini []) ws = some [] := by
      intro ws
      induction ws with
      | nil => rfl
      | cons v ws ih => exact ih
    rw [h ws]
    exact ⟨rfl, rfl⟩
  | a :: l, ws, hn => by
    have h2 : decide (a.st = 0) = false ∧ noSt l = false := by
      unfold noSt at hn ⊢
      rw [List.any_cons, Bool.or_eq_false_iff] at hn
      exact hn
    obtain ⟨i1, i2⟩ := goS_all l ws h2.2
    have e : ini (a :: l) = 0 :: ini l := rfl
    rw [e, goS_cons, List.all_cons, List.all_cons, ← i1, ← i2]
    unfold gA mA
    rw [h2.1]
    cases goS (stA a) 0 (projW ws a.al) with
    | none => exact ⟨rfl, rfl⟩
    | some u =>
      cases goS (stp l) (ini l) ws with
      | none => simp
      | some z => simp [mkT]
/-- The language of a product is that of its parts. -/
theorem lang_prod {l : List Aut} {r : Aut} {T : List (List Int)} {ws : List Int} (hw : ∀ a ∈ l, WF a) (hp : prodN l ≤ 4096) (hr : synR l = some (r, T)) (hv : ∀ v ∈ ws, v ∈ evs l) :
    gA r ws = l.all (fun a => gA a (projW ws a.al)) ∧ mA r ws = l.all (fun a => mA a (projW ws a.al)) := by
  cases hn : noSt l with
  | true =>
    obtain ⟨b, hb, h0⟩ := noSt_iff.1 hn
    have hr0 := syn_no hn hr
    have e1 : gA r ws = false ∧ mA r ws = false := by rw [hr0]; exact ⟨rfl, rfl⟩
    rw [e1.1, e1.2]
    refine ⟨(List.all_eq_false.2 ⟨b, hb, ?_⟩).symm, (List.all_eq_false.2 ⟨b, hb, ?_⟩).symm⟩
    · unfold gA; simp [h0]
    · unfold mA; simp [h0]
  | false =>
    obtain ⟨s, hs, hrs⟩ := syn_get hn hr
    have hi := syn_inv hw hs hn hp
    have hV := evs_inc (l := l) fun a ha => (hw a ha).inc
    have hsim := hi.sim (p := mkT l) hV
    have hp0 := hi.pos
    have h00 : (0 : Int) ≤ 0 ∧ (0 : Int) < (s.ts.length : Int) := by omega
    obtain ⟨g1, g2⟩ := goS_sim hsim ws 0 h00 hv
    rw [hi.at0] at g1
    obtain ⟨i1, i2⟩ := goS_all l ws hn
    rw [← i1, ← i2, g1, hrs]
    have hst : decide ((autOf (evs l) (mkT l) s).st = 0) = false := decide_eq_false (by show ¬ ((s.ts.length : Int) = 0); omega)
    unfold gA mA
    rw [hst]
    cases hg : goS (stA (autOf (evs l) (mkT l) s)) 0 ws with
    | none => exact ⟨rfl, rfl⟩
    | some u =>
      refine ⟨rfl, ?_⟩
      simp only [Option.any_some, Option.map_some, Bool.not_false, Bool.true_and]
      rw [hi.mk_at (p := mkT l) (g2 u hg)]
      rfl
/-- the walk's readings -/
theorem gA_run {a : Aut} {ws : List Int} {R : Int × Nat} (h0 : a.st ≠ 0) (hR : runS (stA a) 0 ws = R) : gA a ws = decide (R.2 = ws.length) ∧ mA a ws = (decide (R.2 = ws.length) && hasB a.ma R.1) := by
  subst hR
  unfold gA mA
  rw [goS_run, decide_eq_false h0]
  by_cases h : (runS (stA a) 0 ws).2 = ws.length
  · rw [if_pos h]; simp [h]
  · rw [if_neg h]; simp [h]
theorem gA_zero {a : Aut} {ws : List Int} (h0 : a.st = 0) : gA a ws = false ∧ mA a ws = false := by
  unfold gA mA; simp [h0]
/-- the events of a word by bytes -/
def wdB (S : List Int) (bs : List Int) : List Int := if S = [] then [] else (bs.take 6).map (fun b => S.getD (b % (S.length : Int)).toNat 0)
theorem wdB_mem {S bs : List Int} (hb : ∀ b ∈ bs, 0 ≤ b) : ∀ v ∈ wdB S bs, v ∈ S := fun v hv => by
  unfold wdB at hv
  split at hv
  · simp at hv
  · rename_i hS
    obtain ⟨b, _, rfl⟩ := List.mem_map.1 hv
    have hl : 0 < S.length := List.length_pos_iff.2 hS
    have h1 := Int.emod_nonneg b (show (S.length : Int) ≠ 0 by omega)
    have h2 := Int.emod_lt_of_pos b (show (0 : Int) < (S.length : Int) by omega)
    rw [List.getD_eq_getElem?_getD, List.getElem?_eq_getElem (by omega)]
    exact List.getElem_mem _
end Go.Proofs.YtbdliebjalghmaaDoor

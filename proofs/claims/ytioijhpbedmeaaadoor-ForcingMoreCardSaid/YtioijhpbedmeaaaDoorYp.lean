/- Plain: the sketched systems (chapter 45). -/
import Derived.Test.YtioijhpbedmeaaaDoorYe
import Derived.Test.YtioijhpbedmeaaaDoorUw
namespace Go.Proofs.YtioijhpbedmeaaaDoor

/-- a sketch: the bytes of its events, two graphs, the bytes of the uncontrollable and of the forcible events and of the tick -/
structure Sk where
  ev : Int
  pl : Gr
  su : Gr
  un : Int
  fo : Int
  ti : Int
structure Sk.ok (x : Sk) : Prop where
  ev : 0 ≤ x.ev ∧ x.ev ≤ 255
  pl : x.pl.ok
  su : x.su.ok
  un : 0 ≤ x.un ∧ x.un ≤ 255
  fo : 0 ≤ x.fo ∧ x.fo ≤ 255
  ti : 0 ≤ x.ti ∧ x.ti ≤ 255
def Sk.l (x : Sk) : List Int := if setB x.ev 5 = [] then [0] else setB x.ev 5
def Sk.tk (x : Sk) : Int := x.l.getD (x.ti.toNat % x.l.length) 0
def Sk.p (x : Sk) : Aut := mkG x.l x.pl
def Sk.s (x : Sk) : Aut := mkG x.l x.su
/-- the events of a list other than the tick whose bits are set -/
def skf (l : List Int) (tk b : Int) : List Int := l.filter fun v => !(v == tk) && hasB (setB b 5) v
def Sk.u (x : Sk) : List Int := skf x.l x.tk x.un
def Sk.f (x : Sk) : List Int := skf x.l x.tk x.fo
theorem Sk.l_ne (x : Sk) : x.l ≠ [] := by
  unfold Sk.l
  by_cases h : setB x.ev 5 = []
  · rw [if_pos h]; simp
  · rw [if_neg h]; exact h
theorem Sk.l_inc (x : Sk) : Inc x.l := by
  unfold Sk.l
  by_cases h : setB x.ev 5 = []
  · rw [if_pos h]; exact List.pairwise_singleton ..
  · rw [if_neg h]; exact (set5 x.ev).1
theorem Sk.l_rng (x : Sk) : ∀ v ∈ x.l, 0 ≤ v ∧ v < 32 := by
  unfold Sk.l
  by_cases h : setB x.ev 5 = []
  · rw [if_pos h]; intro v hv; obtain rfl := List.mem_singleton.1 hv; omega
  · rw [if_neg h]; exact set32 x.ev
theorem Sk.tk_mem (x : Sk) : x.tk ∈ x.l := by
  have h : x.ti.toNat % x.l.length < x.l.length := Nat.mod_lt _ (List.length_pos_iff.2 x.l_ne)
  unfold Sk.tk
  rw [List.getD_eq_getElem?_getD, List.getElem?_eq_getElem h]
  exact List.getElem_mem h
theorem Sk.p_al (x : Sk) : x.p.al = x.l := mkG_al _ _
theorem Sk.s_al (x : Sk) : x.s.al = x.l := mkG_al _ _
theorem Sk.wp {x : Sk} (h : x.ok) : WF x.p := mkG_wf h.pl x.l_inc x.l_rng
theorem Sk.ws {x : Sk} (h : x.ok) : WF x.s := mkG_wf h.su x.l_inc x.l_rng
theorem Sk.st {x : Sk} (h : x.ok) : x.p.st ≤ 5 ∧ x.s.st ≤ 5 := ⟨(mkG_st h.pl x.l_inc x.l_rng).2, (mkG_st h.su x.l_inc x.l_rng).2⟩
theorem Sk.prob {x : Sk} (h : x.ok) : ∃ q T, Prob x.p x.s q T :=
  prob_of (Sk.wp h) (Sk.ws h) (fun v hv => by rw [x.s_al] at hv; rw [x.p_al]; exact hv) (by have := (Sk.st h).1; omega) (by have := (Sk.st h).2; omega)
theorem skf_mem {l : List Int} {tk b v : Int} : v ∈ skf l tk b ↔ v ∈ l ∧ v ≠ tk ∧ v ∈ setB b 5 := by
  unfold skf
  rw [List.mem_filter, Bool.and_eq_true, hasB_mem, Bool.not_eq_true', beq_eq_false_iff_ne]
theorem skf_sub {l : List Int} {tk b : Int} (hi : Inc l) (hr : ∀ v ∈ l, 0 ≤ v ∧ v < 32) : subE (skf l tk b) l = 0 := by
  have h0 : setErr (skf l tk b) 32 = 0 := setErr_mk (by unfold skf; exact inc_flt hi _) (fun v hv => hr v (skf_mem.1 hv).1)
  unfold subE
  rw [h0]
  rw [if_neg (by simp), if_pos]
  rw [List.length_eq_zero_iff, List.eq_nil_iff_forall_not_mem]
  intro v hv
  obtain ⟨h1, h2⟩ := List.mem_filter.1 hv
  rw [hasB_mem.2 (skf_mem.1 h1).1] at h2
  cases h2
theorem skf_not (l : List Int) (tk b : Int) : hasB (skf l tk b) tk = false := by
  cases h : hasB (skf l tk b) tk with
  | false => rfl
  | true => exact absurd rfl (skf_mem.1 (hasB_mem.1 h)).2.1
/-- a system with two automata over the same events, and lists that are right, is right -/
theorem chkF_zero {P S : Aut} {u f : List Int} {tk : Int} (wp : WF P) (ws : WF S) (ha : S.al = P.al) (hu : subE u P.al = 0) (hf : subE f P.al = 0) (ht : tk ∈ P.al) (hu2 : hasB u tk = false) (hf2 : hasB f tk = false) : chkF P S u f tk = 0 := by
  unfold chkF
  rw [if_neg (by rw [wp.chk]; simp), if_neg (by rw [ws.chk]; simp), ha, if_neg (by rw [eqB_of rfl]; simp), hu, hf, if_neg (by simp), if_neg (by simp), hasB_mem.2 ht, hu2, hf2]
  rfl
theorem Sk.u_sub (x : Sk) : subE x.u x.p.al = 0 := by rw [x.p_al]; exact skf_sub x.l_inc x.l_rng
theorem Sk.f_sub (x : Sk) : subE x.f x.p.al = 0 := by rw [x.p_al]; exact skf_sub x.l_inc x.l_rng
theorem Sk.chk {x : Sk} (h : x.ok) : chkF x.p x.s x.u x.f x.tk = 0 :=
  chkF_zero (Sk.wp h) (Sk.ws h) (by rw [x.p_al, x.s_al]) x.u_sub x.f_sub (by rw [x.p_al]; exact x.tk_mem) (skf_not _ _ _) (skf_not _ _ _)
theorem Sk.u_len (x : Sk) : x.u.length ≤ 32 ∧ x.f.length ≤ 32 :=
  ⟨inc_len (n := 32) (inc_flt x.l_inc _) fun v hv => x.l_rng v (List.mem_filter.1 hv).1, inc_len (n := 32) (inc_flt x.l_inc _) fun v hv => x.l_rng v (List.mem_filter.1 hv).1⟩

end Go.Proofs.YtioijhpbedmeaaaDoor

/- Plain: what the statements of chapter 45 compare. -/
namespace Go.Proofs.YtioijhpbedmeaaaDoor
section
variable {P S q : Aut} {T : List (List Int)} {U F : List Int} {tick : Int}

theorem ref_in {i v : Int} (wp : WF P) (h : refE P q T i v = true) : v ∈ P.al := by
  unfold refE at h
  rw [Bool.and_eq_true, decide_eq_true_eq] at h
  have hm := (nxt_ed wp (s := fst2 T i) (v := v)).2 ⟨rfl, h.1⟩
  exact hasB_mem.1 (wp.erng _ hm).2
theorem wrg_mem (wp : WF P) {i v : Int} : hasB (wrgE P q T U F tick i) v = wrgB P q T U F tick i v := by
  cases hw : wrgB P q T U F tick i v with
  | true =>
    have h1 : refE P q T i v = true := by unfold wrgB at hw; rw [Bool.and_eq_true] at hw; exact hw.1
    exact hasB_mem.2 (List.mem_filter.2 ⟨ref_in wp h1, hw⟩)
  | false =>
    cases h : hasB (wrgE P q T U F tick i) v with
    | false => rfl
    | true => rw [(List.mem_filter.1 (hasB_mem.1 h)).2] at hw; cases hw
/-- the law's way to the end of a word -/
def runE (q : Aut) (s : Int) : List Int → Int
  | [] => s
  | v :: ws => if 0 ≤ s then runE q (nxt q s v) ws else runE q s ws
theorem runE_neg {q : Aut} : ∀ (ws : List Int) (s : Int), s < 0 → runE q s ws = s
  | [], _, _ => rfl
  | v :: ws, s, h => by unfold runE; rw [if_neg (by omega)]; exact runE_neg ws s h
theorem runE_goS {q : Aut} : ∀ (ws : List Int) (s : Int), 0 ≤ s → (∀ t, goS (stA q) s ws = some t → runE q s ws = t) ∧ (goS (stA q) s ws = none → runE q s ws < 0)
  | [], s, h => ⟨fun t ht => by injection ht, fun ht => by cases ht⟩
  | v :: ws, s, h => by
    show (∀ t, (stA q s v).bind (fun u => goS (stA q) u ws) = some t → _) ∧ ((stA q s v).bind (fun u => goS (stA q) u ws) = none → _)
    unfold runE
    rw [if_pos h]
    by_cases hn : nxt q s v < 0
    · have hs : stA q s v = none := by unfold stA; rw [if_pos hn]
      rw [hs]
      exact ⟨fun t ht => (by cases ht), fun _ => by rw [runE_neg ws _ hn]; exact hn⟩
    · have hs : stA q s v = some (nxt q s v) := by unfold stA; rw [if_neg hn]
      rw [hs]
      exact runE_goS ws _ (by omega)
/-- the law's start -/
def begE (q : Aut) : Int := min q.st 1 - 1
theorem ver_run (hq : 0 ≤ q.st) (wp : WF P) (ws : List Int) (ev : Int) :
    verE P q T U F tick ws ev = if decide (0 ≤ runE q (begE q) ws) && wrgB P q T U F tick (runE q (begE q) ws) ev then 0 else 24 := by
  unfold verE endE
  by_cases h0 : q.st = 0
  · rw [if_pos h0]
    have hb : begE q = -1 := by unfold begE; rw [h0]; rfl
    rw [hb, runE_neg ws _ (by omega), if_neg (by simp)]
  · rw [if_neg h0]
    have hb : begE q = 0 := by unfold begE; omega
    rw [hb]
    obtain ⟨h1, h2⟩ := runE_goS (q := q) ws 0 (by omega)
    cases hg : goS (stA q) 0 ws with
    | none => simp only; rw [decide_eq_false (by have := h2 hg; omega)]; rfl
    | some s => 
      simp only
      rw [h1 s hg, wrg_mem wp]
      by_cases hs : 0 ≤ s
      · rw [decide_eq_true hs]; rfl
      · have : goS (stA q) 0 ws = some s → 0 ≤ s := by
          clear h1 h2 hb hs
          intro hg
          cases hl : ws.getLast? with
          | none => rw [List.getLast?_eq_none_iff] at hl; subst hl; injection hg with hg; omega
          | some v =>
            obtain ⟨us, rfl⟩ := List.getLast?_eq_some_iff.1 hl
            rw [goS_app] at hg
            cases hm : goS (stA q) 0 us with
            | none => rw [hm] at hg; cases hg
            | some m =>
              rw [hm] at hg
              have hg : (stA q m v).bind (fun u => goS (stA q) u []) = some s := hg
              cases hx : stA q m v with
              | none => rw [hx] at hg; cases hg
              | some y => rw [hx] at hg; injection hg with hg; rw [← hg]; exact (stA_some.1 hx).2
        exact absurd (this hg) hs
/-- the law's search for the first event that is wrongly refused: a state, its events -/
def seaE (ws : List (List Int)) (P q : Aut) (T : List (List Int)) (U F : List Int) (tick : Int) (i : Nat) : List Int → List Int × Int × Bool → List Int × Int × Bool
  | [], c => c
  | v :: l, c => seaE ws P q T U F tick i l (if c.2.2 && wrgB P q T U F tick i v then (ws.getD i [], v, false) else c)
def seaS (ws : List (List Int)) (P q : Aut) (T : List (List Int)) (U F : List Int) (tick : Int) (al : List Int) : Nat → List Int × Int × Bool
  | 0 => ([], 0, true)
  | n + 1 => seaE ws P q T U F tick n al (seaS ws P q T U F tick al n)
theorem seaE_bad {ws : List (List Int)} {i : Nat} : ∀ (l : List Int) (c : List Int × Int × Bool), c.2.2 = false → seaE ws P q T U F tick i l c = c
  | [], _, _ => rfl
  | v :: l, c, h => by unfold seaE; rw [h, Bool.false_and, if_neg (by simp)]; exact seaE_bad l c h
theorem seaE_ok {ws : List (List Int)} {i : Nat} : ∀ (l : List Int) (c : List Int × Int × Bool), c.2.2 = true → seaE ws P q T U F tick i l c = match l.filter (wrgB P q T U F tick i) with | [] => c | v :: _ => (ws.getD i [], v, false)
  | [], _, _ => rfl
  | v :: l, c, h => by
    unfold seaE
    rw [h, Bool.true_and, List.filter_cons]
    by_cases hw : wrgB P q T U F tick i v = true
    · rw [if_pos hw, if_pos hw, seaE_bad l _ rfl]
    · rw [if_neg hw, if_neg hw]; exact seaE_ok l c h
theorem seaS_eq {ws : List (List Int)} (hq : q.al = P.al) : ∀ n : Nat, seaS ws P q T U F tick q.al n = match badE P q T U F tick n with | [] => ([], 0, true) | s :: _ => (ws.getD s.toNat [], (wrgE P q T U F tick s).headD 0, false)
  | 0 => rfl
  | n + 1 => by
    have ih := seaS_eq (ws := ws) hq n
    have hb : badE P q T U F tick (n + 1) = badE P q T U F tick n ++ if wrgP P q T U F tick n = true then [(n : Int)] else [] := by
      rw [badE_eq, badE_eq, rngI_snoc, List.filter_append]
      congr 1
      rw [List.filter_cons]; rfl
    show seaE ws P q T U F tick n q.al (seaS ws P q T U F tick q.al n) = _
    rw [hb]
    cases hB : badE P q T U F tick n with
    | cons s l =>
      rw [hB] at ih
      simp only at ih
      rw [ih, seaE_bad _ _ rfl]; rfl
    | nil =>
      rw [hB] at ih
      simp only at ih
      rw [ih, seaE_ok _ _ rfl, List.nil_append]
      have hw : q.al.filter (wrgB P q T U F tick n) = wrgE P q T U F tick n := by rw [hq]; rfl
      rw [hw]
      unfold wrgP
      cases hE : wrgE P q T U F tick n with
      | nil => rfl
      | cons v l =>
        show (ws.getD n [], v, false) = (ws.getD ((n : Int).toNat) [], (wrgE P q T U F tick n).headD 0, false)
        rw [hE, Int.toNat_natCast]; rfl
theorem sea_ctl (hP : Prob P S q T) : seaS (wdsOf T.length q.ed) P q T U F tick q.al T.length = ctlE P q T U F tick := by
  rw [seaS_eq hP.alq, ctlE_eq]
  cases hB : badE P q T U F tick T.length with
  | nil => rfl
  | cons s l =>
    obtain ⟨h1, h2, _, _⟩ := flt_head (show (rngI (T.length : Int)).filter _ = s :: l from hB)
    unfold ctlB
    simp only
    obtain ⟨k, rfl⟩ : ∃ k : Nat, s = (k : Int) := ⟨s.toNat, by omega⟩
    have hk : k < T.length := by omega
    rw [Int.toNat_natCast, List.getD_eq_getElem?_getD, wdsOf_get hk]
    simp only [Option.getD_some]
    rw [pathW_any hP.num k k T.length (by rw [hP.tups.1]; exact h2) (Nat.le_refl _) (by omega)]
/-- the witness is one -/
theorem ctl_ver (hP : Prob P S q T) (hc : (ctlE P q T U F tick).2.2 = false) : verE P q T U F tick (ctlE P q T U F tick).1 (ctlE P q T U F tick).2.1 = 0 := by
  rw [ctlE_eq] at hc ⊢
  cases hB : badE P q T U F tick T.length with
  | nil => rw [hB] at hc; cases hc
  | cons s l =>
    obtain ⟨h1, h2, h3, _⟩ := flt_head (show (rngI (T.length : Int)).filter (wrgP P q T U F tick) = s :: l from hB)
    obtain ⟨k, rfl⟩ : ∃ k : Nat, s = (k : Int) := ⟨s.toNat, by omega⟩
    have hk : k < T.length := by omega
    have hst := hP.tups.1
    show verE P q T U F tick (pathW q.ed T.length k).reverse ((wrgE P q T U F tick k).headD 0) = 0
    unfold verE endE
    rw [if_neg (by omega), path_run hP.num k T.length (by rw [hst]; exact h2) (by omega)]
    simp only
    rw [if_pos]
    unfold wrgP at h3
    cases hE : wrgE P q T U F tick k with
    | nil => rw [hE] at h3; cases h3
    | cons v m => exact hasB_mem.2 (List.mem_cons_self ..)
/-- the states in which the tick is refused -/
theorem pre_flt (wp : WF P) : preE P q T tick = (rngI (T.length : Int)).filter fun i => refE P q T i tick := by
  unfold preE
  refine List.filter_congr fun i _ => ?_
  unfold preP refL
  cases hr : refE P q T i tick with
  | true => exact hasB_mem.2 (List.mem_filter.2 ⟨ref_in wp hr, hr⟩)
  | false =>
    cases h : hasB (P.al.filter (refE P q T i)) tick with
    | false => rfl
    | true => rw [(List.mem_filter.1 (hasB_mem.1 h)).2] at hr; cases hr
end
end Go.Proofs.YtioijhpbedmeaaaDoor

/- Plain: more of what the statements of chapter 45 compare. -/
namespace Go.Proofs.YtioijhpbedmeaaaDoor
section
variable {P S q : Aut} {T : List (List Int)} {U F : List Int} {tick : Int}

/-- in the product of a plant with itself both states are the same -/
theorem own_same (hP : Prob P P q T) {t : List Int} (h : Rch (stp [P, P]) (evs [P, P]) (ini [P, P]) t) : ∃ x, t = [x, x] := by
  induction h with
  | start => exact ⟨0, rfl⟩
  | @step t0 u0 v0 h1 hv hs ih =>
    obtain ⟨x, rfl⟩ := ih
    rw [evs_two hP.wp hP.wr rfl] at hv
    rw [stp_two rfl hv] at hs
    by_cases hn : nxt P x v0 < 0 ∨ nxt P x v0 < 0
    · rw [if_pos hn] at hs; cases hs
    · rw [if_neg hn] at hs; injection hs with hs; exact ⟨_, hs.symm⟩
theorem own_at (hP : Prob P P q T) {i : Int} (hi : 0 ≤ i ∧ i < q.st) : ∃ x, T[i.toNat]? = some [x, x] := by
  obtain ⟨x, y, ht, _, _⟩ := hP.two_at hi
  obtain ⟨s, _, hb, hT, _⟩ := hP.bi (by omega)
  obtain ⟨z, hz⟩ := own_same hP (hb.rch [x, y] (by rw [hT]; exact List.mem_of_getElem? ht))
  injection hz with h1 h2
  injection h2 with h2
  exact ⟨x, by rw [ht, h1, h2]⟩
theorem fst2_at {i : Int} {s r : Int} (ht : T[i.toNat]? = some [s, r]) : fst2 T i = s := by
  unfold fst2; simp [List.getD_eq_getElem?_getD, ht]
theorem own_ref (hP : Prob P P q T) {i v : Int} (hi : 0 ≤ i ∧ i < q.st) : refE P q T i v = false := by
  cases hr : refE P q T i v with
  | false => rfl
  | true =>
    have hv := ref_in hP.wp hr
    obtain ⟨x, ht⟩ := own_at hP hi
    unfold refE at hr
    rw [fst2_at ht, Bool.and_eq_true, decide_eq_true_eq, decide_eq_true_eq] at hr
    have := ((hP.step hv hi.1 ht).2 hr.1 (fun h => by omega)).1
    omega
theorem bad_nil (n : Nat) (h : ∀ i : Int, 0 ≤ i → i < (n : Int) → ∀ v ∈ P.al, wrgB P q T U F tick i v = false) : badE P q T U F tick n = [] := by
  rw [badE_eq, List.eq_nil_iff_forall_not_mem]
  intro i hi
  obtain ⟨h1, h2⟩ := List.mem_filter.1 hi
  have h3 := rngI_mem.1 h1
  unfold wrgP at h2
  cases hE : wrgE P q T U F tick i with
  | nil => rw [hE] at h2; cases h2
  | cons v l =>
    have hm : v ∈ wrgE P q T U F tick i := by rw [hE]; exact List.mem_cons_self ..
    obtain ⟨h4, h5⟩ := List.mem_filter.1 hm
    rw [h i h3.1 h3.2 v h4] at h5; cases h5
theorem bad_not {n : Nat} (h : badE P q T U F tick n = []) {i : Int} (h0 : 0 ≤ i) (h1 : i < (n : Int)) {v : Int} (hv : v ∈ P.al) : wrgB P q T U F tick i v = false := by
  cases hw : wrgB P q T U F tick i v with
  | false => rfl
  | true =>
    have hm : i ∈ badE P q T U F tick n := by
      rw [badE_eq]
      refine List.mem_filter.2 ⟨rngI_mem.2 ⟨h0, h1⟩, ?_⟩
      unfold wrgP
      have : v ∈ wrgE P q T U F tick i := List.mem_filter.2 ⟨hv, hw⟩
      cases hE : wrgE P q T U F tick i with
      | nil => rw [hE] at this; cases this
      | cons a l => rfl
    rw [h] at hm; cases hm
theorem ctl_iff : (ctlE P q T U F tick).2.2 = true ↔ badE P q T U F tick T.length = [] := by
  rw [ctlE_eq]
  cases badE P q T U F tick T.length with
  | nil => exact ⟨fun _ => rfl, fun _ => rfl⟩
  | cons s l =>
    refine ⟨fun h => ?_, fun h => ?_⟩
    · exact absurd (show false = true from h) (by simp)
    · exact absurd h (by simp)
/-- the plant is a controllable supervisor -/
theorem own_ctl (hP : Prob P P q T) : (ctlE P q T U F tick).2.2 = true := by
  rw [ctl_iff]
  refine bad_nil _ fun i h0 h1 v _ => ?_
  unfold wrgB
  rw [own_ref hP ⟨h0, by rw [hP.tups.1]; exact h1⟩, Bool.false_and]
/-- more forcible and fewer uncontrollable events -/
theorem more_ctl {U2 F2 : List Int} (hU : ∀ v ∈ U2, v ∈ U) (hF : ∀ v ∈ F, v ∈ F2) (h : (ctlE P q T U F tick).2.2 = true) : (ctlE P q T U2 F2 tick).2.2 = true := by
  rw [ctl_iff] at h ⊢
  refine bad_nil _ fun i h0 h1 v hv => ?_
  have hw := bad_not h h0 h1 hv
  unfold wrgB at hw ⊢
  cases hr : refE P q T i v with
  | false => rfl
  | true =>
    rw [hr, Bool.true_and, Bool.or_eq_false_iff] at hw
    rw [Bool.true_and, Bool.or_eq_false_iff]
    refine ⟨?_, ?_⟩
    · cases hb : hasB U2 v with
      | false => rfl
      | true => rw [hasB_mem.2 (hU v (hasB_mem.1 hb))] at hw; cases hw.1
    · have h2 := hw.2
      rw [Bool.and_eq_false_iff] at h2 ⊢
      rcases h2 with h2 | h2
      · exact .inl h2
      · right
        cases hE : frcE q F i with
        | nil => rw [hE] at h2; cases h2
        | cons x l =>
          have hx : x ∈ frcE q F i := by rw [hE]; exact List.mem_cons_self ..
          obtain ⟨h3, h4⟩ := List.mem_filter.1 hx
          have : x ∈ frcE q F2 i := List.mem_filter.2 ⟨hF x h3, h4⟩
          cases hE2 : frcE q F2 i with
          | nil => rw [hE2] at this; cases this
          | cons y m => rfl
/-- what a controllable loop refuses -/
theorem lives_at (hP : Prob P S q T) (h : badE P q T U F tick T.length = []) {i s r v : Int} (h0 : 0 ≤ i) (ht : T[i.toNat]? = some [s, r]) (h1 : 0 ≤ nxt P s v) (hv : v = tick ∨ v ∈ U) (h2 : nxt q i v < 0) : v = tick ∧ ∃ x ∈ F, 0 ≤ nxt q i x := by
  have hi : i < (T.length : Int) := by have := (List.getElem?_eq_some_iff.1 ht).1; omega
  have hr : refE P q T i v = true := by unfold refE; rw [fst2_at ht, decide_eq_true h1, decide_eq_true h2]; rfl
  have hw := bad_not h h0 hi (ref_in hP.wp hr)
  unfold wrgB at hw
  rw [hr, Bool.true_and, Bool.or_eq_false_iff, Bool.and_eq_false_iff] at hw
  obtain ⟨w1, w2⟩ := hw
  have hvt : v = tick := by
    rcases hv with hv | hv
    · exact hv
    · rw [hasB_mem.2 hv] at w1; cases w1
  refine ⟨hvt, ?_⟩
  rcases w2 with w2 | w2
  · rw [hvt] at w2; simp at w2
  · cases hE : frcE q F i with
    | nil => rw [hE] at w2; cases w2
    | cons x l =>
      have hx : x ∈ frcE q F i := by rw [hE]; exact List.mem_cons_self ..
      obtain ⟨h3, h4⟩ := List.mem_filter.1 hx
      exact ⟨x, h3, by simpa using h4⟩
/-- a controllable loop can do something wherever its plant can tick or do an uncontrollable event -/
theorem lives_able (hP : Prob P S q T) (h : badE P q T U F tick T.length = []) {i s r v : Int} (h0 : 0 ≤ i) (ht : T[i.toNat]? = some [s, r]) (h1 : 0 ≤ nxt P s v) (hv : v = tick ∨ v ∈ U) : ∃ x ∈ q.ed, x.f = i := by
  have key : ∃ y, 0 ≤ nxt q i y := by
    by_cases h2 : nxt q i v < 0
    · obtain ⟨_, x, _, hx⟩ := lives_at hP h h0 ht h1 hv h2
      exact ⟨x, hx⟩
    · exact ⟨v, by omega⟩
  obtain ⟨y, hy⟩ := key
  exact ⟨⟨i, y, nxt q i y⟩, (nxt_ed hP.pwf).2 ⟨rfl, hy⟩, rfl⟩
end
end Go.Proofs.YtioijhpbedmeaaaDoor

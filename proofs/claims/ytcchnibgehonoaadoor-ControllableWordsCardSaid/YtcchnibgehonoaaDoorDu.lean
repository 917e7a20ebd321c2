/- Plain: which words the supremal and the infimal language have, by the steps of the two automata themselves (for ControllableWords). -/
import Derived.Test.YtcchnibgehonoaaDoorDt
namespace Go.Proofs.YtcchnibgehonoaaDoor

/-- a step of both -/
def stI (P R : Aut) (z : Int × Int) (v : Int) : Option (Int × Int) :=
 if nxt P z.1 v < 0 ∨ (hasB R.al v = true ∧ nxt R z.2 v < 0) then none else some (nxt P z.1 v, if hasB R.al v = true then nxt R z.2 v else z.2)
/-- uncontrollable events may break the requirement from here -/
inductive Brk (P R : Aut) (u : List Int) : Int × Int → Prop where
 | bad {z : Int × Int} {v : Int} : v ∈ u → 0 ≤ nxt P z.1 v → hasB R.al v = true → nxt R z.2 v < 0 → Brk P R u z
 | go {z y : Int × Int} {v : Int} : v ∈ u → stI P R z v = some y → Brk P R u y → Brk P R u z
theorem stI_some {P R : Aut} {z y : Int × Int} {v : Int} : stI P R z v = some y ↔ 0 ≤ nxt P z.1 v ∧ ¬ (hasB R.al v = true ∧ nxt R z.2 v < 0) ∧ y = (nxt P z.1 v, if hasB R.al v = true then nxt R z.2 v else z.2) := by
 unfold stI
 by_cases h : nxt P z.1 v < 0 ∨ (hasB R.al v = true ∧ nxt R z.2 v < 0)
 ·rw [if_pos h]
  constructor
  ·intro e; cases e
  ·rintro ⟨h1, h2, _⟩
   rcases h with h | h
   ·omega
   ·exact absurd h h2
 ·rw [if_neg h]
  constructor
  ·intro e
   injection e with e
   exact ⟨by omega, fun h2 => h (.inr h2), e.symm⟩
  ·rintro ⟨_, _, e⟩; rw [e]
theorem projW_cons9 (v : Int) (ws al : List Int) : projW (v :: ws) al = if hasB al v = true then v :: projW ws al else projW ws al := by
 unfold projW; rw [List.filter_cons]
theorem goS_pair {P R : Aut} : ∀ (ws : List Int) (z : Int × Int), goS (stI P R) z ws = (goS (stA P) z.1 ws).bind fun x => (goS (stA R) z.2 (projW ws R.al)).map fun y => (x, y)
 | [], _ => rfl
 | v :: ws, z => by
  have ih := goS_pair (P := P) (R := R) ws
  rw [projW_cons9]
  show (stI P R z v).bind _ = ((stA P z.1 v).bind _).bind _
  by_cases hP : nxt P z.1 v < 0
  ·rw [show stI P R z v = none by unfold stI; rw [if_pos (.inl hP)], show stA P z.1 v = none by unfold stA; rw [if_pos hP]]; rfl
  ·rw [show stA P z.1 v = some (nxt P z.1 v) by unfold stA; rw [if_neg hP]]
   cases hb : hasB R.al v with
   | false =>
    rw [show stI P R z v = some (nxt P z.1 v, z.2) from stI_some.2 ⟨by omega, by rw [hb]; simp, by rw [hb]; rfl⟩]
    exact ih _
   | true =>
    by_cases hR : nxt R z.2 v < 0
    ·rw [show stI P R z v = none by unfold stI; rw [if_pos (.inr ⟨hb, hR⟩)]]
     rw [show goS (stA R) z.2 (if true = true then v :: projW ws R.al else projW ws R.al) = none by
      show (stA R z.2 v).bind _ = none
      rw [show stA R z.2 v = none by unfold stA; rw [if_pos hR]]; rfl]
     simp
    ·rw [show stI P R z v = some (nxt P z.1 v, nxt R z.2 v) from stI_some.2 ⟨by omega, fun h => hR h.2, by rw [hb]; rfl⟩]
     rw [show goS (stA R) z.2 (if true = true then v :: projW ws R.al else projW ws R.al) = goS (stA R) (nxt R z.2 v) (projW ws R.al) by
      show (stA R z.2 v).bind _ = _
      rw [show stA R z.2 v = some (nxt R z.2 v) by unfold stA; rw [if_neg hR]]; rfl]
     exact ih _
theorem goS_take {σ : Type} {st : σ → Int → Option σ} : ∀ (ws : List Int) (z : σ) (k : Nat), k ≤ ws.length → ((goS st z (ws.take k)).isSome = true ↔ k ≤ (runS st z ws).2)
 | [], _, k, h => by
  have : k = 0 := by simpa using h
  subst this
  exact ⟨fun _ => Nat.le_refl _, fun _ => rfl⟩
 | _ :: _, _, 0, _ => ⟨fun _ => Nat.zero_le _, fun _ => rfl⟩
 | v :: ws, z, k + 1, h => by
  rw [List.take_succ_cons]
  unfold goS runS
  cases st z v with
  | none => simp
  | some y =>
   have := goS_take (st := st) ws y k (by simpa using h)
   show (goS st y (ws.take k)).isSome = true ↔ _
   rw [this]
   show _ ↔ k + 1 ≤ (runS st y ws).2 + 1
   omega
section
variable {P R q : Aut} {u : List Int} {T : List (List Int)}
theorem Prob.stp_ed (h : Prob P R u q T) {i j v : Int} {z : Int × Int} (hi : 0 ≤ i ∧ i < q.st) (ht : T[i.toNat]? = some [z.1, z.2]) (he : nxt q i v = j ∧ 0 ≤ j) : ∃ y : Int × Int, stI P R z v = some y ∧ (0 ≤ j ∧ j < q.st) ∧ T[j.toNat]? = some [y.1, y.2] := by
 obtain ⟨rfl, h0⟩ := he
 have hr := h.pwf.nxt_rng (s := i) (v := v) (by omega)
 have hv : v ∈ P.al := by rw [← h.alq]; exact hasB_mem.1 hr.2.2.1
 obtain ⟨s1, s2⟩ := h.step hv hi.1 ht
 by_cases hc : nxt P z.1 v < 0 ∨ (hasB R.al v = true ∧ nxt R z.2 v < 0)
 ·have := s1 hc; omega
 ·have hc1 : ¬ nxt P z.1 v < 0 := fun h => hc (.inl h)
  have hc2 : ¬ (hasB R.al v = true ∧ nxt R z.2 v < 0) := fun h => hc (.inr h)
  obtain ⟨g1, g2⟩ := s2 (by omega) hc2
  exact ⟨(nxt P z.1 v, if hasB R.al v = true then nxt R z.2 v else z.2), stI_some.2 ⟨by omega, hc2, rfl⟩, ⟨h0, hr.2.1⟩, g2⟩
theorem Prob.ed_stp (h : Prob P R u q T) {i v : Int} {z y : Int × Int} (hi : 0 ≤ i ∧ i < q.st) (ht : T[i.toNat]? = some [z.1, z.2]) (he : stI P R z v = some y) : v ∈ P.al ∧ 0 ≤ nxt q i v ∧ nxt q i v < q.st ∧ T[(nxt q i v).toNat]? = some [y.1, y.2] := by
 obtain ⟨h1, h2, rfl⟩ := stI_some.1 he
 have hv : v ∈ P.al := hasB_mem.1 (h.wp.nxt_rng (s := z.1) (v := v) (by omega)).2.2.1
 obtain ⟨g1, g2⟩ := (h.step hv hi.1 ht).2 h1 h2
 exact ⟨hv, g1, (h.pwf.nxt_rng (s := i) (v := v) (by omega)).2.1, g2⟩
theorem brk_con (h : Prob P R u q T) {i : Int} {z : Int × Int} (hi : 0 ≤ i ∧ i < q.st) (ht : T[i.toNat]? = some [z.1, z.2]) : Con q.ed (intS u P.al) true (badI P R (intS u P.al) T T.length) i ↔ Brk P R u z := by
 constructor
 ·intro hc
  induction hc generalizing z with
  | base hb =>
   obtain ⟨v, h1, h2, h3, h4⟩ := (bad_mem h hi ht).1 hb
   exact .bad h1 h2 h3 h4
  | @step x _ hx hv ih =>
   obtain ⟨f, v, t⟩ := x
   obtain ⟨y, h1, h2, h3⟩ := h.stp_ed hi ht ((nxt_ed h.pwf).1 hx)
   have hu := hasB_mem.1 hv
   unfold intS at hu
   exact .go (List.mem_filter.1 hu).1 h1 (ih h2 h3)
 ·intro hb
  induction hb generalizing i with
  | bad h1 h2 h3 h4 => exact .base ((bad_mem h hi ht).2 ⟨_, h1, h2, h3, h4⟩)
  | @go z y v h1 h2 _ ih =>
   obtain ⟨g1, g2, g3, g4⟩ := h.ed_stp hi ht h2
   have hc := ih ⟨g2, g3⟩ g4
   have he : (⟨i, v, nxt q i v⟩ : Ed) ∈ q.ed := (nxt_ed h.pwf).2 ⟨rfl, g2⟩
   exact Con.step (x := ⟨i, v, nxt q i v⟩) hc he (by rw [int_al g1]; exact hasB_mem.2 h1)
/-- the word keeps to the requirement, and none of its prefixes can be led to break it -/
def sfe (P R : Aut) (u : List Int) : Int × Int → List Int → Prop
 | z, [] => ¬ Brk P R u z
 | z, v :: ws => ¬ Brk P R u z ∧ ∃ y, stI P R z v = some y ∧ sfe P R u y ws
theorem kk_brk (h : Prob P R u q T) {i : Int} {z : Int × Int} (hi : 0 ≤ i ∧ i < q.st) (ht : T[i.toNat]? = some [z.1, z.2]) : i ∈ KK P R q u T ↔ ¬ Brk P R u z := by
 unfold KK
 rw [supK_mem h, brk_con h hi ht]
 exact ⟨fun h => h.2, fun h => ⟨hi, h⟩⟩
theorem sup_sfe (h : Prob P R u q T) : ∀ (ws : List Int) (i : Int) (z : Int × Int), (0 ≤ i ∧ i < q.st) → T[i.toNat]? = some [z.1, z.2] → ((i ∈ KK P R q u T ∧ (goS (stA (rstA q (KK P R q u T))) i ws).isSome = true) ↔ sfe P R u z ws)
 | [], i, z, hi, ht => by
  rw [kk_brk h hi ht]
  exact ⟨fun h => h.1, fun h => ⟨h, rfl⟩⟩
 | v :: ws, i, z, hi, ht => by
  show _ ↔ ¬ Brk P R u z ∧ ∃ y, stI P R z v = some y ∧ sfe P R u y ws
  rw [kk_brk h hi ht]
  constructor
  ·rintro ⟨h1, h2⟩
   refine ⟨h1, ?_⟩
   obtain ⟨x, hx⟩ := Option.isSome_iff_exists.1 h2
   unfold goS at hx
   cases hs : stA (rstA q (KK P R q u T)) i v with
   | none => rw [hs] at hx; cases hx
   | some j =>
    rw [hs] at hx
    obtain ⟨g1, _, g3⟩ := (rst_ed h.pwf).1 (stA_some.1 hs)
    obtain ⟨y, k1, k2, k3⟩ := h.stp_ed hi ht g1
    exact ⟨y, k1, (sup_sfe h ws j y k2 k3).1 ⟨g3, by rw [show goS _ j ws = some x from hx]; rfl⟩⟩
  ·rintro ⟨h1, y, h2, h3⟩
   refine ⟨h1, ?_⟩
   obtain ⟨_, g2, g3, g4⟩ := h.ed_stp hi ht h2
   obtain ⟨k1, k2⟩ := (sup_sfe h ws _ y ⟨g2, g3⟩ g4).2 h3
   unfold goS
   rw [show stA (rstA q (KK P R q u T)) i v = some (nxt q i v) from stA_some.2 ((rst_ed h.pwf).2 ⟨⟨rfl, g2⟩, (kk_brk h hi ht).2 h1, k1⟩)]
   exact k2
theorem Prob.t0 (h : Prob P R u q T) (h0 : q.st ≠ 0) : (0 ≤ (0 : Int) ∧ (0 : Int) < q.st) ∧ T[(0 : Int).toNat]? = some [0, 0] := by
 have hz : 0 ≤ (0 : Int) ∧ (0 : Int) < q.st := ⟨by omega, by have := h.tups.1; omega⟩
 obtain ⟨s, hs, hb, hT, hq⟩ := h.bi h0
 obtain ⟨x, y, ht, _⟩ := h.two_at hz
 refine ⟨hz, ?_⟩
 have e1 := stAt_get (x0 := ini [P, R]) (k := 0) ht
 have e2 := hb.at0
 rw [hT] at e2
 rw [ht, ← e1]
 exact congrArg some e2
theorem sup_fin (h : Prob P R u q T) (ws : List Int) : gA (supA P R (intS u P.al) q T T.length) ws = true ↔ q.st ≠ 0 ∧ sfe P R u (0, 0) ws := by
 rw [sup_gen h]
 by_cases h0 : q.st = 0
 ·constructor
  ·rintro ⟨h1, _⟩
   have := ((supK_mem h).1 h1).1
   omega
  ·rintro ⟨h1, _⟩; exact absurd h0 h1
 ·obtain ⟨h1, h2⟩ := h.t0 h0
  rw [sup_sfe h ws 0 (0, 0) h1 h2]
  exact ⟨fun h => ⟨h0, h⟩, fun h => h.2⟩
theorem sfe_iff : ∀ (ws : List Int) (z : Int × Int), sfe P R u z ws ↔ ∀ k, k ≤ ws.length → ∃ y, goS (stI P R) z (ws.take k) = some y ∧ ¬ Brk P R u y
 | [], z => by
  constructor
  ·intro h k hk
   exact ⟨z, by rw [List.take_nil]; rfl, h⟩
  ·intro h
   obtain ⟨y, h1, h2⟩ := h 0 (Nat.le_refl _)
   injection h1 with h1
   rw [h1]; exact h2
 | v :: ws, z => by
  show (¬ Brk P R u z ∧ ∃ y, stI P R z v = some y ∧ sfe P R u y ws) ↔ _
  constructor
  ·rintro ⟨h1, y, h2, h3⟩ k hk
   cases k with
   | zero => exact ⟨z, rfl, h1⟩
   | succ k =>
    obtain ⟨x, g1, g2⟩ := (sfe_iff ws y).1 h3 k (by simpa using hk)
    refine ⟨x, ?_, g2⟩
    rw [List.take_succ_cons]
    unfold goS
    rw [h2]; exact g1
  ·intro h
   obtain ⟨y0, e1, e2⟩ := h 0 (Nat.zero_le _)
   have e1 : some z = some y0 := e1
   injection e1 with e1
   subst e1
   obtain ⟨y1, f1, _⟩ := h 1 (by simp)
   rw [List.take_succ_cons] at f1
   unfold goS at f1
   cases hs : stI P R z v with
   | none => rw [hs] at f1; cases f1
   | some y =>
    refine ⟨e2, y, rfl, (sfe_iff ws y).2 fun k hk => ?_⟩
    obtain ⟨x, g1, g2⟩ := h (k + 1) (by simpa using hk)
    rw [List.take_succ_cons] at g1
    unfold goS at g1
    rw [hs] at g1
    exact ⟨x, g1, g2⟩
end
/-- the last prefix that is permitted -/
def nF (pm : Nat → Bool) : Nat → Int
 | 0 => -1
 | k + 1 => if pm k = true then k else nF pm k
/-- and none of them can be led to break it -/
def sF (pm bk : Nat → Bool) : Nat → Bool
 | 0 => true
 | k + 1 => if pm k = true then sF pm bk k && !bk k else sF pm bk k
theorem nF_lt (pm : Nat → Bool) : ∀ k, -1 ≤ nF pm k ∧ nF pm k < k
 | 0 => by unfold nF; omega
 | k + 1 => by
  have := nF_lt pm k
  unfold nF
  split <;> omega
theorem nF_at {pm : Nat → Bool} {c : Nat} : ∀ m, c < m → (∀ k, k < m → (pm k = true ↔ k ≤ c)) → nF pm m = c
 | 0, h, _ => by omega
 | m + 1, h, hp => by
  unfold nF
  by_cases hm : pm m = true
  ·rw [if_pos hm]
   have := (hp m (by omega)).1 hm
   omega
  ·rw [if_neg hm]
   have hc : c < m := by
    by_cases hc : c < m
    ·exact hc
    ·exact absurd ((hp m (by omega)).2 (by omega)) hm
   exact nF_at m hc fun k hk => hp k (by omega)
theorem sF_iff {pm bk : Nat → Bool} : ∀ m, sF pm bk m = true ↔ ∀ k, k < m → pm k = true → bk k = false
 | 0 => ⟨fun _ k hk => by omega, fun _ => rfl⟩
 | m + 1 => by
  have ih := sF_iff (pm := pm) (bk := bk) m
  unfold sF
  by_cases hm : pm m = true
  ·rw [if_pos hm, Bool.and_eq_true, ih]
   constructor
   ·rintro ⟨h1, h2⟩ k hk hp
    by_cases hkm : k = m
    ·subst hkm; simpa using h2
    ·exact h1 k (by omega) hp
   ·intro h
    exact ⟨fun k hk => h k (by omega), by rw [h m (by omega) hm]; rfl⟩
  ·rw [if_neg hm, ih]
   constructor
   ·intro h k hk hp
    by_cases hkm : k = m
    ·subst hkm; exact absurd hp hm
    ·exact h k (by omega) hp
   ·intro h k hk; exact h k (by omega)
/-- is a prefix permitted by the requirement? -/
def pmF (R : Aut) (ws : List Int) (k : Nat) : Bool := gA R (projW (ws.take k) R.al)
/-- the states that it leads to -/
def prF (P R : Aut) (ws : List Int) : Int × Int := ((runS (stA P) 0 ws).1, (runS (stA R) 0 (projW ws R.al)).1)
/-- whether a prefix can be led to break the requirement -/
theorem brk_flags (P R : Aut) (u ws : List Int) : ∃ bk : Nat → Bool, ∀ k, bk k = true ↔ Brk P R u (prF P R (ws.take k)) :=
 ⟨fun k => @decide (Brk P R u (prF P R (ws.take k))) (Classical.propDecidable _), fun k => by simp⟩
section
variable {P R q : Aut} {u : List Int} {T : List (List Int)} {ws : List Int}
theorem gA_iff {a : Aut} : gA a ws = true ↔ a.st ≠ 0 ∧ (goS (stA a) 0 ws).isSome = true := by unfold gA; simp
theorem goS_some_run {σ : Type} {st : σ → Int → Option σ} {z : σ} (h : (goS st z ws).isSome = true) : goS st z ws = some (runS st z ws).1 := by
 rw [goS_run] at h ⊢
 split
 ·rfl
 ·rename_i hh; rw [if_neg hh] at h; cases h
theorem goS_len {σ : Type} {st : σ → Int → Option σ} {z : σ} (h : (goS st z ws).isSome = true) : (runS st z ws).2 = ws.length := by
 rw [goS_run] at h
 by_cases hh : (runS st z ws).2 = ws.length
 ·exact hh
 ·rw [if_neg hh] at h; cases h
theorem gA_take {a : Aut} (h : gA a ws = true) {k : Nat} (hk : k ≤ ws.length) : gA a (ws.take k) = true := by
 obtain ⟨h1, h2⟩ := gA_iff.1 h
 exact gA_iff.2 ⟨h1, (goS_take ws 0 k hk).2 (by rw [goS_len h2]; exact hk)⟩
/-- permitted: both can go there -/
theorem pm_iff (hg : gA P ws = true) (hR : R.st ≠ 0) {k : Nat} (hk : k ≤ ws.length) : (pmF R ws k = true ↔ (goS (stI P R) (0, 0) (ws.take k)).isSome = true) ∧ (pmF R ws k = true → goS (stI P R) (0, 0) (ws.take k) = some (prF P R (ws.take k))) := by
 have hp := (gA_iff.1 (gA_take hg hk)).2
 have e := goS_pair (P := P) (R := R) (ws.take k) (0, 0)
 rw [goS_some_run hp] at e
 have e1 : pmF R ws k = true ↔ (goS (stA R) 0 (projW (ws.take k) R.al)).isSome = true := by
  unfold pmF
  rw [gA_iff]
  exact ⟨fun h => h.2, fun h => ⟨hR, h⟩⟩
 constructor
 ·rw [e1, e]
  show _ ↔ ((goS (stA R) 0 (projW (ws.take k) R.al)).map _).isSome = true
  rw [Option.isSome_map]
 ·intro h
  rw [e]
  show (goS (stA R) 0 (projW (ws.take k) R.al)).map _ = _
  rw [goS_some_run (e1.1 h)]
  rfl
theorem nF_val (hg : gA P ws = true) : nF (pmF R ws) (ws.length + 1) = if R.st = 0 then -1 else ((runS (stI P R) (0, 0) ws).2 : Int) := by
 by_cases hR : R.st = 0
 ·rw [if_pos hR]
  have : ∀ m, nF (pmF R ws) m = -1 := by
   intro m
   induction m with
   | zero => rfl
   | succ m ih =>
    unfold nF
    rw [if_neg (by unfold pmF gA; simp [hR]), ih]
  exact this _
 ·rw [if_neg hR]
  refine nF_at _ (by have := runS_le (st := stI P R) ws (0, 0); omega) fun k hk => ?_
  rw [(pm_iff hg hR (by omega)).1, goS_take ws _ k (by omega)]
theorem words_in (h : Prob P R u q T) (hg : gA P ws = true) {bk : Nat → Bool} (hb : ∀ k, k ≤ ws.length → pmF R ws k = true → (bk k = true ↔ Brk P R u (prF P R (ws.take k)))) :
  gA (supA P R (intS u P.al) q T T.length) ws = (decide (nF (pmF R ws) (ws.length + 1) = ws.length) && sF (pmF R ws) bk (ws.length + 1)) := by
 rw [Bool.eq_iff_iff, sup_fin h, nF_val hg, Bool.and_eq_true, decide_eq_true_eq, sF_iff, h.q0]
 by_cases hR : R.st = 0
 ·rw [if_pos hR]
  constructor
  ·rintro ⟨⟨_, h2⟩, _⟩; exact absurd hR h2
  ·rintro ⟨h1, _⟩; omega
 ·rw [if_neg hR, sfe_iff]
  constructor
  ·rintro ⟨_, h1⟩
   constructor
   ·obtain ⟨y, h2, _⟩ := h1 ws.length (Nat.le_refl _)
    have h3 := (goS_take ws ((0 : Int), (0 : Int)) ws.length (Nat.le_refl _)).1 (by rw [h2]; rfl)
    have := runS_le (st := stI P R) ws (0, 0)
    omega
   ·intro k hk hp
    obtain ⟨y, h2, h3⟩ := h1 k (by omega)
    rw [(pm_iff hg hR (by omega)).2 hp] at h2
    injection h2 with h2
    subst h2
    cases hbk : bk k with
    | false => rfl
    | true => exact absurd ((hb k (by omega) hp).1 hbk) h3
  ·rintro ⟨h1, h2⟩
   refine ⟨⟨(gA_iff.1 hg).1, hR⟩, fun k hk => ?_⟩
   have hp : pmF R ws k = true := (pm_iff hg hR hk).1.2 ((goS_take ws _ k hk).2 (by omega))
   refine ⟨_, (pm_iff hg hR hk).2 hp, fun hc => ?_⟩
   have := h2 k (by omega) hp
   rw [(hb k hk hp).2 hc] at this
   cases this
theorem inf_left {U : List Int} (hP : WF P) : ∀ (ws : List Int) (x : Int), (goS (stA P) x ws).isSome = true → ((goS (nxI P R U) (x, -1) ws).isSome = true ↔ ∀ v ∈ ws, hasB U v = true)
 | [], _, _ => ⟨fun _ v hv => (by cases hv), fun _ => rfl⟩
 | v :: ws, x, h => by
  unfold goS at h ⊢
  cases hs : stA P x v with
  | none => rw [hs] at h; cases h
  | some t =>
   rw [hs] at h
   have e : nxI P R U (x, -1) v = if hasB U v = true then some (t, -1) else none := by
    obtain ⟨e1, e2⟩ := stA_some.1 hs
    unfold nxI
    show (match lkE x v P.ed with | none => _ | some t => _) = _
    rw [lkE_of_nxt hP, if_neg (by omega), e1]
    simp
   rw [e]
   by_cases hv : hasB U v = true
   ·rw [if_pos hv]
    have ih : (goS (nxI P R U) (t, -1) ws).isSome = true ↔ ∀ v ∈ ws, hasB U v = true := inf_left hP ws t h
    show (goS (nxI P R U) (t, -1) ws).isSome = true ↔ _
    rw [ih]
    simp [hv]
   ·rw [if_neg hv]
    simp [hv]
theorem inf_cut {U : List Int} (hP : WF P) (hR : WF R) : ∀ (ws : List Int) (z : Int × Int), (goS (stA P) z.1 ws).isSome = true → 0 ≤ z.2 → ((goS (nxI P R U) z ws).isSome = true ↔ ∀ v ∈ ws.drop (runS (stI P R) z ws).2, hasB U v = true)
 | [], _, _, _ => by simp [goS]
 | v :: ws, z, h, hz => by
  unfold goS at h
  cases hs : stA P z.1 v with
  | none => rw [hs] at h; cases h
  | some t =>
   rw [hs] at h
   obtain ⟨e1, e2⟩ := stA_some.1 hs
   have en : nxI P R U z v = if hasB R.al v = false then some (t, z.2) else if nxt R z.2 v < 0 then (if hasB U v = true then some (t, -1) else none) else some (t, nxt R z.2 v) := by
    unfold nxI
    rw [lkE_of_nxt hP, if_neg (by omega), e1]
    simp only
    rw [if_neg (by omega), lkE_of_nxt hR]
    by_cases hr : nxt R z.2 v < 0 <;> simp [hr]
   have go : ∀ r, 0 ≤ r → nxI P R U z v = some (t, r) → stI P R z v = some (t, r) → ((goS (nxI P R U) z (v :: ws)).isSome = true ↔ ∀ x ∈ (v :: ws).drop (runS (stI P R) z (v :: ws)).2, hasB U x = true) := by
    intro r hr g1 g2
    unfold goS runS
    rw [g1, g2]
    exact inf_cut hP hR ws (t, r) h hr
   cases hb : hasB R.al v with
   | false =>
    refine go z.2 hz (by rw [en, hb]; simp) (stI_some.2 ⟨by omega, by rw [hb]; simp, by rw [hb, e1]; rfl⟩)
   | true =>
    by_cases hr : nxt R z.2 v < 0
    ·have hst : stI P R z v = none := by unfold stI; rw [if_pos (.inr ⟨hb, hr⟩)]
     unfold goS runS
     rw [hst, en, hb, if_neg (by simp), if_pos hr]
     simp only [List.drop_zero]
     by_cases hv : hasB U v = true
     ·rw [if_pos hv]
      show (goS (nxI P R U) (t, -1) ws).isSome = true ↔ _
      rw [inf_left hP ws t h]
      simp [hv]
     ·rw [if_neg hv]
      simp [hv]
    ·exact go (nxt R z.2 v) (by omega) (by rw [en, hb]; simp [hr]) (stI_some.2 ⟨by omega, fun h => hr h.2, by rw [hb, e1]; rfl⟩)
theorem words_around (h : Prob P R u q T) (hg : gA P ws = true) {n : Int} (hn : nF (pmF R ws) (ws.length + 1) = n) :
  gA (infA P R (intS u P.al) q) ws = (decide (0 ≤ n) && (ws.drop n.toNat).all (fun v => hasB u v)) := by
 subst hn
 have hgp := gA_iff.1 hg
 rw [Bool.eq_iff_iff, inf_gen h, nF_val hg, Bool.and_eq_true, decide_eq_true_eq, h.q0]
 by_cases hR : R.st = 0
 ·rw [if_pos hR]
  constructor
  ·rintro ⟨⟨_, h2⟩, _⟩; exact absurd hR h2
  ·rintro ⟨h1, _⟩; omega
 ·rw [if_neg hR, inf_cut h.wp h.wr ws (0, 0) hgp.2 (by show (0 : Int) ≤ 0; omega), Int.toNat_natCast, List.all_eq_true]
  have hal : ∀ v ∈ ws.drop (runS (stI P R) (0, 0) ws).2, hasB (intS u P.al) v = hasB u v := fun v hv => by
   obtain ⟨x, hx⟩ := Option.isSome_iff_exists.1 hgp.2
   exact int_al (goS_al h.wp ws 0 x hx v (List.mem_of_mem_drop hv))
  constructor
  ·rintro ⟨_, h2⟩
   exact ⟨by omega, fun v hv => by rw [← hal v hv]; exact h2 v hv⟩
  ·rintro ⟨_, h2⟩
   exact ⟨⟨hgp.1, hR⟩, fun v hv => by rw [hal v hv]; exact h2 v hv⟩
end
end Go.Proofs.YtcchnibgehonoaaDoor

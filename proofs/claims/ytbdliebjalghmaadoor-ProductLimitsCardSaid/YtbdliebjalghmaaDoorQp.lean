/- Plain laws: circles with an event each (for ProductLimits). -/
import Derived.Test.YtbdliebjalghmaaDoorQj
namespace Go.Proofs.YtbdliebjalghmaaDoor

/-- the first s edges of a circle of k states with the event i -/
def cirE (i : Int) (k : Nat) : Nat → List Ed
  | 0 => []
  | s + 1 => cirE i k s ++ [⟨s, i, ((s : Int) + 1) % (k : Int)⟩]
def cir (i : Int) (k : Nat) : Aut := ⟨[i], k, [0], cirE i k k⟩
section
variable {i : Int} {k : Nat}
theorem cirE_mem {x : Ed} : ∀ {s : Nat}, x ∈ cirE i k s ↔ ∃ j : Nat, j < s ∧ x = ⟨j, i, ((j : Int) + 1) % (k : Int)⟩
  | 0 => by simp [cirE]
  | s + 1 => by
    unfold cirE
    rw [List.mem_append, cirE_mem, List.mem_singleton]
    constructor
    · rintro (⟨j, h1, h2⟩ | h)
      · exact ⟨j, by omega, h2⟩
      · exact ⟨s, by omega, h⟩
    · rintro ⟨j, h1, h2⟩
      rcases Nat.lt_or_ge j s with h | h
      · exact .inl ⟨j, h, h2⟩
      · obtain rfl : j = s := by omega
        exact .inr h2
theorem cirE_len : ∀ s : Nat, (cirE i k s).length = s
  | 0 => rfl
  | s + 1 => by unfold cirE; rw [List.length_append, cirE_len s]; rfl
theorem cirE_inc : ∀ s : Nat, (cirE i k s).Pairwise edLt
  | 0 => List.Pairwise.nil
  | s + 1 => by
    unfold cirE
    rw [List.pairwise_append]
    refine ⟨cirE_inc s, by simp, fun a ha b hb => ?_⟩
    obtain ⟨j, h1, rfl⟩ := cirE_mem.1 ha
    obtain rfl := List.mem_singleton.1 hb
    left; show (j : Int) < (s : Int); omega
theorem cir_wf (h1 : 1 ≤ k) (h2 : k ≤ 4096) (hi : 0 ≤ i ∧ i < 32) : WF (cir i k) := by
  refine ⟨by simp [cir, Inc], fun x hx => ?_, by show (0 : Int) ≤ (k : Int); omega, by show (k : Int) ≤ 4096; omega, by simp [cir, Inc], fun x hx => ?_, cirE_inc k, fun x hx => ?_⟩
  · obtain rfl := List.mem_singleton.1 hx; exact hi
  · obtain rfl := List.mem_singleton.1 hx
    show (0 : Int) ≤ 0 ∧ (0 : Int) < (k : Int); omega
  · obtain ⟨j, h3, rfl⟩ := cirE_mem.1 hx
    have a1 := Int.emod_nonneg ((j : Int) + 1) (show (k : Int) ≠ 0 by omega)
    have a2 := Int.emod_lt_of_pos ((j : Int) + 1) (show (0 : Int) < (k : Int) by omega)
    refine ⟨?_, hasB_mem.2 (List.mem_singleton.2 rfl)⟩
    unfold edOut
    show ¬ ((j : Int) < 0 ∨ (k : Int) ≤ (j : Int) ∨ ((j : Int) + 1) % (k : Int) < 0 ∨ (k : Int) ≤ ((j : Int) + 1) % (k : Int))
    omega
theorem cir_nxt (_h1 : 1 ≤ k) {s : Int} (h : 0 ≤ s ∧ s < (k : Int)) : nxt (cir i k) s i = (s + 1) % (k : Int) := by
  obtain ⟨j, rfl⟩ : ∃ j : Nat, s = (j : Int) := ⟨s.toNat, by omega⟩
  exact nxtE_of (x := ⟨j, i, ((j : Int) + 1) % (k : Int)⟩) (cirE_inc k) (cirE_mem.2 ⟨j, by omega, rfl⟩) rfl rfl
theorem cir_step (h1 : 1 ≤ k) {s : Int} (h : 0 ≤ s ∧ s < (k : Int)) : stA (cir i k) s i = some ((s + 1) % (k : Int)) := by
  have a1 := Int.emod_nonneg (s + 1) (show (k : Int) ≠ 0 by omega)
  unfold stA
  rw [cir_nxt h1 h, if_neg (by omega)]
end

section
variable {σ τ : Type} {st : σ → Int → Option σ} {st' : τ → Int → Option τ} {V V' : List Int} {x0 t u : σ}
theorem Rch.trans (h : Rch st V x0 t) (k : Rch st V t u) : Rch st V x0 u := by
  induction k with
  | start => exact h
  | step _ hv hs ih => exact .step ih hv hs
theorem Rch.map (φ : σ → τ) (hV : ∀ v ∈ V, v ∈ V') (hc : ∀ t v u, v ∈ V → st t v = some u → st' (φ t) v = some (φ u)) (h : Rch st V x0 t) : Rch st' V' (φ x0) (φ t) := by
  induction h with
  | start => exact .start
  | step _ hv hs ih => exact .step ih (hV _ hv) (hc _ _ _ hv hs)
end
theorem cir_rch {i : Int} {k : Nat} (h1 : 1 ≤ k) : ∀ s : Nat, s < k → Rch (stA (cir i k)) [i] 0 (s : Int)
  | 0, _ => .start
  | s + 1, h => by
    have hs := cir_step (i := i) h1 (s := (s : Int)) (by omega)
    rw [Int.emod_eq_of_lt (by omega) (by omega)] at hs
    exact .step (cir_rch h1 s (by omega)) (List.mem_singleton.2 rfl) hs

/-- circles with the events i, i + 1 .. -/
def cirG : Nat → List Nat → List Aut
  | _, [] => []
  | i, k :: r => cir i k :: cirG (i + 1) r
theorem cirG_len : ∀ (ks : List Nat) (i : Nat), (cirG i ks).length = ks.length
  | [], _ => rfl
  | k :: r, i => by unfold cirG; rw [List.length_cons, cirG_len r (i + 1), List.length_cons]
theorem cirG_app : ∀ (ks ls : List Nat) (i : Nat), cirG i (ks ++ ls) = cirG i ks ++ cirG (i + ks.length) ls
  | [], ls, i => rfl
  | k :: r, ls, i => by
    show cir i k :: cirG (i + 1) (r ++ ls) = cir i k :: (cirG (i + 1) r ++ _)
    rw [cirG_app r ls (i + 1), List.length_cons, show i + 1 + r.length = i + (r.length + 1) by omega]
theorem cirG_mem {a : Aut} : ∀ {ks : List Nat} {i : Nat}, a ∈ cirG i ks → ∃ j k, i ≤ j ∧ j < i + ks.length ∧ k ∈ ks ∧ a = cir (j : Nat) k
  | [], i, h => by simp [cirG] at h
  | k :: r, i, h => by
    unfold cirG at h
    rcases List.mem_cons.1 h with rfl | h
    · exact ⟨i, k, Nat.le_refl _, by simp, List.mem_cons_self .., rfl⟩
    · obtain ⟨j, m, h1, h2, h3, h4⟩ := cirG_mem h
      exact ⟨j, m, by omega, by rw [List.length_cons]; omega, List.mem_cons_of_mem _ h3, h4⟩
theorem cirG_has : ∀ {ks : List Nat} {i j : Nat}, i ≤ j → j < i + ks.length → ∃ k, cir (j : Nat) k ∈ cirG i ks
  | [], i, j, h1, h2 => by simp at h2; omega
  | k :: r, i, j, h1, h2 => by
    by_cases h : j = i
    · subst h; exact ⟨k, List.mem_cons_self ..⟩
    · obtain ⟨m, hm⟩ := cirG_has (ks := r) (i := i + 1) (j := j) (by omega) (by rw [List.length_cons] at h2; omega)
      exact ⟨m, List.mem_cons_of_mem _ hm⟩
theorem cirG_wf {ks : List Nat} (hk : ∀ k ∈ ks, 1 ≤ k ∧ k ≤ 9) (hl : ks.length ≤ 6) : ∀ a ∈ cirG 0 ks, WF a ∧ a.st ≤ 9 ∧ a.st ≠ 0 := fun a ha => by
  obtain ⟨j, k, h1, h2, h3, rfl⟩ := cirG_mem ha
  have := hk k h3
  exact ⟨cir_wf (by omega) (by omega) (by omega), by show (k : Int) ≤ 9; omega, by show ¬ ((k : Int) = 0); omega⟩
theorem inc_rngI (n : Int) : Inc (rngI n) := by
  unfold rngI Inc
  rw [List.pairwise_map]
  exact List.pairwise_lt_range.imp fun {a b} h => by omega
theorem cirG_evs {ks : List Nat} (hk : ∀ k ∈ ks, 1 ≤ k ∧ k ≤ 9) (hl : ks.length ≤ 6) : evs (cirG 0 ks) = rngI ks.length := by
  refine inc_unique (evs_inc fun a ha => (cirG_wf hk hl a ha).1.inc) (inc_rngI _) fun z => ?_
  rw [evs_mem, rngI_mem]
  constructor
  · rintro ⟨a, ha, hz⟩
    obtain ⟨j, k, h1, h2, h3, rfl⟩ := cirG_mem ha
    obtain rfl := List.mem_singleton.1 hz
    omega
  · rintro ⟨h1, h2⟩
    obtain ⟨j, rfl⟩ : ∃ j : Nat, z = (j : Int) := ⟨z.toNat, by omega⟩
    obtain ⟨k, hk⟩ := cirG_has (ks := ks) (i := 0) (j := j) (by omega) (by omega)
    exact ⟨_, hk, List.mem_singleton.2 rfl⟩
/-- Every tuple can be reached. -/
theorem cir_all : ∀ (ks : List Nat) (i : Nat), (∀ k ∈ ks, 1 ≤ k) → ∀ t, Tup (cirG i ks) t → Rch (stp (cirG i ks)) (evs (cirG i ks)) (ini (cirG i ks)) t
  | [], i, _, t, ht => by rw [show t = [] from ht]; exact .start
  | k :: r, i, _, [], ht => ht.elim
  | k :: r, i, hk, s :: u, ht => by
    have h1 := hk k (List.mem_cons_self ..)
    obtain ⟨h2, h3, h4⟩ : 0 ≤ s ∧ s < (k : Int) ∧ Tup (cirG (i + 1) r) u := ht
    have ih := cir_all r (i + 1) (fun m hm => hk m (List.mem_cons_of_mem _ hm)) u h4
    have hne : ∀ b ∈ cirG (i + 1) r, (i : Int) ∉ b.al := fun b hb hz => by
      obtain ⟨j, m, g1, _, _, rfl⟩ := cirG_mem hb
      have := List.mem_singleton.1 hz
      omega
    have e : ini (cirG i (k :: r)) = 0 :: ini (cirG (i + 1) r) := rfl
    rw [e]
    refine Rch.trans (t := s :: ini (cirG (i + 1) r)) ?_ ?_
    · obtain ⟨m, rfl⟩ : ∃ m : Nat, s = (m : Int) := ⟨s.toNat, by omega⟩
      refine Rch.map (fun x => x :: ini (cirG (i + 1) r)) (fun v hv => ?_) (fun x v y hv hs => ?_) (cir_rch (i := (i : Int)) h1 m (by omega))
      · obtain rfl := List.mem_singleton.1 hv
        exact evs_mem.2 ⟨_, List.mem_cons_self .., List.mem_singleton.2 rfl⟩
      · obtain rfl := List.mem_singleton.1 hv
        show stp ([cir (i : Int) k] ++ cirG (i + 1) r) ([x] ++ ini (cirG (i + 1) r)) i = _
        rw [stp_app rfl, stp_one (List.mem_singleton.2 rfl), hs, stp_still hne (by simp [ini])]
        rfl
    · refine Rch.map (fun z => s :: z) (fun v hv => ?_) (fun x v y hv hs => ?_) ih
      · obtain ⟨b, hb, hz⟩ := evs_mem.1 hv
        exact evs_mem.2 ⟨b, List.mem_cons_of_mem _ hb, hz⟩
      · show stp ([cir (i : Int) k] ++ cirG (i + 1) r) ([s] ++ x) v = _
        rw [stp_app rfl, stp_out, hs]
        · rfl
        · intro hz
          obtain ⟨b, hb, hz2⟩ := evs_mem.1 hv
          obtain rfl := List.mem_singleton.1 hz
          exact hne b hb hz2
theorem box_nodup : ∀ l : List Aut, (box l).Nodup
  | [] => by simp [box]
  | a :: l => by
    unfold box
    unfold List.Nodup
    rw [List.pairwise_flatMap]
    refine ⟨fun s _ => ?_, ?_⟩
    · rw [List.pairwise_map]
      exact (box_nodup l).imp fun {x y} h e => h (by injection e)
    · refine (inc_rngI a.st).imp fun {x y} h u hu z hz => ?_
      obtain ⟨_, _, rfl⟩ := List.mem_map.1 hu
      obtain ⟨_, _, rfl⟩ := List.mem_map.1 hz
      intro e; injection e with e; omega
theorem edRow_full {σ : Type} [DecidableEq σ] {st : σ → Int → Option σ} {ts : List σ} {j : Nat} {t : σ} : ∀ {D : List Int}, (∀ v ∈ D, (st t v).isSome = true) → (edRow st ts j t D).length = D.length
  | [], _ => rfl
  | v :: D, h => by
    have ih := edRow_full (st := st) (ts := ts) (j := j) (t := t) (D := D) (fun u hu => h u (List.mem_cons_of_mem _ hu))
    have hv := h v (List.mem_cons_self ..)
    unfold edRow at ih ⊢
    cases hs : st t v with
    | none => rw [hs] at hv; cases hv
    | some x => rw [List.filterMap_cons_some (by rw [hs]; rfl), List.length_cons, ih, List.length_cons]
theorem edsOf_full {σ : Type} [DecidableEq σ] {st : σ → Int → Option σ} {V : List Int} {ts : List σ} (h : ∀ t ∈ ts, ∀ v ∈ V, (st t v).isSome = true) : ∀ i : Nat, i ≤ ts.length → (edsOf st V ts i).length = i * V.length
  | 0, _ => by simp [edsOf]
  | i + 1, hi => by
    unfold edsOf
    have ht : ts[i]? = some ts[i] := List.getElem?_eq_getElem (by omega)
    rw [List.length_append, edsOf_full h i (by omega), ht]
    simp only
    rw [edRow_full (h _ (List.getElem_mem _)), Nat.succ_mul]
theorem cir_noSt {ks : List Nat} (hk : ∀ k ∈ ks, 1 ≤ k ∧ k ≤ 9) (hl : ks.length ≤ 6) : noSt (cirG 0 ks) = false := by
  unfold noSt
  rw [List.any_eq_false]
  intro a ha
  have := (cirG_wf hk hl a ha).2.2
  simpa using this
theorem cir_goes {ks : List Nat} (hk : ∀ k ∈ ks, 1 ≤ k ∧ k ≤ 9) {t : List Int} (ht : Tup (cirG 0 ks) t) (v : Int) : (stp (cirG 0 ks) t v).isSome = true := by
  unfold stp
  rw [if_neg]
  · rfl
  · intro hr
    obtain ⟨m, a, s, h1, h2, h3⟩ := rfB_iff.1 hr
    have hs := ht.at_ h1 h2
    obtain ⟨j, k, _, _, h6, rfl⟩ := cirG_mem (List.mem_of_getElem? h1)
    have h7 := hk k h6
    unfold rf at h3
    rw [Bool.and_eq_true, hasB_mem, decide_eq_true_eq] at h3
    obtain rfl := List.mem_singleton.1 h3.1
    have h8 := h3.2
    rw [cir_nxt (by omega) hs] at h8
    have a1 := Int.emod_nonneg (s + 1) (show (k : Int) ≠ 0 by omega)
    omega
theorem cir_mk : ∀ {ks : List Nat} {i : Nat} {t : List Int}, Tup (cirG i ks) t → (mkT (cirG i ks) t = true ↔ t = ini (cirG i ks))
  | [], i, t, ht => by rw [show t = [] from ht]; exact ⟨fun _ => rfl, fun _ => rfl⟩
  | k :: r, i, [], ht => ht.elim
  | k :: r, i, s :: u, ht => by
    have ih := cir_mk (ks := r) (i := i + 1) (t := u) ht.2.2
    show (hasB [0] s && mkT (cirG (i + 1) r) u) = true ↔ s :: u = 0 :: ini (cirG (i + 1) r)
    rw [Bool.and_eq_true, ih, hasB_mem, List.mem_singleton, List.cons.injEq]
/-- The product of circles. -/
theorem cir_syn {ks : List Nat} (hk : ∀ k ∈ ks, 1 ≤ k ∧ k ≤ 9) (hl : ks.length ≤ 6) :
    (4096 < prodN (cirG 0 ks) → synR (cirG 0 ks) = none) ∧
    (prodN (cirG 0 ks) ≤ 4096 → ∃ r T, synR (cirG 0 ks) = some (r, T) ∧ r.st = (prodN (cirG 0 ks) : Nat) ∧ r.ed.length = prodN (cirG 0 ks) * ks.length ∧ r.ma = [0]) := by
  have hw : ∀ a ∈ cirG 0 ks, WF a := fun a ha => (cirG_wf hk hl a ha).1
  have hn := cir_noSt hk hl
  have hall := cir_all ks 0 (fun k h => (hk k h).1)
  have hge : ∀ s : Bs (List Int), BInv 4096 (stp (cirG 0 ks)) (evs (cirG 0 ks)) (ini (cirG 0 ks)) s.ts.length s → prodN (cirG 0 ks) ≤ s.ts.length := fun s hi => by
    have := nodup_le (m := s.ts) (box_nodup (cirG 0 ks)) (fun x hx => hi.all (hall x (box_mem.1 hx)))
    rwa [box_len] at this
  constructor
  · intro hp
    unfold synR
    rw [if_neg (by rw [hn]; decide)]
    rcases bfs_spec (C := 4096) (st := stp (cirG 0 ks)) (V := evs (cirG 0 ks)) (x0 := ini (cirG 0 ks)) (by omega) with ⟨s, hs, hi⟩ | ⟨hs, _⟩
    · have := hge s hi; have := hi.len; omega
    · unfold synS; rw [hs]; rfl
  · intro hp
    obtain ⟨s, hs, hi⟩ := synS_some hw hn hp
    have hle := nodup_le (m := box (cirG 0 ks)) hi.nd (fun x hx => box_mem.2 (rch_tup hw hn (hi.rch x hx)))
    rw [box_len] at hle
    have hlen : s.ts.length = prodN (cirG 0 ks) := Nat.le_antisymm hle (hge s hi)
    refine ⟨autOf (evs (cirG 0 ks)) (mkT (cirG 0 ks)) s, s.ts, ?_, ?_, ?_, ?_⟩
    · unfold synR; rw [if_neg (by rw [hn]; decide), hs]; rfl
    · show (s.ts.length : Int) = _; rw [hlen]
    · show s.es.length = _
      rw [hi.es, edsOf_full (fun t ht v _ => cir_goes hk (rch_tup hw hn (hi.rch t ht)) v) _ (Nat.le_refl _), hlen, cirG_evs hk hl, rngI_len]
      simp
    · show mksN (mkT (cirG 0 ks)) s.ts s.ts.length = [0]
      refine inc_unique (mksN_inc _ _ _) (by simp [Inc]) fun z => ?_
      rw [mksN_mem, List.mem_singleton]
      constructor
      · rintro ⟨j, t, h1, rfl, h3, h4⟩
        have := (cir_mk (rch_tup hw hn (hi.rch t (List.mem_of_getElem? h3)))).1 h4
        subst this
        have := nodup_get hi.nd h3 hi.head
        omega
      · rintro rfl
        exact ⟨0, _, hi.pos, rfl, hi.head, (cir_mk (ini_tup hw hn)).2 rfl⟩
/-- how many states a byte says -/
def kOf (total : Nat) (b : Int) : Nat := if 100000 < total * (1 + (b % 9).toNat) then 1 else 1 + (b % 9).toNat
def limK (bs : List Int) : List Nat := bs.foldl (fun acc b => acc ++ [kOf (prodN (cirG 0 acc)) b]) []
theorem limK_snoc {bs : List Int} {k : Nat} {b : Int} (h : bs[k]? = some b) : limK (bs.take (k + 1)) = limK (bs.take k) ++ [kOf (prodN (cirG 0 (limK (bs.take k)))) b] := by
  unfold limK; rw [take_snoc' h, List.foldl_append]; rfl
theorem kOf_rng (total : Nat) (b : Int) : 1 ≤ kOf total b ∧ kOf total b ≤ 9 := by
  have a2 := Int.emod_lt_of_pos b (show (0 : Int) < 9 by omega)
  unfold kOf; split <;> omega
theorem limKG (bs : List Int) : ∀ acc : List Nat, (∀ k ∈ acc, 1 ≤ k ∧ k ≤ 9) → (∀ k ∈ bs.foldl (fun acc b => acc ++ [kOf (prodN (cirG 0 acc)) b]) acc, 1 ≤ k ∧ k ≤ 9) ∧ (bs.foldl (fun acc b => acc ++ [kOf (prodN (cirG 0 acc)) b]) acc).length = acc.length + bs.length := by
  induction bs with
  | nil => exact fun acc h => ⟨h, rfl⟩
  | cons b bs ih =>
    intro acc h
    obtain ⟨h1, h2⟩ := ih (acc ++ [kOf (prodN (cirG 0 acc)) b]) (fun k hk => by
      rcases List.mem_append.1 hk with hk | hk
      · exact h k hk
      · obtain rfl := List.mem_singleton.1 hk; exact kOf_rng _ _)
    exact ⟨h1, h2.trans (by simp; omega)⟩
theorem limK_rng (bs : List Int) : ∀ k ∈ limK bs, 1 ≤ k ∧ k ≤ 9 := (limKG bs [] (fun k hk => by simp at hk)).1
theorem limK_len (bs : List Int) : (limK bs).length = bs.length := by have := (limKG bs [] (fun k hk => by simp at hk)).2; simpa [limK] using this
theorem prodN_app : ∀ l1 l2 : List Aut, prodN (l1 ++ l2) = prodN l1 * prodN l2
  | [], l2 => by simp [prodN]
  | a :: l1, l2 => by
    show a.st.toNat * prodN (l1 ++ l2) = a.st.toNat * prodN l1 * prodN l2
    rw [prodN_app l1 l2, Nat.mul_assoc]
/-- how many tuples the circles have -/
def limT (bs : List Int) : Nat := prodN (cirG 0 (limK bs))
theorem limT_snoc {bs : List Int} {k : Nat} {b : Int} (h : bs[k]? = some b) : limT (bs.take (k + 1)) = limT (bs.take k) * kOf (limT (bs.take k)) b := by
  unfold limT
  rw [limK_snoc h, cirG_app, prodN_app]
  simp [cirG, prodN, cir]
theorem limT_le (bs : List Int) : ∀ k, limT (bs.take k) ≤ 100000 ∧ 1 ≤ limT (bs.take k)
  | 0 => by simp [limT, limK, cirG, prodN]
  | k + 1 => by
    obtain ⟨h1, h2⟩ := limT_le bs k
    cases h : bs[k]? with
    | none =>
      have : bs.length ≤ k := by simpa using h
      rw [List.take_of_length_le (by omega)] at h1 h2 ⊢
      exact ⟨h1, h2⟩
    | some b =>
      rw [limT_snoc h]
      unfold kOf
      split
      · rw [Nat.mul_one]; exact ⟨h1, h2⟩
      · refine ⟨by omega, Nat.le_trans h2 (Nat.le_mul_of_pos_right _ (by omega))⟩
end Go.Proofs.YtbdliebjalghmaaDoor

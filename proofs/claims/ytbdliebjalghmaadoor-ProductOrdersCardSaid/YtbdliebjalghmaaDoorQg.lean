/- Plain laws: products of products; products that go alike. -/
import Derived.Test.YtbdliebjalghmaaDoorQf
namespace Go.Proofs.YtbdliebjalghmaaDoor

theorem rfB_app {v : Int} : ∀ {l1 : List Aut} {t1 : List Int} (l2 : List Aut) (t2 : List Int), t1.length = l1.length → rfB (l1 ++ l2) (t1 ++ t2) v = (rfB l1 t1 v || rfB l2 t2 v)
  | [], [], l2, t2, _ => by simp [rfB]
  | a :: l1, s :: t1, l2, t2, h => by
    have := rfB_app (v := v) l2 t2 (show t1.length = l1.length by simpa using h)
    simp only [List.cons_append, rfB, this, Bool.or_assoc]
theorem mvs_app {v : Int} : ∀ {l1 : List Aut} {t1 : List Int} (l2 : List Aut) (t2 : List Int), t1.length = l1.length → mvs (l1 ++ l2) (t1 ++ t2) v = mvs l1 t1 v ++ mvs l2 t2 v
  | [], [], l2, t2, _ => by simp [mvs]
  | a :: l1, s :: t1, l2, t2, h => by
    have := mvs_app (v := v) l2 t2 (show t1.length = l1.length by simpa using h)
    simp only [List.cons_append, mvs, this]
theorem mkT_app : ∀ {l1 : List Aut} {t1 : List Int} (l2 : List Aut) (t2 : List Int), t1.length = l1.length → mkT (l1 ++ l2) (t1 ++ t2) = (mkT l1 t1 && mkT l2 t2)
  | [], [], l2, t2, _ => by simp [mkT]
  | a :: l1, s :: t1, l2, t2, h => by
    have := mkT_app l2 t2 (show t1.length = l1.length by simpa using h)
    simp only [List.cons_append, mkT, this, Bool.and_assoc]
theorem tup_app : ∀ {l1 l2 : List Aut} {t : List Int}, Tup (l1 ++ l2) t → ∃ t1 t2, t = t1 ++ t2 ∧ Tup l1 t1 ∧ Tup l2 t2
  | [], l2, t, h => ⟨[], t, rfl, rfl, h⟩
  | a :: l1, l2, [], h => h.elim
  | a :: l1, l2, s :: t, h => by
    obtain ⟨t1, t2, e, h1, h2⟩ := tup_app (l1 := l1) (l2 := l2) h.2.2
    exact ⟨s :: t1, t2, by rw [e]; rfl, ⟨h.1, h.2.1, h1⟩, h2⟩
theorem app_tup : ∀ {l1 l2 : List Aut} {t1 t2 : List Int}, Tup l1 t1 → Tup l2 t2 → Tup (l1 ++ l2) (t1 ++ t2)
  | [], l2, t1, t2, h1, h2 => by rw [show t1 = [] from h1]; exact h2
  | a :: l1, l2, [], t2, h1, h2 => h1.elim
  | a :: l1, l2, s :: t1, t2, h1, h2 => ⟨h1.1, h1.2.1, app_tup h1.2.2 h2⟩
theorem stp_app {l1 l2 : List Aut} {t1 t2 : List Int} {v : Int} (h : t1.length = l1.length) : stp (l1 ++ l2) (t1 ++ t2) v = (stp l1 t1 v).bind (fun u => (stp l2 t2 v).map (fun z => u ++ z)) := by
  unfold stp
  rw [rfB_app l2 t2 h, mvs_app l2 t2 h]
  cases rfB l1 t1 v <;> cases rfB l2 t2 v <;> simp
theorem noSt_app (l1 l2 : List Aut) : noSt (l1 ++ l2) = (noSt l1 || noSt l2) := by unfold noSt; rw [List.any_append]
theorem evs_eq {l l' : List Aut} (h : ∀ a ∈ l, WF a) (h' : ∀ a ∈ l', WF a) (hm : ∀ z, (∃ a ∈ l, z ∈ a.al) ↔ (∃ a ∈ l', z ∈ a.al)) : evs l = evs l' :=
  inc_unique (evs_inc fun a ha => (h a ha).inc) (evs_inc fun a ha => (h' a ha).inc) (fun z => by rw [evs_mem, evs_mem]; exact hm z)
theorem syn_no {l : List Aut} {r : Aut} {T : List (List Int)} (h : noSt l = true) (hr : synR l = some (r, T)) : r = ⟨evs l, 0, [], []⟩ := by
  unfold synR at hr
  rw [if_pos h] at hr
  simp only [Option.some.injEq, Prod.mk.injEq] at hr
  exact hr.1.symm
theorem syn_get {l : List Aut} {r : Aut} {T : List (List Int)} (hn : noSt l = false) (hr : synR l = some (r, T)) : ∃ s, synS l = some s ∧ r = autOf (evs l) (mkT l) s := by
  unfold synR at hr
  rw [if_neg (by rw [hn]; decide)] at hr
  cases hs : synS l with
  | none => rw [hs] at hr; cases hr
  | some s =>
    rw [hs] at hr
    simp only [Option.map_some, Option.some.injEq, Prod.mk.injEq] at hr
    exact ⟨s, rfl, hr.1.symm⟩
/-- Two products that go alike are the same automaton. -/
theorem syn_sim {l l' : List Aut} {φ : List Int → List Int} (hw : ∀ a ∈ l, WF a) (hn : noSt l = false) (hn' : noSt l' = false) (hev : evs l' = evs l) (h : Sim (stp l) (stp l') (evs l) φ (Tup l)) (h0 : φ (ini l) = ini l')
    (hm : ∀ t, Tup l t → mkT l' (φ t) = mkT l t) {r r' : Aut} {T T' : List (List Int)} (hr : synR l = some (r, T)) (hr' : synR l' = some (r', T')) : r' = r := by
  obtain ⟨s, hs, rfl⟩ := syn_get hn hr
  obtain ⟨s', hs', rfl⟩ := syn_get hn' hr'
  have := h.aut (C := 4096) (x0 := ini l) (p := mkT l) (p' := mkT l') (ini_tup hw hn) hm
  rw [h0] at this
  unfold synS at hs hs'
  rw [hev] at hs' ⊢
  rw [hs, hs'] at this
  simpa using this
/-- A product that goes as an automaton does is its canonical form. -/
theorem syn_can {b : Aut} {l : List Aut} {φ : Int → List Int} (hb : WF b) (h0 : b.st ≠ 0) (hn : noSt l = false) (hev : evs l = b.al) (h : Sim (stA b) (stp l) b.al φ (fun x => 0 ≤ x ∧ x < b.st)) (hi : φ 0 = ini l)
    (hm : ∀ x, 0 ≤ x ∧ x < b.st → mkT l (φ x) = mkA b x) {r : Aut} {T : List (List Int)} (hr : synR l = some (r, T)) : r = canA b := by
  obtain ⟨s, hs, rfl⟩ := syn_get hn hr
  have hst := hb.st0
  have := h.aut (C := 4096) (x0 := 0) (p := mkA b) (p' := mkT l) (show (0 : Int) ≤ 0 ∧ (0 : Int) < b.st by omega) hm
  rw [hi] at this
  unfold synS at hs
  rw [hev] at hs ⊢
  rw [hs] at this
  unfold canA
  rw [if_neg h0]
  cases hc : canS b with
  | none => unfold canS at hc; rw [hc] at this; cases this
  | some z =>
    unfold canS at hc
    rw [hc] at this
    simpa using this
theorem stA_rng {b : Aut} (hb : WF b) {t v x : Int} (h : stA b t v = some x) : 0 ≤ x ∧ x < b.st := by
  unfold stA at h
  split at h
  · cases h
  · rename_i hn
    injection h with h
    subst h
    have hne : nxt b t v ≠ -1 := fun e => hn (by rw [e]; omega)
    obtain ⟨g1, g2, _⟩ := hb.nxt_rng hne
    exact ⟨g1, g2⟩
theorem stp_one {a : Aut} {s v : Int} (hv : v ∈ a.al) : stp [a] [s] v = (stA a s v).map (fun x => [x]) := by
  have hh : hasB a.al v = true := hasB_mem.2 hv
  unfold stp stA rfB mvs rf mv
  simp only [hh, Bool.true_and, rfB, Bool.or_false, mvs, if_true, decide_eq_true_eq]
  split <;> rfl
theorem stp_out {a : Aut} {s v : Int} (hv : v ∉ a.al) : stp [a] [s] v = some [s] := by
  have hh : hasB a.al v = false := by
    cases h : hasB a.al v with
    | true => exact absurd (hasB_mem.1 h) hv
    | false => rfl
  unfold stp rfB mvs rf mv
  simp [hh, rfB, mvs]

theorem zero_can {a : Aut} (h : Sm a) (h0 : a.st = 0) : a = ⟨a.al, 0, [], []⟩ := by
  have := h.can
  unfold canA at this
  rw [if_pos h0] at this
  exact this.symm
theorem noSt_two (a b : Aut) : noSt [a, b] = (decide (a.st = 0) || decide (b.st = 0)) := by simp [noSt]
theorem two_wf {a b : Aut} (ha : WF a) (hb : WF b) : ∀ z ∈ [a, b], WF z := fun z hz => by
  rcases List.mem_cons.1 hz with rfl | hz
  · exact ha
  · obtain rfl := List.mem_singleton.1 hz; exact hb
/-- the product with itself -/
theorem syn_self {a : Aut} (h : Sm a) {r : Aut} {T : List (List Int)} (hr : synR [a, a] = some (r, T)) : r = a := by
  have hev : evs [a, a] = a.al := inc_unique (evs_inc fun b hb => (two_wf h.wf h.wf b hb).inc) h.wf.inc (fun z => by rw [evs_mem]; simp)
  by_cases h0 : a.st = 0
  · have hn : noSt [a, a] = true := by rw [noSt_two]; simp [h0]
    rw [syn_no hn hr, hev]
    exact (zero_can h h0).symm
  · have hn : noSt [a, a] = false := by rw [noSt_two]; simp [h0]
    have := syn_can (φ := fun x => [x, x]) h.wf h0 hn hev ⟨fun t v x _ _ hx => stA_rng h.wf hx, fun t v _ hv => by
      have := stp_app (l1 := [a]) (l2 := [a]) (t1 := [t]) (t2 := [t]) (v := v) rfl
      rw [stp_one hv] at this
      rw [show stp [a, a] [t, t] v = stp ([a] ++ [a]) ([t] ++ [t]) v from rfl, this]
      cases stA a t v <;> rfl, fun x y _ _ e => by simpa using e⟩ rfl (fun x _ => by simp [mkT, mkA]) hr
    rw [this, h.can]
def oneA : Aut := ⟨[], 1, [0], []⟩
theorem one_wf : WF oneA := by
  refine ⟨List.Pairwise.nil, fun x hx => by simp [oneA] at hx, by simp [oneA], by simp [oneA], by simp [oneA, Inc], fun x hx => ?_, List.Pairwise.nil, fun x hx => by simp [oneA] at hx⟩
  simp [oneA] at hx
  subst hx
  exact ⟨Int.le_refl _, by show (0 : Int) < 1; omega⟩
/-- the product with the product of nothing -/
theorem syn_one {a : Aut} (h : Sm a) {r : Aut} {T : List (List Int)} (hr : synR [oneA, a] = some (r, T)) : r = a := by
  have hev : evs [oneA, a] = a.al := inc_unique (evs_inc fun b hb => (two_wf one_wf h.wf b hb).inc) h.wf.inc (fun z => by rw [evs_mem]; simp [oneA])
  by_cases h0 : a.st = 0
  · have hn : noSt [oneA, a] = true := by rw [noSt_two]; simp [h0]
    rw [syn_no hn hr, hev]
    exact (zero_can h h0).symm
  · have hn : noSt [oneA, a] = false := by rw [noSt_two]; simp [h0, oneA]
    have := syn_can (φ := fun x => [0, x]) h.wf h0 hn hev ⟨fun t v x _ _ hx => stA_rng h.wf hx, fun t v _ hv => by
      have := stp_app (l1 := [oneA]) (l2 := [a]) (t1 := [0]) (t2 := [t]) (v := v) rfl
      rw [stp_out (a := oneA) (by simp [oneA]), stp_one hv] at this
      rw [show stp [oneA, a] [0, t] v = stp ([oneA] ++ [a]) ([0] ++ [t]) v from rfl, this]
      cases stA a t v <;> rfl, fun x y _ _ e => by simpa using e⟩ rfl (fun x _ => by simp [mkT, mkA, oneA, hasB]) hr
    rw [this, h.can]
def zeroA : Aut := ⟨[7], 0, [], []⟩
theorem zeroA_wf : WF zeroA := zero_wf (by simp [Inc]) (fun x hx => by simp at hx; subst hx; omega)
/-- with an empty automaton -/
theorem syn_zero {a : Aut} (h : Sm a) {r : Aut} {T : List (List Int)} (hr : synR [a, zeroA] = some (r, T)) : r.st = 0 ∧ r.al.length = a.al.length + 1 := by
  have hn : noSt [a, zeroA] = true := by rw [noSt_two]; simp [zeroA]
  have hev : evs [a, zeroA] = a.al ++ [7] := inc_unique (evs_inc fun b hb => (two_wf h.wf zeroA_wf b hb).inc)
    (List.pairwise_append.2 ⟨h.wf.inc, by simp, fun x hx y hy => by have := h.ev x hx; simp at hy; omega⟩) (fun z => by rw [evs_mem]; simp [zeroA])
  rw [syn_no hn hr, hev]
  exact ⟨rfl, by simp⟩
end Go.Proofs.YtbdliebjalghmaaDoor

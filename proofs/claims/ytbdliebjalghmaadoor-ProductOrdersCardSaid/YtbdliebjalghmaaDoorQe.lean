/- Plain laws: the first fault of a list of automata; sizes. -/
import Derived.Test.YtbdliebjalghmaaDoorQd
namespace Go.Proofs.YtbdliebjalghmaaDoor

def chkLG : List Aut → Int
  | [] => 0
  | a :: r => if chkA a ≠ 0 then chkA a else chkLG r
def chkL (l : List Aut) : Int := if 12 < l.length then 3 else chkLG l
theorem chkLG_stop {l : List Aut} {k : Nat} {a : Aut} (h : l[k]? = some a) (ha : chkA a ≠ 0) : chkLG (l.drop k) = chkA a := by
  rw [drop_cons' h]; simp [chkLG, ha]
theorem chkLG_go {l : List Aut} {k : Nat} {a : Aut} (h : l[k]? = some a) (ha : chkA a = 0) : chkLG (l.drop k) = chkLG (l.drop (k + 1)) := by
  rw [drop_cons' h]; simp [chkLG, ha]
theorem chkLG_end {l : List Aut} {k : Nat} (h : ¬ k < l.length) : chkLG (l.drop k) = 0 := by
  rw [List.drop_of_length_le (by omega)]; rfl
theorem chkLG_wf : ∀ {l : List Aut}, chkLG l = 0 → ∀ a ∈ l, WF a
  | [], _, a, ha => by simp at ha
  | a :: r, h, b, hb => by
    unfold chkLG at h
    by_cases ha : chkA a = 0
    · rw [if_neg (by simpa using ha)] at h
      rcases List.mem_cons.1 hb with rfl | hb
      · exact chkA_wf ha
      · exact chkLG_wf h b hb
    · rw [if_pos ha] at h; exact absurd h ha
theorem chkL_wf {l : List Aut} (h : chkL l = 0) : l.length ≤ 12 ∧ ∀ a ∈ l, WF a := by
  unfold chkL at h
  split at h
  · cases h
  · exact ⟨by omega, chkLG_wf h⟩
theorem chkL_mk {l : List Aut} (h1 : l.length ≤ 12) (h2 : ∀ a ∈ l, WF a) : chkL l = 0 := by
  unfold chkL
  rw [if_neg (by omega)]
  clear h1
  induction l with
  | nil => rfl
  | cons a r ih =>
    unfold chkLG
    rw [if_neg (by simpa using (h2 a (List.mem_cons_self ..)).chk)]
    exact ih fun b hb => h2 b (List.mem_cons_of_mem _ hb)
theorem inc_len {l : List Int} {n : Nat} (h : Inc l) (hr : ∀ x ∈ l, 0 ≤ x ∧ x < (n : Int)) : l.length ≤ n := by
  have hn : l.Nodup := by
    unfold Inc at h
    exact h.imp fun {a b} hab => by omega
  have := nodup_le (m := rngI n) hn (fun x hx => rngI_mem.2 (hr x hx))
  rw [rngI_len] at this
  omega
theorem evs_rng {l : List Aut} (h : ∀ a ∈ l, WF a) : ∀ v ∈ evs l, 0 ≤ v ∧ v < 32 := fun v hv => by
  obtain ⟨a, ha, hm⟩ := evs_mem.1 hv
  exact (h a ha).rng v hm
theorem evs_le {l : List Aut} (h : ∀ a ∈ l, WF a) : (evs l).length ≤ 32 := inc_len (n := 32) (evs_inc fun a ha => (h a ha).inc) (evs_rng h)
theorem WF.al_le {a : Aut} (h : WF a) : a.al.length ≤ 32 := inc_len (n := 32) h.inc h.rng
theorem take_wf {l : List Aut} (h : ∀ a ∈ l, WF a) (k : Nat) : ∀ a ∈ l.take k, WF a := fun a ha => h a (List.mem_of_mem_take ha)
theorem WF.ev_rng {a : Aut} (h : WF a) {x : Ed} (hx : x ∈ a.ed) : 0 ≤ x.f ∧ x.f < a.st ∧ 0 ≤ x.t ∧ x.t < a.st ∧ 0 ≤ x.e ∧ x.e < 32 := by
  obtain ⟨h1, h2⟩ := h.erng x hx
  have := h.rng _ (hasB_mem.1 h2)
  unfold edOut at h1
  omega
theorem WF.ed_le {a : Aut} (h : WF a) : a.ed.length ≤ 131072 := by
  have hi : Inc (a.ed.map (fun x => x.f * 32 + x.e)) := by
    unfold Inc
    rw [List.pairwise_map]
    refine h.einc.imp_of_mem fun {x y} hx hy hxy => ?_
    have h1 := h.ev_rng hx
    have h2 := h.ev_rng hy
    unfold edLt at hxy
    omega
  have := inc_len (n := 131072) hi (fun z hz => by
    obtain ⟨x, hx, rfl⟩ := List.mem_map.1 hz
    have h1 := h.ev_rng hx
    have := h.st1
    omega)
  rwa [List.length_map] at this
theorem mkT_iff : ∀ {l : List Aut} {t : List Int}, mkT l t = true ↔ ∀ (k : Nat) (a : Aut) (s : Int), l[k]? = some a → t[k]? = some s → hasB a.ma s = true
  | [], t => by simp [mkT]
  | a :: l, [] => by simp [mkT]
  | a :: l, s :: t => by
    unfold mkT
    rw [Bool.and_eq_true, mkT_iff]
    constructor
    · rintro ⟨h1, h2⟩ k b u hb hu
      cases k with
      | zero => simp at hb hu; subst hb hu; exact h1
      | succ k => exact h2 k b u (by simpa using hb) (by simpa using hu)
    · intro h
      exact ⟨h 0 a s rfl rfl, fun k b u hb hu => h (k + 1) b u (by simpa using hb) (by simpa using hu)⟩
/-- the first k components are marked -/
def mkTo (l : List Aut) (t : List Int) (k : Nat) : Prop := ∀ (j : Nat) (a : Aut) (s : Int), j < k → l[j]? = some a → t[j]? = some s → hasB a.ma s = true
theorem mkTo_step {l : List Aut} {t : List Int} {k : Nat} {a : Aut} {s : Int} (h : mkTo l t k) (ha : l[k]? = some a) (hs : t[k]? = some s) (hh : hasB a.ma s = true) : mkTo l t (k + 1) := fun j b u hj hb hu => by
  rcases Nat.lt_or_ge j k with h1 | h1
  · exact h j b u h1 hb hu
  · obtain rfl : j = k := by omega
    rw [ha] at hb; rw [hs] at hu
    injection hb with hb; injection hu with hu
    subst hb hu; exact hh
theorem mkTo_end {l : List Aut} {t : List Int} {k : Nat} (h : mkTo l t k) (hk : l.length ≤ k) : mkT l t = true := mkT_iff.2 fun j a s ha hs => h j a s (by have := (List.getElem?_eq_some_iff.1 ha).1; omega) ha hs
theorem mkTo_no {l : List Aut} {t : List Int} {k : Nat} {a : Aut} {s : Int} (ha : l[k]? = some a) (hs : t[k]? = some s) (hh : hasB a.ma s = false) : mkT l t = false := by
  cases hm : mkT l t with
  | false => rfl
  | true => have := mkT_iff.1 hm k a s ha hs; rw [hh] at this; cases this
/-- the first k components do not refuse -/
def rfTo (l : List Aut) (t : List Int) (v : Int) (k : Nat) : Prop := ∀ (j : Nat) (a : Aut) (s : Int), j < k → l[j]? = some a → t[j]? = some s → rf a s v = false
theorem rfTo_step {l : List Aut} {t : List Int} {v : Int} {k : Nat} {a : Aut} {s : Int} (h : rfTo l t v k) (ha : l[k]? = some a) (hs : t[k]? = some s) (hh : rf a s v = false) : rfTo l t v (k + 1) := fun j b u hj hb hu => by
  rcases Nat.lt_or_ge j k with h1 | h1
  · exact h j b u h1 hb hu
  · obtain rfl : j = k := by omega
    rw [ha] at hb; rw [hs] at hu
    injection hb with hb; injection hu with hu
    subst hb hu; exact hh
theorem rfTo_end {l : List Aut} {t : List Int} {v : Int} {k : Nat} (h : rfTo l t v k) (hk : l.length ≤ k) : stp l t v = some (mvs l t v) := by
  unfold stp
  rw [if_neg]
  intro hr
  obtain ⟨j, a, s, ha, hs, hh⟩ := rfB_iff.1 hr
  rw [h j a s (by have := (List.getElem?_eq_some_iff.1 ha).1; omega) ha hs] at hh
  cases hh
theorem rfTo_no {l : List Aut} {t : List Int} {v : Int} {k : Nat} {a : Aut} {s : Int} (ha : l[k]? = some a) (hs : t[k]? = some s) (hh : rf a s v = true) : stp l t v = none := by
  unfold stp
  rw [if_pos (rfB_iff.2 ⟨k, a, s, ha, hs, hh⟩)]
/-- the tuple in the midst of a step -/
def nxk (m t : List Int) (k : Nat) : List Int := m.take k ++ t.drop k
theorem nxk_len {m t : List Int} {k : Nat} (h : m.length = t.length) (hk : k ≤ t.length) : (nxk m t k).length = t.length := by
  unfold nxk; rw [List.length_append, List.length_take, List.length_drop]; omega
theorem nxk_keep {m t : List Int} {k : Nat} {s : Int} (hm : m[k]? = some s) (ht : t[k]? = some s) : nxk m t (k + 1) = nxk m t k := by
  unfold nxk
  rw [take_snoc' hm, drop_cons' ht]; simp
theorem nxk_set {m t : List Int} {k : Nat} {y s : Int} (h : m.length = t.length) (hm : m[k]? = some y) (ht : t[k]? = some s) : nxk m t (k + 1) = (nxk m t k).set k y := by
  unfold nxk
  have hk := (List.getElem?_eq_some_iff.1 hm).1
  rw [take_snoc' hm, drop_cons' ht, List.set_append_right _ _ (by rw [List.length_take]; omega), List.length_take]
  rw [show k - min k m.length = 0 by omega]
  simp
theorem nxk_end {m t : List Int} {k : Nat} (h : m.length = t.length) (hk : t.length ≤ k) : nxk m t k = m := by
  unfold nxk
  rw [List.take_of_length_le (by omega), List.drop_of_length_le (by omega), List.append_nil]
/-- states that are none -/
theorem noSt_hit {l : List Aut} {k : Nat} {a : Aut} (h : l[k]? = some a) (h0 : a.st = 0) : noSt l = true := by
  unfold noSt
  rw [List.any_eq_true]
  exact ⟨a, List.mem_of_getElem? h, by simp [h0]⟩
def stTo (l : List Aut) (k : Nat) : Prop := ∀ (j : Nat) (a : Aut), j < k → l[j]? = some a → a.st ≠ 0
theorem stTo_step {l : List Aut} {k : Nat} {a : Aut} (h : stTo l k) (ha : l[k]? = some a) (h0 : a.st ≠ 0) : stTo l (k + 1) := fun j b hj hb => by
  rcases Nat.lt_or_ge j k with h1 | h1
  · exact h j b h1 hb
  · obtain rfl : j = k := by omega
    rw [ha] at hb; injection hb with hb; subst hb; exact h0
theorem stTo_end {l : List Aut} {k : Nat} (h : stTo l k) (hk : l.length ≤ k) : noSt l = false := by
  unfold noSt
  rw [List.any_eq_false]
  intro a ha
  obtain ⟨j, hj⟩ := List.getElem?_of_mem ha
  have := h j a (by have := (List.getElem?_eq_some_iff.1 hj).1; omega) hj
  simpa using this
end Go.Proofs.YtbdliebjalghmaaDoor

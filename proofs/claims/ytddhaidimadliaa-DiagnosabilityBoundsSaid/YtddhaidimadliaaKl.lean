/- Plain: what the law's search finds (chapter 41). -/
import Derived.Test.YtddhaidimadliaaJy
namespace Go.Proofs.Ytddhaidimadliaa
open Go

section
variable {a : Aut} {i k : Nat} {s : Int} {l : List Int} {x : Ed}
/-- what the law's search knows before its round i -/
structure ReaI (a : Aut) (i : Nat) (l : List Int) : Prop where
 nd : l.Nodup
 rng : ∀ t ∈ l, 0 ≤ t ∧ t < a.st
 rc : ∀ t ∈ l, Rc a.ed anyE 0 t
 cl : ∀ (j : Nat) (s : Int), j < i → l[j]? = some s → ∀ x ∈ a.ed, x.f = s → x.t ∈ l
 z : 0 < a.st → (0 : Int) ∈ l
theorem ReaI.start (h : 0 < a.st) : ReaI a 0 [0] := by
 refine ⟨by simp, fun t ht => ?_, fun t ht => ?_, fun j s hj => absurd hj (Nat.not_lt_zero _), fun _ => List.mem_singleton.2 rfl⟩
 ·rw [List.mem_singleton.1 ht]; exact ⟨Int.le_refl 0, h⟩
 ·rw [List.mem_singleton.1 ht]; exact .refl
theorem ReaI.none (h : ¬ 0 < a.st) : ReaI a 0 [] := ⟨List.nodup_nil, (fun t ht => by cases ht), (fun t ht => by cases ht), fun j s hj => absurd hj (Nat.not_lt_zero _), fun h0 => absurd h0 h⟩
theorem ReaI.len (h : ReaI a i l) : l.length ≤ a.st.toNat := by
 have := nodup_le (m := rngI a.st) h.nd (fun x hx => rngI_mem.2 (h.rng x hx))
 rwa [rngI_len] at this
/-- within round i, behind k edges -/
structure ReaR (a : Aut) (i k : Nat) (s : Int) (l : List Int) : Prop where
 o : ReaI a i l
 at_ : l[i]? = some s
 row : ∀ x ∈ a.ed.take k, x.f = s → x.t ∈ l
theorem ReaR.start (h : ReaI a i l) (hs : l[i]? = some s) : ReaR a i 0 s l := ⟨h, hs, fun x hx => by simp at hx⟩
theorem take1_mem {l : List Ed} {k : Nat} {x y : Ed} (hx : l[k]? = some x) (hy : y ∈ l.take (k + 1)) : y ∈ l.take k ∨ y = x := by
 rw [List.take_add_one, hx] at hy
 rcases List.mem_append.1 hy with h | h
 ·exact .inl h
 ·exact .inr (by simpa using h)
theorem ReaR.old (h : ReaR a i k s l) (hx : a.ed[k]? = some x) (hf : x.f = s → x.t ∈ l) : ReaR a i (k + 1) s l :=
 ⟨h.o, h.at_, fun y hy he => by
  rcases take1_mem hx hy with h1 | h1
  ·exact h.row y h1 he
  ·rw [h1] at he ⊢; exact hf he⟩
theorem ReaR.push (hw : WF a) (h : ReaR a i k s l) (hx : a.ed[k]? = some x) (hf : x.f = s) (hn : ¬ x.t ∈ l) : ReaR a i (k + 1) s (l ++ [x.t]) := by
 have hxm : x ∈ a.ed := List.mem_of_getElem? hx
 have hg := hw.ev_rng hxm
 have hil : i < l.length := (List.getElem?_eq_some_iff.1 h.at_).1
 refine ⟨⟨?_, fun t ht => ?_, fun t ht => ?_, fun j u hj hu y hy he => ?_, fun h0 => List.mem_append_left _ (h.o.z h0)⟩, ?_, fun y hy he => ?_⟩
 ·rw [List.nodup_append]
  exact ⟨h.o.nd, by simp, fun b hb c hc e => hn (by rw [List.mem_singleton.1 hc] at e; exact e ▸ hb)⟩
 ·rcases List.mem_append.1 ht with h1 | h1
  ·exact h.o.rng t h1
  ·rw [List.mem_singleton.1 h1]; exact ⟨hg.2.2.1, hg.2.2.2.1⟩
 ·rcases List.mem_append.1 ht with h1 | h1
  ·exact h.o.rc t h1
  ·rw [List.mem_singleton.1 h1]; exact .step (h.o.rc s (List.mem_of_getElem? h.at_)) hxm rfl hf
 ·rw [List.getElem?_append_left (by omega)] at hu
  exact List.mem_append_left _ (h.o.cl j u hj hu y hy he)
 ·rw [List.getElem?_append_left hil]; exact h.at_
 ·rcases take1_mem hx hy with h1 | h1
  ·exact List.mem_append_left _ (h.row y h1 he)
  ·rw [h1]; simp
theorem ReaR.done (h : ReaR a i k s l) (hk : a.ed.length ≤ k) : ReaI a (i + 1) l :=
 ⟨h.o.nd, h.o.rng, h.o.rc, fun j u hj hu y hy he => by
  rcases Nat.lt_or_ge j i with h1 | h1
  ·exact h.o.cl j u h1 hu y hy he
  ·obtain rfl : j = i := by omega
   rw [h.at_] at hu
   injection hu with hu
   exact h.row y (by rw [List.take_of_length_le hk]; exact hy) (by rw [he, hu]), h.o.z⟩
theorem ReaI.fin (h : ReaI a i l) (hi : l.length ≤ i) (t : Int) : t ∈ l ↔ 0 < a.st ∧ Rc a.ed anyE 0 t := by
 constructor
 ·intro ht
  have := h.rng t ht
  exact ⟨by omega, h.rc t ht⟩
 ·rintro ⟨h0, hr⟩
  refine hr.closed (P := fun t => t ∈ l) (h.z h0) fun x hx _ hf => ?_
  obtain ⟨j, hj⟩ := List.getElem?_of_mem hf
  have := (List.getElem?_eq_some_iff.1 hj).1
  exact h.cl j x.f (by omega) hj x hx rfl
/-- what the law's live and quiet ask -/
theorem live_any (hw : WF a) {l : List Int} (hl : ∀ t, t ∈ l ↔ 0 < a.st ∧ Rc a.ed anyE 0 t) : (!l.any fun s => !a.ed.any fun x => x.f == s) = (liveR a).2 := by
 rw [Bool.eq_iff_iff, live_iff hw, Bool.not_eq_true', List.any_eq_false]
 constructor
 ·intro h h0 t ht
  have := h t ((hl t).2 ⟨by have := hw.st0; omega, ht⟩)
  rw [Bool.not_eq_true', ← Bool.not_eq_true, Classical.not_not, List.any_eq_true] at this
  obtain ⟨x, hx, he⟩ := this
  exact ⟨x, hx, by simpa using he⟩
 ·intro h t ht
  obtain ⟨h0, hr⟩ := (hl t).1 ht
  obtain ⟨x, hx, he⟩ := h (by omega) t hr
  rw [Bool.not_eq_true', ← Bool.not_eq_true, Classical.not_not, List.any_eq_true]
  exact ⟨x, hx, by simpa using he⟩
end
theorem quiet_any {z : DV} (hd : dmE z = 0) (hl : z.l.length = z.nv) {n : Nat} (hn : z.x.a.st = (n : Int)) {l : List Int} (hm : ∀ t, t ∈ l ↔ 0 < z.x.a.st ∧ Rc z.x.a.ed anyE 0 t) :
  (l.any fun s => fl (cirF n (arcP z.x.a.ed fun x => !z.m.ob x.e)) s) = (cycF z.x.a (kndL z 4)).2 := by
 have hw := dmE_wf hd
 have hr : EdR n z.x.a.ed := fun x hx => by
  have := hw.ev_rng hx
  rw [← hn]
  exact ⟨⟨this.1, this.2.1⟩, this.2.2.1, this.2.2.2.1⟩
 rw [Bool.eq_iff_iff, quiet_of hd hl, List.any_eq_true]
 have key : ∀ s : Int, 0 ≤ s → s < (n : Int) → (fl (cirF n (arcP z.x.a.ed fun x => !z.m.ob x.e)) s = true ↔ OnC z.x.a.ed (fun x => !z.m.ob x.e) s) := by
  intro s h0 h1
  obtain ⟨j, rfl⟩ : ∃ j : Nat, s = (j : Int) := ⟨s.toNat, by omega⟩
  have := cir_on (es := z.x.a.ed) (perm := fun x => !z.m.ob x.e) hr (i := j) (by omega)
  rw [← this]
  unfold fl
  rw [Int.toNat_natCast, List.getD_eq_getElem?_getD]
  cases (cirF n (arcP z.x.a.ed fun x => !z.m.ob x.e))[j]? with
  | none => simp
  | some b => cases b <;> simp
 constructor
 ·rintro ⟨s, hs, hc⟩
  obtain ⟨h0, hrc⟩ := (hm s).1 hs
  have hg := hrc.rng (n := z.x.a.st) (fun x hx => ⟨(hw.ev_rng hx).2.2.1, (hw.ev_rng hx).2.2.2.1⟩) ⟨Int.le_refl 0, h0⟩
  exact ⟨h0, s, hrc, (key s hg.1 (by omega)).1 hc⟩
 ·rintro ⟨h0, s, hrc, hc⟩
  have hg := Rc.rng (n := z.x.a.st) (fun x hx => ⟨(hw.ev_rng hx).2.2.1, (hw.ev_rng hx).2.2.2.1⟩) ⟨Int.le_refl 0, h0⟩ hrc
  exact ⟨s, (hm s).2 ⟨h0, hrc⟩, (key s hg.1 (by omega)).2 hc⟩
end Go.Proofs.Ytddhaidimadliaa

/- From a row's readings to the walks' words: slices of events, strings. -/
import Derived.Test.YtcbhencebflgcaaRow
import Derived.Test.YtcbhencebflgcaaEa
import Derived.Deep.Slices
import Derived.Deep.Fields
import Derived.ChangeSame
import Derived.ChangeMaps5
namespace Go.Proofs.Ytcbhencebflgcaa
open Go.ChangeShapes Go.WideShapes Go.ChangeAt Go.RowKit Go.Deep Go

theorem list_of {α : Type} {P : Nat → α → Prop} : ∀ (n : Nat), (∀ i, i < n → ∃ e, P i e) → ∃ l : List α, l.length = n ∧ ∀ k e, l[k]? = some e → P k e
  | 0, _ => ⟨[], rfl, fun k e h => by simp at h⟩
  | n + 1, h => by
    obtain ⟨l, hl, hp⟩ := list_of n (fun i hi => h i (by omega))
    obtain ⟨e, he⟩ := h n (by omega)
    refine ⟨l ++ [e], by simp [hl], fun k u hk => ?_⟩
    rcases Nat.lt_or_ge k n with h1 | h1
    · rw [List.getElem?_append_left (by omega)] at hk
      exact hp k u hk
    · rw [List.getElem?_append_right (by omega), hl] at hk
      have : k = n := by
        rcases Nat.lt_or_ge k (n + 1) with h2 | h2
        · omega
        · rw [List.getElem?_eq_none (by simp; omega)] at hk; cases hk
      subst this
      simp at hk
      subst hk
      exact he
section
variable {H : Type} {enc : TypeId × Value → H} {P : Program} {w : World} {base : Nat} {spare : Nat → Bool} {held : Bool}
-- the opening of a slice of structs of one-cell fields
theorem open_slice_fields {t e : TypeId} {fs : Array Field} {fuel : Nat} {cs : List Value} {x : DataW H × List MemPlace} (ht : P.underlying t = some (.slice e)) (he : P.underlying e = some (.struct fs))
    (hone : oneCellFields P fs = true) (hC : P.cellsOf e = fs.size) (h : DataW.trod enc P w base spare held fuel t cs = some x) :
    cs = [.slice none 0 0] ∨
    ∃ (a : Addr) (len cap m : Nat), cs = [.slice (some a) len cap] ∧ len ≤ cap ∧ cap ≤ maxLen ∧ m = (if spare a.block then cap else len) ∧
      ∀ i, i < m → ∃ n : Nat, ∀ (j : Nat) (f : Field), fs[j]? = some f → ∃ (v : Value) (y : DataW H × List MemPlace), w.cell? (a.add (i * fs.size + j)) = some v ∧ DataW.trod enc P w base spare held n f.type [v] = some y := by
  rcases open_slice ht h with h0 | ⟨a, len, cap, m, n, D, Pl, hcs, hb, hl, hm, hmm, hx, hi⟩
  · exact .inl h0.1
  · refine .inr ⟨a, len, cap, m, hcs, hl, hm, hmm, fun i him => ?_⟩
    obtain ⟨cs', hc, ht'⟩ := hi i him
    rw [hC] at hc
    obtain ⟨ys, n', hn', hy, hlen, hyl, hf⟩ := DataW.trod_struct he ht'
    obtain ⟨_, hcl, hat⟩ := World.cells?_some hc
    refine ⟨n', fun j f hj => ?_⟩
    obtain ⟨ho, hk⟩ := hone_of hone j f hj
    have hjl : j < fs.size := (Array.getElem?_eq_some_iff.1 hj).1
    have hcell := hat j hjl
    have hv : cs'[j]? = some (cs'[j]'(by omega)) := List.getElem?_eq_getElem (by omega)
    have h1 := hf j f hj
    rw [ho, hk] at h1
    have hone' : (cs'.drop j).take 1 = [cs'[j]'(by omega)] := by
      rw [List.drop_eq_getElem_cons (by omega)]
      rfl
    rw [hone'] at h1
    have hys : ys[j]? = some (ys[j]'(by omega)) := List.getElem?_eq_getElem (by omega)
    refine ⟨_, _, ?_, h1.trans hys⟩
    rw [← Go.Deep.add_add, hcell, hv]
/-- A slice of events that came in. -/
def EvArg (w : World) (A : Option Addr) (len cap : Nat) (l : List Ev) : Prop := l.length = len ∧ len ≤ cap ∧ cap ≤ 9223372036854775807 ∧ RdE w w.heap.size A l
theorem evArg_of {t e : TypeId} {f0 f1 f2 f3 f4 : Field} {a : Option Addr} {len cap : Nat} {d : DataW H} {p : List MemPlace} (ht : P.underlying t = some (.slice e)) (he : P.underlying e = some (.struct #[f0, f1, f2, f3, f4]))
    (hone : oneCellFields P #[f0, f1, f2, f3, f4] = true) (hC : P.cellsOf e = 5) (h0 : P.underlying f0.type = some .string) (h1 : P.underlying f1.type = some .bool) (h2 : P.underlying f2.type = some .bool) (h3 : P.underlying f3.type = some .bool) (h4 : P.underlying f4.type = some (.int .i64))
    (h : DataW.Trod enc P w base spare held t (.slice a len cap) d p) (hsp : ∀ b, spare b = true) : ∃ l, EvArg w a len cap l := by
  obtain ⟨fuel, hf⟩ := h
  rcases open_slice_fields ht he hone hC hf with hcs | ⟨x, n, c, m, hcs, hl, hm, hmm, hi⟩
  · simp [Value.cells] at hcs
    obtain ⟨rfl, rfl, rfl⟩ := hcs
    exact ⟨[], rfl, Nat.le_refl _, by omega, RdE.nil⟩
  · simp [Value.cells] at hcs
    obtain ⟨rfl, rfl, rfl⟩ := hcs
    have hmc : len ≤ m := by rw [hmm, hsp]; exact hl
    obtain ⟨l, hll, hp⟩ := list_of (P := fun (i : Nat) (e : Ev) => x.block < w.heap.size ∧ e.nm.size ≤ 9223372036854775807 ∧ ∀ j u, e.cells[j]? = some u → w.cell? (x.add (i * 5 + j)) = some u) len (fun i hil => by
      obtain ⟨k, hk⟩ := hi i (by omega)
      obtain ⟨v0, y0, c0, t0⟩ := hk 0 f0 rfl
      obtain ⟨v1, y1, c1, t1⟩ := hk 1 f1 rfl
      obtain ⟨v2, y2, c2, t2⟩ := hk 2 f2 rfl
      obtain ⟨v3, y3, c3, t3⟩ := hk 3 f3 rfl
      obtain ⟨v4, y4, c4, t4⟩ := hk 4 f4 rfl
      obtain ⟨s, e0, _, hs⟩ := DataW.trod_string h0 t0
      obtain ⟨b1, e1, _⟩ := DataW.trod_bool h1 t1
      obtain ⟨b2, e2, _⟩ := DataW.trod_bool h2 t2
      obtain ⟨b3, e3, _⟩ := DataW.trod_bool h3 t3
      obtain ⟨n4, e4, _, _⟩ := DataW.trod_int h4 t4
      simp only [List.cons.injEq, and_true] at e0 e1 e2 e3 e4
      subst e0 e1 e2 e3 e4
      refine ⟨⟨s, b1, b2, b3, n4⟩, ?_, by simpa [maxLen] using hs, fun j u hj => ?_⟩
      · have := World.block_lt_of_cell? w _ c0
        rwa [block_of_add] at this
      · match j, hj with
        | 0, hj => simp [Ev.cells] at hj; subst hj; exact c0
        | 1, hj => simp [Ev.cells] at hj; subst hj; exact c1
        | 2, hj => simp [Ev.cells] at hj; subst hj; exact c2
        | 3, hj => simp [Ev.cells] at hj; subst hj; exact c3
        | 4, hj => simp [Ev.cells] at hj; subst hj; exact c4
        | j + 5, hj => simp [Ev.cells] at hj)
    exact ⟨l, hll, hl, by simpa [maxLen] using hm, fun k e hk => ⟨x, rfl, (hp k e hk).1, (hp k e hk).2.1, (hp k e hk).2.2⟩⟩
end
end Go.Proofs.Ytcbhencebflgcaa

/- From a row's readings to the walks' words: slices of automata. -/
import Derived.Test.YtbdliebjalghmaaDoorRw
import Derived.Test.YtbdliebjalghmaaDoorAa
namespace Go.Proofs.YtbdliebjalghmaaDoor
open Go.ChangeShapes Go.WideShapes Go.ChangeAt Go.RowKit Go.Deep Go

section
variable {H : Type} {enc : TypeId × Value → H} {P : Program} {w : World} {base : Nat} {spare : Nat → Bool} {held : Bool}
-- the opening of a slice of structs of one-cell fields
theorem open_slice_fields {t e : TypeId} {fs : Array Field} {fuel : Nat} {cs : List Value} {x : DataW H × List MemPlace} (ht : P.underlying t = some (.slice e)) (he : P.underlying e = some (.struct fs))
    (hone : oneCellFields P fs = true) (hC : P.cellsOf e = fs.size) (h : DataW.trod enc P w base spare held fuel t cs = some x) :
    cs = [.slice none 0 0] ∨
    ∃ (a : Addr) (len cap m : Nat), cs = [.slice (some a) len cap] ∧ len ≤ cap ∧ cap ≤ maxLen ∧ m = (if spare a.block then cap else len) ∧
      ∀ i, i < m → ∃ n : Nat, ∀ (j : Nat) (f : Field), fs[j]? = some f → ∃ (v : Value) (y : DataW H × List MemPlace), w.cell? (a.add (i * fs.size + j)) = some v ∧ DataW.trod enc P w base spare held n f.type [v] = some y := by
  rcases open_slice ht h with h0 | ⟨a, len, cap, m, n, D, Pl, hcs, hb, hl, hm, hmm, hx, hi⟩
  · exact .inl h0.1
  · refine .inr ⟨a, len, cap, m, hcs, hl, hm, hmm, fun i him => ?_⟩
    obtain ⟨cs', hc, ht'⟩ := hi i him
    rw [hC] at hc
    obtain ⟨ys, n', hn', hy, hlen, hyl, hf⟩ := DataW.trod_struct he ht'
    obtain ⟨_, hcl, hat⟩ := World.cells?_some hc
    refine ⟨n', fun j f hj => ?_⟩
    obtain ⟨ho, hk⟩ := hone_of hone j f hj
    have hjl : j < fs.size := (Array.getElem?_eq_some_iff.1 hj).1
    have hcell := hat j hjl
    have hv : cs'[j]? = some (cs'[j]'(by omega)) := List.getElem?_eq_getElem (by omega)
    have h1 := hf j f hj
    rw [ho, hk] at h1
    have hone' : (cs'.drop j).take 1 = [cs'[j]'(by omega)] := by
      rw [List.drop_eq_getElem_cons (by omega)]
      rfl
    rw [hone'] at h1
    have hys : ys[j]? = some (ys[j]'(by omega)) := List.getElem?_eq_getElem (by omega)
    refine ⟨_, _, ?_, h1.trans hys⟩
    rw [← Go.Deep.add_add, hcell, hv]
end
section
variable {H : Type} {enc : TypeId × Value → H} {W : World} {spare : Nat → Bool} {held : Bool}
/-- a slice of edges that came in -/
theorem edArg_of {t e : TypeId} {f0 f1 f2 : Field} {a : Option Addr} {len cap : Nat} {d : DataW H} {p : List MemPlace} (ht : Tryd.prog.underlying t = some (.slice e)) (he : Tryd.prog.underlying e = some (.struct #[f0, f1, f2]))
    (hone : oneCellFields Tryd.prog #[f0, f1, f2] = true) (hC : Tryd.prog.cellsOf e = 3) (h0 : Tryd.prog.underlying f0.type = some (.int .i64)) (h1 : Tryd.prog.underlying f1.type = some (.int .i64)) (h2 : Tryd.prog.underlying f2.type = some (.int .i64))
    (h : DataW.Trod enc Tryd.prog W 0 spare held t (.slice a len cap) d p) (hsp : ∀ b, spare b = true) : ∃ l : List Ed, l.length = len ∧ len ≤ cap ∧ cap ≤ 9223372036854775807 ∧ RdX W W.heap.size a l := by
  obtain ⟨fuel, hf⟩ := h
  rcases open_slice_fields ht he hone hC hf with hcs | ⟨x, n, c, m, hcs, hl, hm, hmm, hi⟩
  · simp [Value.cells] at hcs
    obtain ⟨rfl, rfl, rfl⟩ := hcs
    exact ⟨[], rfl, Nat.le_refl _, by omega, RdX.nil⟩
  · simp [Value.cells] at hcs
    obtain ⟨rfl, rfl, rfl⟩ := hcs
    have hmc : len ≤ m := by rw [hmm, hsp]; exact hl
    obtain ⟨l, hll, hp⟩ := list_of (P := fun (i : Nat) (e : Ed) => x.block < W.heap.size ∧ ∀ j u, (edc e)[j]? = some u → W.cell? (x.add (i * 3 + j)) = some u) len (fun i hil => by
      obtain ⟨k, hk⟩ := hi i (by omega)
      obtain ⟨v0, y0, c0, t0⟩ := hk 0 f0 rfl
      obtain ⟨v1, y1, c1, t1⟩ := hk 1 f1 rfl
      obtain ⟨v2, y2, c2, t2⟩ := hk 2 f2 rfl
      obtain ⟨n0, e0, _⟩ := DataW.trod_int h0 t0
      obtain ⟨n1, e1, _⟩ := DataW.trod_int h1 t1
      obtain ⟨n2, e2, _⟩ := DataW.trod_int h2 t2
      simp only [List.cons.injEq, and_true] at e0 e1 e2
      subst e0 e1 e2
      refine ⟨⟨n0, n1, n2⟩, ?_, fun j u hj => ?_⟩
      · have := World.block_lt_of_cell? W _ c0
        rwa [block_of_add] at this
      · match j, hj with
        | 0, hj => simp [edc] at hj; subst hj; exact c0
        | 1, hj => simp [edc] at hj; subst hj; exact c1
        | 2, hj => simp [edc] at hj; subst hj; exact c2)
    refine ⟨l, hll, hl, by simpa [maxLen] using hm, fun k e hk => ?_⟩
    obtain ⟨h1, h2⟩ := hp k e hk
    exact ⟨x, rfl, h1, h2⟩
theorem sl_of {t e : TypeId} {n : Nat} {v : Value} {y : DataW H × List MemPlace} (ht : Tryd.prog.underlying t = some (.slice e)) (h : DataW.trod enc Tryd.prog W 0 spare held n t [v] = some y) : ∃ a len cap, v = .slice a len cap := by
  rcases open_slice ht h with h0 | ⟨a, len, cap, m, n', D, Pl, hcs, _⟩
  · have := h0.1
    simp at this
    exact ⟨_, _, _, this⟩
  · simp at hcs
    exact ⟨_, _, _, hcs⟩
/-- a slice of automata that came in -/
theorem alsArg_of {t e ti ex : TypeId} {f0 f1 f2 f3 g0 g1 g2 : Field} {a : Option Addr} {len cap : Nat} {d : DataW H} {p : List MemPlace} (ht : Tryd.prog.underlying t = some (.slice e)) (he : Tryd.prog.underlying e = some (.struct #[f0, f1, f2, f3]))
    (hone : oneCellFields Tryd.prog #[f0, f1, f2, f3] = true) (hC : Tryd.prog.cellsOf e = 4) (h0 : Tryd.prog.underlying f0.type = some (.slice ti)) (h1 : Tryd.prog.underlying f1.type = some (.int .i64)) (h2 : Tryd.prog.underlying f2.type = some (.slice ti)) (h3 : Tryd.prog.underlying f3.type = some (.slice ex))
    (hti : Tryd.prog.underlying ti = some (.int .i64)) (hci : Tryd.prog.cellsOf ti = 1) (hex : Tryd.prog.underlying ex = some (.struct #[g0, g1, g2])) (hone2 : oneCellFields Tryd.prog #[g0, g1, g2] = true) (hC2 : Tryd.prog.cellsOf ex = 3)
    (k0 : Tryd.prog.underlying g0.type = some (.int .i64)) (k1 : Tryd.prog.underlying g1.type = some (.int .i64)) (k2 : Tryd.prog.underlying g2.type = some (.int .i64))
    (h : DataW.Trod enc Tryd.prog W 0 spare held t (.slice a len cap) d p) (hsp : ∀ b, spare b = true) : ∃ xs : List AV, xs.length = len ∧ len ≤ cap ∧ cap ≤ 9223372036854775807 ∧ RdL W W.heap.size a xs := by
  obtain ⟨fuel, hf⟩ := h
  rcases open_slice_fields ht he hone hC hf with hcs | ⟨x, n, c, m, hcs, hl, hm, hmm, hi⟩
  · simp [Value.cells] at hcs
    obtain ⟨rfl, rfl, rfl⟩ := hcs
    exact ⟨[], rfl, Nat.le_refl _, by omega, RdL.nil⟩
  · simp [Value.cells] at hcs
    obtain ⟨rfl, rfl, rfl⟩ := hcs
    have hmc : len ≤ m := by rw [hmm, hsp]; exact hl
    obtain ⟨l, hll, hp⟩ := list_of (P := fun (i : Nat) (e : AV) => x.block < W.heap.size ∧ (∀ j u, (avc e)[j]? = some u → W.cell? (x.add (i * 4 + j)) = some u) ∧ e.ok W W.heap.size) len (fun i hil => by
      obtain ⟨k, hk⟩ := hi i (by omega)
      obtain ⟨v0, y0, c0, t0⟩ := hk 0 f0 rfl
      obtain ⟨v1, y1, c1, t1⟩ := hk 1 f1 rfl
      obtain ⟨v2, y2, c2, t2⟩ := hk 2 f2 rfl
      obtain ⟨v3, y3, c3, t3⟩ := hk 3 f3 rfl
      obtain ⟨a0, n0, p0, rfl⟩ := sl_of h0 t0
      obtain ⟨st, e1, _⟩ := DataW.trod_int h1 t1
      simp only [List.cons.injEq, and_true] at e1
      subst e1
      obtain ⟨a2, n2, p2, rfl⟩ := sl_of h2 t2
      obtain ⟨a3, n3, p3, rfl⟩ := sl_of h3 t3
      obtain ⟨l0, q1, q2, q3, q4, _⟩ := slArg_of (enc := enc) (W := W) (spare := spare) (held := held) (k := .i64) (d := _) (p := _) h0 hti hci ⟨_, t0⟩ hsp
      obtain ⟨l2, r1, r2, r3, r4, _⟩ := slArg_of (enc := enc) (W := W) (spare := spare) (held := held) (k := .i64) (d := _) (p := _) h2 hti hci ⟨_, t2⟩ hsp
      obtain ⟨l3, s1, s2, s3, s4⟩ := edArg_of (enc := enc) (W := W) (spare := spare) (held := held) (d := _) (p := _) h3 hex hone2 hC2 k0 k1 k2 ⟨_, t3⟩ hsp
      refine ⟨⟨a0, n0, p0, a2, n2, p2, a3, n3, p3, ⟨l0, st, l2, l3⟩⟩, ?_, fun j u hj => ?_, q1, q2, q3, q4, r1, r2, r3, r4, s1, s2, s3, s4⟩
      · have := World.block_lt_of_cell? W _ c0
        rwa [block_of_add] at this
      · match j, hj with
        | 0, hj => simp [avc] at hj; subst hj; exact c0
        | 1, hj => simp [avc] at hj; subst hj; exact c1
        | 2, hj => simp [avc] at hj; subst hj; exact c2
        | 3, hj => simp [avc] at hj; subst hj; exact c3)
    refine ⟨l, hll, hl, by simpa [maxLen] using hm, fun k e hk => ?_, fun e he => ?_⟩
    · obtain ⟨h1, h2, _⟩ := hp k e hk
      exact ⟨x, rfl, h1, h2⟩
    · obtain ⟨k, hk⟩ := List.getElem?_of_mem he
      exact (hp k e hk).2.2
end
end Go.Proofs.YtbdliebjalghmaaDoor

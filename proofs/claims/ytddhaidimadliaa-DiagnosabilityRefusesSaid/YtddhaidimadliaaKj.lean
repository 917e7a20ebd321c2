/- From a row's readings to the walks' words: models (chapter 41). -/
import Derived.Test.YtddhaidimadliaaKb
import Derived.Test.YtddhaidimadliaaJa
import Derived.Deep.Slices
import Derived.Deep.Fields
import Derived.ChangeSame
import Derived.ChangeMaps5
namespace Go.Proofs.Ytddhaidimadliaa
open Go.ChangeShapes Go.WideShapes Go.ChangeAt Go.RowKit Go.Deep Go

def avc41 (x : AV) : List Value := [.slice x.A x.na x.ca, .int .i64 x.a.st, .slice x.M x.nm x.cm, .slice x.E x.ne x.ce]
section
variable {H : Type} {enc : TypeId × Value → H} {P : Program} {w : World} {base : Nat} {spare : Nat → Bool} {held : Bool}
/-- A slice of events that came in. -/
def EvArg (w : World) (A : Option Addr) (len cap : Nat) (l : List Ev) : Prop := l.length = len ∧ len ≤ cap ∧ cap ≤ 9223372036854775807 ∧ RdE w w.heap.size A l
theorem evArg_of {t e : TypeId} {f0 f1 f2 f3 f4 : Field} {a : Option Addr} {len cap : Nat} {d : DataW H} {p : List MemPlace} (ht : P.underlying t = some (.slice e)) (he : P.underlying e = some (.struct #[f0, f1, f2, f3, f4]))
  (hone : oneCellFields P #[f0, f1, f2, f3, f4] = true) (hC : P.cellsOf e = 5) (h0 : P.underlying f0.type = some .string) (h1 : P.underlying f1.type = some .bool) (h2 : P.underlying f2.type = some .bool) (h3 : P.underlying f3.type = some .bool) (h4 : P.underlying f4.type = some (.int .i64))
  (h : DataW.Trod enc P w base spare held t (.slice a len cap) d p) (hsp : ∀ b, spare b = true) : ∃ l, EvArg w a len cap l := by
 obtain ⟨fuel, hf⟩ := h
 rcases open_slice_fields ht he hone hC hf with hcs | ⟨x, n, c, m, hcs, hl, hm, hmm, hi⟩
 ·simp [Value.cells] at hcs
  obtain ⟨rfl, rfl, rfl⟩ := hcs
  exact ⟨[], rfl, Nat.le_refl _, by omega, RdE.nil⟩
 ·simp [Value.cells] at hcs
  obtain ⟨rfl, rfl, rfl⟩ := hcs
  have hmc : len ≤ m := by rw [hmm, hsp]; exact hl
  obtain ⟨l, hll, hp⟩ := list_of (P := fun (i : Nat) (e : Ev) => x.block < w.heap.size ∧ e.nm.size ≤ 9223372036854775807 ∧ ∀ j u, e.cells[j]? = some u → w.cell? (x.add (i * 5 + j)) = some u) len (fun i hil => by
   obtain ⟨k, hk⟩ := hi i (by omega)
   obtain ⟨v0, y0, c0, t0⟩ := hk 0 f0 rfl
   obtain ⟨v1, y1, c1, t1⟩ := hk 1 f1 rfl
   obtain ⟨v2, y2, c2, t2⟩ := hk 2 f2 rfl
   obtain ⟨v3, y3, c3, t3⟩ := hk 3 f3 rfl
   obtain ⟨v4, y4, c4, t4⟩ := hk 4 f4 rfl
   obtain ⟨s, e0, _, hs⟩ := DataW.trod_string h0 t0
   obtain ⟨b1, e1, _⟩ := DataW.trod_bool h1 t1
   obtain ⟨b2, e2, _⟩ := DataW.trod_bool h2 t2
   obtain ⟨b3, e3, _⟩ := DataW.trod_bool h3 t3
   obtain ⟨n4, e4, _, _⟩ := DataW.trod_int h4 t4
   simp only [List.cons.injEq, and_true] at e0 e1 e2 e3 e4
   subst e0 e1 e2 e3 e4
   refine ⟨⟨s, b1, b2, b3, n4⟩, ?_, by simpa [maxLen] using hs, fun j u hj => ?_⟩
   ·have := World.block_lt_of_cell? w _ c0
    rwa [block_of_add] at this
   ·match j, hj with
    | 0, hj => simp [Ev.cells] at hj; subst hj; exact c0
    | 1, hj => simp [Ev.cells] at hj; subst hj; exact c1
    | 2, hj => simp [Ev.cells] at hj; subst hj; exact c2
    | 3, hj => simp [Ev.cells] at hj; subst hj; exact c3
    | 4, hj => simp [Ev.cells] at hj; subst hj; exact c4
    | j + 5, hj => simp [Ev.cells] at hj)
  exact ⟨l, hll, hl, by simpa [maxLen] using hm, fun k e hk => ⟨x, rfl, (hp k e hk).1, (hp k e hk).2.1, (hp k e hk).2.2⟩⟩
end
section
variable {H : Type} {enc : TypeId × Value → H} {W : World} {spare : Nat → Bool} {held : Bool}
set_option maxRecDepth 100000 in
theorem aut_cells {fuel : Nat} {cs : List Value} {y : DataW H × List MemPlace} (hf : DataW.trod enc Try.prog W 0 spare held fuel 34 cs = some y) (hsp : ∀ b, spare b = true) : ∃ x : AV, x.ok W W.heap.size ∧ cs = avc41 x := by
 obtain ⟨xs, n, _, _, hl, hn, hi⟩ := DataW.trod_struct Try.underlying34 hf
 have hn4 : xs.length = 4 := hn
 have hl4 : cs.length = 4 := by rw [hl]; kernel_rfl
 have h0 := (hi 0 _ rfl).trans (List.getElem?_eq_getElem (by omega : 0 < xs.length))
 have h1 := (hi 1 _ rfl).trans (List.getElem?_eq_getElem (by omega : 1 < xs.length))
 have h2 := (hi 2 _ rfl).trans (List.getElem?_eq_getElem (by omega : 2 < xs.length))
 have h3 := (hi 3 _ rfl).trans (List.getElem?_eq_getElem (by omega : 3 < xs.length))
 simp only [List.getElem_toArray, List.getElem_cons_zero, List.getElem_cons_succ] at h0 h1 h2 h3
 rw [show Try.prog.cellsOf 31 = 1 by kernel_rfl] at h0 h2
 rw [show Try.prog.cellsOf 3 = 1 by kernel_rfl] at h1
 rw [show Try.prog.cellsOf 32 = 1 by kernel_rfl] at h3
 obtain ⟨v0, c0, t0⟩ := one_at (by omega) h0
 obtain ⟨v1, c1, t1⟩ := one_at (by omega) h1
 obtain ⟨v2, c2, t2⟩ := one_at (by omega) h2
 obtain ⟨v3, c3, t3⟩ := one_at (by omega) h3
 obtain ⟨a0, n0, p0, rfl⟩ := sl_of Try.underlying31 t0
 obtain ⟨st, e1, _⟩ := DataW.trod_int Try.underlying3 t1
 simp only [List.cons.injEq, and_true] at e1
 subst e1
 obtain ⟨a2, n2, p2, rfl⟩ := sl_of Try.underlying31 t2
 obtain ⟨a3, n3, p3, rfl⟩ := sl_of Try.underlying32 t3
 obtain ⟨l0, q1, q2, q3, q4, _⟩ := slArg_of (enc := enc) (W := W) (spare := spare) (held := held) (k := .i64) (d := _) (p := _) Try.underlying31 Try.underlying3 (by kernel_rfl) ⟨_, t0⟩ hsp
 obtain ⟨l2, r1, r2, r3, r4, _⟩ := slArg_of (enc := enc) (W := W) (spare := spare) (held := held) (k := .i64) (d := _) (p := _) Try.underlying31 Try.underlying3 (by kernel_rfl) ⟨_, t2⟩ hsp
 obtain ⟨l3, s1, s2, s3, s4⟩ := edArg_of (enc := enc) (W := W) (spare := spare) (held := held) (d := _) (p := _) Try.underlying32 Try.underlying106 (by kernel_rfl) (by kernel_rfl) Try.underlying3 Try.underlying3 Try.underlying3 ⟨_, t3⟩ hsp
 refine ⟨⟨a0, n0, p0, a2, n2, p2, a3, n3, p3, ⟨l0, st, l2, l3⟩⟩, ⟨q1, q2, q3, q4, r1, r2, r3, r4, s1, s2, s3, s4⟩, ?_⟩
 clear hf hl hi h0 h1 h2 h3
 match cs, hl4, c0, c1, c2, c3 with
 | [x0, x1, x2, x3], _, c0, c1, c2, c3 =>
  simp at c0 c1 c2 c3
  rw [c0, c1, c2, c3]
  rfl
set_option maxRecDepth 100000 in
/-- a model that came in -/
theorem dvArg_of {b0 : Nat} {v : Value} {d : DataW H} {p : List MemPlace} (hv : Value.okWide Try.prog W .any b0 37 v) (h : DataW.Trod enc Try.prog W 0 spare held 37 v d p) (hsp : ∀ b, spare b = true) : ∃ z : DV, z.ok W W.heap.size ∧ v = .agg (dvc z).toArray := by
 obtain ⟨cs, rfl, hsz⟩ := okWide_struct Try.underlying37 hv
 obtain ⟨fuel, hf⟩ := h
 have hf : DataW.trod enc Try.prog W 0 spare held fuel 37 cs.toList = some (d, p) := hf
 obtain ⟨xs, n, _, _, hl, hn, hi⟩ := DataW.trod_struct Try.underlying37 hf
 have hn2 : xs.length = 2 := hn
 have hl5 : cs.toList.length = 5 := by rw [hl]; kernel_rfl
 have h0 := (hi 0 _ rfl).trans (List.getElem?_eq_getElem (by omega : 0 < xs.length))
 have h1 := (hi 1 _ rfl).trans (List.getElem?_eq_getElem (by omega : 1 < xs.length))
 simp only [List.getElem_toArray, List.getElem_cons_zero, List.getElem_cons_succ] at h0 h1
 rw [show Try.prog.cellsOf 34 = 4 by kernel_rfl] at h0
 rw [show Try.prog.cellsOf 35 = 1 by kernel_rfl] at h1
 obtain ⟨x0, o0, e0⟩ := aut_cells h0 hsp
 obtain ⟨v1, c1, t1⟩ := one_at (by omega) h1
 obtain ⟨a1, n1, p1, rfl⟩ := sl_of Try.underlying35 t1
 obtain ⟨l1, q1, q2, q3, q4⟩ := evArg_of (enc := enc) (w := W) (base := 0) (spare := spare) (held := held) (d := _) (p := _) Try.underlying35 Try.underlying67 (by kernel_rfl) (by kernel_rfl) (by kernel_rfl) (by kernel_rfl) (by kernel_rfl) (by kernel_rfl) (by kernel_rfl) ⟨_, t1⟩ hsp
 refine ⟨⟨x0, a1, n1, p1, l1⟩, ⟨o0, q1, q4, q2, q3⟩, ?_⟩
 have hd : cs.toList.drop 4 = [.slice a1 n1 p1] := by
  have k3 : (cs.toList.drop 4).length = 1 := by rw [List.length_drop]; omega
  have k4 : (cs.toList.drop 4)[0]? = some (.slice a1 n1 p1) := by rw [List.getElem?_drop]; exact c1
  match hq : cs.toList.drop 4, k3 with
  | [a], _ => rw [hq] at k4; simp at k4; rw [k4]
 have e : cs.toList = dvc ⟨x0, a1, n1, p1, l1⟩ := by
  show cs.toList = avc41 x0 ++ [.slice a1 n1 p1]
  rw [← e0, ← hd, List.drop_zero, List.take_append_drop]
 rw [← e, Array.toArray_toList]
end
end Go.Proofs.Ytddhaidimadliaa

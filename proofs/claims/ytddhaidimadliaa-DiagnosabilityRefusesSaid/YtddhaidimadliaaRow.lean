/- From a row's readings to the walks' words: slices of integers that came in. -/
import Derived.Test.YtddhaidimadliaaRows
import Derived.Test.YtddhaidimadliaaBase
import Derived.ProofKit
import Derived.OpenShut
import Derived.ShutString
import Derived.ChangeOld
import Derived.Deep.Slices
import Derived.Deep.Fields
import Derived.ChangeSame
import Derived.ChangeMaps5
import Derived.Test.YtddhaidimadliaaAa
namespace Go.Proofs.Ytddhaidimadliaa
open Go.ChangeShapes Go.WideShapes Go.ChangeAt Go.RowKit Go

theorem own : ownKnob Try.prog.godebug = none := by kernel_rfl
theorem laidOut : laidOutB Try.prog = true := by kernel_rfl

/-- A slice of integers of kind k that came in: its elements, its room, each fitting its kind. -/
def SlArg (k : IntKind) (w : World) (A : Option Addr) (len cap : Nat) (l : List Int) : Prop :=
 l.length = len ∧ len ≤ cap ∧ cap ≤ 9223372036854775807 ∧ RdV w w.heap.size A (l.map (Value.int k)) ∧ ∀ x ∈ l, (Lit.int k x).wf = true

theorem slArg_of {H : Type} {enc : TypeId × Value → H} {W : World} {spare : Nat → Bool} {held : Bool} {t e : TypeId} {k : IntKind} {a : Option Addr} {len cap : Nat} {d : DataW H} {p : List MemPlace}
  (ht : Try.prog.underlying t = some (.slice e)) (he : Try.prog.underlying e = some (.int k)) (hc : Try.prog.cellsOf e = 1) (h : DataW.Trod enc Try.prog W 0 spare held t (.slice a len cap) d p) (hsp : ∀ b, spare b = true) :
  ∃ l, SlArg k W a len cap l := by
 obtain ⟨fuel, hf⟩ := h
 rcases open_ints ht he hc hf with ⟨hcs, _⟩ | ⟨x, n, c, zs, hcs, _, hl, hm, hz, _, hcell, hwz⟩
 ·simp [Value.cells] at hcs
  obtain ⟨rfl, rfl, rfl⟩ := hcs
  exact ⟨[], rfl, Nat.le_refl _, by omega, RdV.nil, fun x hx => by simp at hx⟩
 ·simp [Value.cells] at hcs
  obtain ⟨rfl, rfl, rfl⟩ := hcs
  have hz' : zs.length = cap := by simpa [hsp] using hz
  refine ⟨zs.take len, by rw [List.length_take]; omega, hl, by simpa [maxLen] using hm, fun j u hu => ?_, fun y hy => hwz y (List.mem_of_mem_take hy)⟩
  rw [List.getElem?_map] at hu
  obtain ⟨y, hy, rfl⟩ := Option.map_eq_some_iff.1 hu
  have hj : j < (zs.take len).length := (List.getElem?_eq_some_iff.1 hy).1
  rw [List.length_take] at hj
  have hcj := hcell j (by omega)
  have hgy : zs.getD j 0 = y := by
   rw [List.getElem?_take, if_pos (by omega)] at hy
   simp [List.getD, hy]
  rw [hgy] at hcj
  refine ⟨x, rfl, ?_, hcj⟩
  have := World.block_lt_of_cell? W _ hcj
  rwa [block_of_add] at this
theorem SlArg.rd {w : World} {A : Option Addr} {len cap : Nat} {l : List Int} (h : SlArg .i64 w A len cap l) : RdI w w.heap.size A l := h.2.2.2.1
theorem SlArg.rb {w : World} {A : Option Addr} {len cap : Nat} {l : List Int} (h : SlArg .u8 w A len cap l) : RdB w w.heap.size A l := h.2.2.2.1
theorem SlArg.bytes {w : World} {A : Option Addr} {len cap : Nat} {l : List Int} (h : SlArg .u8 w A len cap l) : ∀ (k : Nat) (x : Int), l[k]? = some x → 0 ≤ x ∧ x ≤ 255 := fun k x hx => by
 have := h.2.2.2.2 x (List.mem_of_getElem? hx)
 simp [Lit.wf, IntKind.min, IntKind.max, IntKind.bits, IntKind.signed] at this
 omega
end Go.Proofs.Ytddhaidimadliaa

/- From a row's readings to the walks' words: slices of slices of ints. -/
namespace Go.Proofs.Ytddhaidimadliaa
open Go.ChangeShapes Go.WideShapes Go.ChangeAt Go.RowKit Go.Deep Go

theorem list_of {α : Type} {P : Nat → α → Prop} : ∀ (n : Nat), (∀ i, i < n → ∃ e, P i e) → ∃ l : List α, l.length = n ∧ ∀ k e, l[k]? = some e → P k e
 | 0, _ => ⟨[], rfl, fun k e h => by simp at h⟩
 | n + 1, h => by
  obtain ⟨l, hl, hp⟩ := list_of n (fun i hi => h i (by omega))
  obtain ⟨e, he⟩ := h n (by omega)
  refine ⟨l ++ [e], by simp [hl], fun k u hk => ?_⟩
  rcases Nat.lt_or_ge k n with h1 | h1
  ·rw [List.getElem?_append_left (by omega)] at hk
   exact hp k u hk
  ·rw [List.getElem?_append_right (by omega), hl] at hk
   have : k = n := by
    rcases Nat.lt_or_ge k (n + 1) with h2 | h2
    ·omega
    ·rw [List.getElem?_eq_none (by simp; omega)] at hk; cases hk
   subst this
   simp at hk
   subst hk
   exact he
end Go.Proofs.Ytddhaidimadliaa

/- From a row's readings to the walks' words: slices of automata. -/
namespace Go.Proofs.Ytddhaidimadliaa
open Go.ChangeShapes Go.WideShapes Go.ChangeAt Go.RowKit Go.Deep Go

section
variable {H : Type} {enc : TypeId × Value → H} {P : Program} {w : World} {base : Nat} {spare : Nat → Bool} {held : Bool}
-- the opening of a slice of structs of one-cell fields
theorem open_slice_fields {t e : TypeId} {fs : Array Field} {fuel : Nat} {cs : List Value} {x : DataW H × List MemPlace} (ht : P.underlying t = some (.slice e)) (he : P.underlying e = some (.struct fs))
  (hone : oneCellFields P fs = true) (hC : P.cellsOf e = fs.size) (h : DataW.trod enc P w base spare held fuel t cs = some x) :
  cs = [.slice none 0 0] ∨
  ∃ (a : Addr) (len cap m : Nat), cs = [.slice (some a) len cap] ∧ len ≤ cap ∧ cap ≤ maxLen ∧ m = (if spare a.block then cap else len) ∧
   ∀ i, i < m → ∃ n : Nat, ∀ (j : Nat) (f : Field), fs[j]? = some f → ∃ (v : Value) (y : DataW H × List MemPlace), w.cell? (a.add (i * fs.size + j)) = some v ∧ DataW.trod enc P w base spare held n f.type [v] = some y := by
 rcases open_slice ht h with h0 | ⟨a, len, cap, m, n, D, Pl, hcs, hb, hl, hm, hmm, hx, hi⟩
 ·exact .inl h0.1
 ·refine .inr ⟨a, len, cap, m, hcs, hl, hm, hmm, fun i him => ?_⟩
  obtain ⟨cs', hc, ht'⟩ := hi i him
  rw [hC] at hc
  obtain ⟨ys, n', hn', hy, hlen, hyl, hf⟩ := DataW.trod_struct he ht'
  obtain ⟨_, hcl, hat⟩ := World.cells?_some hc
  refine ⟨n', fun j f hj => ?_⟩
  obtain ⟨ho, hk⟩ := hone_of hone j f hj
  have hjl : j < fs.size := (Array.getElem?_eq_some_iff.1 hj).1
  have hcell := hat j hjl
  have hv : cs'[j]? = some (cs'[j]'(by omega)) := List.getElem?_eq_getElem (by omega)
  have h1 := hf j f hj
  rw [ho, hk] at h1
  have hone' : (cs'.drop j).take 1 = [cs'[j]'(by omega)] := by
   rw [List.drop_eq_getElem_cons (by omega)]
   rfl
  rw [hone'] at h1
  have hys : ys[j]? = some (ys[j]'(by omega)) := List.getElem?_eq_getElem (by omega)
  refine ⟨_, _, ?_, h1.trans hys⟩
  rw [← Go.Deep.add_add, hcell, hv]
end
section
variable {H : Type} {enc : TypeId × Value → H} {W : World} {spare : Nat → Bool} {held : Bool}
/-- a slice of edges that came in -/
theorem edArg_of {t e : TypeId} {f0 f1 f2 : Field} {a : Option Addr} {len cap : Nat} {d : DataW H} {p : List MemPlace} (ht : Try.prog.underlying t = some (.slice e)) (he : Try.prog.underlying e = some (.struct #[f0, f1, f2]))
  (hone : oneCellFields Try.prog #[f0, f1, f2] = true) (hC : Try.prog.cellsOf e = 3) (h0 : Try.prog.underlying f0.type = some (.int .i64)) (h1 : Try.prog.underlying f1.type = some (.int .i64)) (h2 : Try.prog.underlying f2.type = some (.int .i64))
  (h : DataW.Trod enc Try.prog W 0 spare held t (.slice a len cap) d p) (hsp : ∀ b, spare b = true) : ∃ l : List Ed, l.length = len ∧ len ≤ cap ∧ cap ≤ 9223372036854775807 ∧ RdX W W.heap.size a l := by
 obtain ⟨fuel, hf⟩ := h
 rcases open_slice_fields ht he hone hC hf with hcs | ⟨x, n, c, m, hcs, hl, hm, hmm, hi⟩
 ·simp [Value.cells] at hcs
  obtain ⟨rfl, rfl, rfl⟩ := hcs
  exact ⟨[], rfl, Nat.le_refl _, by omega, RdX.nil⟩
 ·simp [Value.cells] at hcs
  obtain ⟨rfl, rfl, rfl⟩ := hcs
  have hmc : len ≤ m := by rw [hmm, hsp]; exact hl
  obtain ⟨l, hll, hp⟩ := list_of (P := fun (i : Nat) (e : Ed) => x.block < W.heap.size ∧ ∀ j u, (edc e)[j]? = some u → W.cell? (x.add (i * 3 + j)) = some u) len (fun i hil => by
   obtain ⟨k, hk⟩ := hi i (by omega)
   obtain ⟨v0, y0, c0, t0⟩ := hk 0 f0 rfl
   obtain ⟨v1, y1, c1, t1⟩ := hk 1 f1 rfl
   obtain ⟨v2, y2, c2, t2⟩ := hk 2 f2 rfl
   obtain ⟨n0, e0, _⟩ := DataW.trod_int h0 t0
   obtain ⟨n1, e1, _⟩ := DataW.trod_int h1 t1
   obtain ⟨n2, e2, _⟩ := DataW.trod_int h2 t2
   simp only [List.cons.injEq, and_true] at e0 e1 e2
   subst e0 e1 e2
   refine ⟨⟨n0, n1, n2⟩, ?_, fun j u hj => ?_⟩
   ·have := World.block_lt_of_cell? W _ c0
    rwa [block_of_add] at this
   ·match j, hj with
    | 0, hj => simp [edc] at hj; subst hj; exact c0
    | 1, hj => simp [edc] at hj; subst hj; exact c1
    | 2, hj => simp [edc] at hj; subst hj; exact c2)
  refine ⟨l, hll, hl, by simpa [maxLen] using hm, fun k e hk => ?_⟩
  obtain ⟨h1, h2⟩ := hp k e hk
  exact ⟨x, rfl, h1, h2⟩
theorem sl_of {t e : TypeId} {n : Nat} {v : Value} {y : DataW H × List MemPlace} (ht : Try.prog.underlying t = some (.slice e)) (h : DataW.trod enc Try.prog W 0 spare held n t [v] = some y) : ∃ a len cap, v = .slice a len cap := by
 rcases open_slice ht h with h0 | ⟨a, len, cap, m, n', D, Pl, hcs, _⟩
 ·have := h0.1
  simp at this
  exact ⟨_, _, _, this⟩
 ·simp at hcs
  exact ⟨_, _, _, hcs⟩
end
end Go.Proofs.Ytddhaidimadliaa

/- From a row's readings to the walks' words: an automaton by value. -/
namespace Go.Proofs.Ytddhaidimadliaa
open Go.ChangeShapes Go.WideShapes Go.ChangeAt Go.RowKit Go.Deep Go
section
variable {H : Type} {enc : TypeId × Value → H} {W : World} {spare : Nat → Bool} {held : Bool}
theorem one_at {cs : List Value} {j : Nat} {P : Program} {t : TypeId} {y : DataW H × List MemPlace} {n base : Nat} (hl : j < cs.length) (h : DataW.trod enc P W base spare held n t ((cs.drop j).take 1) = some y) : ∃ v, cs[j]? = some v ∧ DataW.trod enc P W base spare held n t [v] = some y := by
 refine ⟨cs[j], List.getElem?_eq_getElem hl, ?_⟩
 rwa [List.drop_eq_getElem_cons hl] at h
end
end Go.Proofs.Ytddhaidimadliaa

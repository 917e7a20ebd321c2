/- Walks: slices.Reverse at moves. -/
import Derived.Test.YtdnmpndnpfklcaaJl
import Derived.Test.YtdnmpndnpfklcaaUr
import Derived.Deep.MidRow
import Derived.Maps.Own
import Derived.Maps.OwnOps
import Derived.Maps.OwnSet
import Derived.Deep.CutRange

namespace Go.Proofs.Ytdnmpndnpfklcaa
open Go.RowKit Go

/-- some cells exchanged -/
def setL : List Value → Nat → List Value → List Value
  | L, _, [] => L
  | L, o, v :: vs => setL (L.set o v) (o + 1) vs
theorem setL_app : ∀ (vs A B : List Value) (o : Nat), setL (A ++ B) (A.length + o) vs = A ++ setL B o vs
  | [], _, _, _ => rfl
  | v :: vs, A, B, o => by
    rw [setL, setL, List.set_append, if_neg (by omega), show A.length + o - A.length = o by omega]
    exact setL_app vs A (B.set o v) (o + 1)
theorem Blk.sets {b : Nat} {t : TypeId} : ∀ (vs : List Value) {w : World} {L : List Value} {o : Nat}, Blk w b t L → o + vs.length ≤ L.length → Blk (w.setCells b o vs) b t (setL L o vs) ∧ w.grownBy (w.setCells b o vs) (some b)
  | [], w, L, o, h, _ => ⟨h, grown_refl _ _⟩
  | v :: vs, w, L, o, h, hl => by
    rw [List.length_cons] at hl
    have h1 := h.set (j := o) (by omega) v
    obtain ⟨h2, h3⟩ := Blk.sets vs h1 (o := o + 1) (by rw [List.length_set]; omega)
    exact ⟨h2, (grown_setCell w b o v).trans h3⟩
theorem Blk.there {b : Nat} {t : TypeId} {w : World} {L : List Value} (h : Blk w b t L) {o n : Nat} (hl : o + n ≤ L.length) : w.there b o n := fun i hi => by
  have h1 := h.cell (j := o + i) (List.getElem?_eq_getElem (by omega))
  have h2 := h.free (o + i)
  exact ⟨by rw [h1]; rfl, h2⟩
theorem step_store {P : Program} {ops : Array Oper} {o : Oper} {a : Act} {K : Act → World → Prop} {Q : Exit → Act → World → Prop} {E : Prop} {w : World} (hgd : o.guard = none) (ty : TypeId) (x y : Operand) (ho : o.op = .store ty x y)
    (b of : Nat) (cells : Array Value) (hx : a.eval x = .pointer (some ⟨b, of, none⟩)) (hy : a.eval y = .agg cells) (ht : w.there b of cells.size) (hi : (P.info? ty).map (·.size) = some cells.size) (h1 : cells.all (·.oneCell') = true)
    (h : K (a.put o.dst undef) (w.setCells b of cells.toList)) : if Region.wanted o (yielded ops a.tmps) = true then Oper.wp P o a w K Q else E := by
  rw [if_pos (by simp [Region.wanted, hgd])]
  exact wp_store_mid ty x y ho b of cells hx hy ht hi h1 h
end Go.Proofs.Ytdnmpndnpfklcaa

/- Words on maps from ints to moves; the memory of diagnosability.twin.path. -/
namespace Go.Proofs.Ytdnmpndnpfklcaa
open Go.RowKit Go Go.Maps

/-- how a move reads -/
def mvR : Value → Option (DataW Unit × List MemPlace)
  | .agg ⟨[.int .i64 a, .int .i64 b, .int .i64 c, .int .i64 d]⟩ => some (.agg [.lit (.int .i64 a), .lit (.int .i64 b), .lit (.int .i64 c), .lit (.int .i64 d)], [])
  | _ => none
def datM (x : Ed) : DataW Unit := .agg [.lit (.int .i64 x.f), .lit (.int .i64 (x.e / 3)), .lit (.int .i64 (x.e % 3)), .lit (.int .i64 x.t)]
theorem mvR_inv {v : Value} {z : DataW Unit} {ps : List MemPlace} (h : mvR v = some (z, ps)) : ∃ a b c d : Int, v = .agg #[.int .i64 a, .int .i64 b, .int .i64 c, .int .i64 d] ∧ z = .agg [.lit (.int .i64 a), .lit (.int .i64 b), .lit (.int .i64 c), .lit (.int .i64 d)] := by
  unfold mvR at h
  split at h
  · rename_i a b c d
    injection h with h
    injection h with h _
    exact ⟨a, b, c, d, rfl, h.symm⟩
  · cases h
/-- Block b is a map of at most n entries that says g. -/
def TabM (P : Program) (K : TypeId) (w : World) (b n : Nat) (g : Int → Option Ed) : Prop :=
  ∃ D : DataW Unit, w.ownsMap P K mvR b n D ∧ ∀ (a : Int) (kl : Lit), keyOf P K (.int .i64 a) = some kl → Maps.has D kl = (g a).isSome ∧ ∀ x, g a = some x → D.atKey kl (datM ⟨0, 0, 0⟩) = datM x
section
variable {P : Program} {K E : TypeId} {w w' : World} {b n : Nat} {g : Int → Option Ed}
theorem TabM.lt (h : TabM P K w b n g) : b < w.heap.size := by
  obtain ⟨D, h1, h2⟩ := h
  exact h1.lt
theorem TabM.kept (h : TabM P K w b n g) {row : Option Nat} (hg : w.grownBy w' row) (hne : some b ≠ row) : TabM P K w' b n g := by
  obtain ⟨D, h1, h2⟩ := h
  exact ⟨D, h1.kept hg hne, h2⟩
theorem TabM.block (h : TabM P K w b n g) (he : w'.heap[b]? = w.heap[b]?) : TabM P K w' b n g := by
  obtain ⟨D, ⟨es, clock, hb, F, hs, hD⟩, h2⟩ := h
  exact ⟨D, ⟨es, clock, he.trans hb, F, hs, hD⟩, h2⟩
theorem TabM.below (h : TabM P K w b n g) (hb : Below w.heap.size w w') : TabM P K w' b n g := h.block (hb.block b h.lt)
theorem TabM.made (w : World) (P : Program) (K : TypeId) : TabM P K (w.alloc (.map #[] 0)) w.heap.size 0 (fun _ => none) :=
  ⟨_, World.ownsMap_made _ _ _ _, fun a kl _ => ⟨by simp [Maps.has_eq], fun x hx => by cases hx⟩⟩
theorem TabM.ne {base : Nat} {e : TypeId} {size m : Nat} {v : Value} {xs : List Value} (h : TabM P K w b n g) (ho : w.ownsRow base e size v m xs) : some b ≠ v.ownBlock := by
  obtain ⟨D, ⟨es, clock, hb, _⟩, _⟩ := h
  intro e
  rcases ho.2 with ⟨rfl, _⟩ | ⟨q, cap, cur, rfl, _, hq, _⟩
  · cases e
  · injection e with e
    subst e
    rw [show w.heap[b]? = some (.map es clock) from hb] at hq
    cases hq
theorem TabM.neB {t : TypeId} {vs : List Value} {q : Nat} (h : TabM P K w b n g) (hk : Blk w q t vs) : b ≠ q := by
  obtain ⟨D, ⟨es, clock, hb, _⟩, _⟩ := h
  rintro rfl
  have := hk.symm.trans hb
  cases this
theorem TabM.run (h : TabM P K w b n g) {t : TypeId} (KK : Keyed P K) (ht : P.underlying t = some (.map K E)) (hz : (zeroValue E).run P w = .ok (.agg #[.int .i64 0, .int .i64 0, .int .i64 0, .int .i64 0]) w)
    (c : Int) (hk : ∃ kl, keyOf P K (.int .i64 c) = some kl) (x : Ed) (hx : g c = some x) : (Instr.lookup t (.map (some b)) (.int .i64 c) false).run P w = .ok (.agg #[.int .i64 x.f, .int .i64 (x.e / 3), .int .i64 (x.e % 3), .int .i64 x.t]) w := by
  obtain ⟨D, h1, h2⟩ := h
  obtain ⟨kl, hkl⟩ := hk
  obtain ⟨h3, h4⟩ := h2 c kl hkl
  obtain ⟨v, ps, hrun, hv⟩ := h1.lookup KK ht hz (show mvR (.agg #[.int .i64 0, .int .i64 0, .int .i64 0, .int .i64 0]) = some (datM ⟨0, 0, 0⟩, []) from rfl) hkl
  rw [h4 x hx] at hv
  obtain ⟨y1, y2, y3, y4, rfl, hz2⟩ := mvR_inv hv
  unfold datM at hz2
  simp only [DataW.agg.injEq, List.cons.injEq, DataW.lit.injEq, Lit.int.injEq, true_and, and_true] at hz2
  obtain ⟨e1, e2, e3, e4⟩ := hz2
  rw [hrun, e1, e2, e3, e4]
end
theorem intLaw : Keyed Try.prog 3 := int_keyed Try.underlying3
theorem intKey (c : Int) (h : (Lit.int .i64 c).wf = true) : ∃ kl, keyOf Try.prog 3 (.int .i64 c) = some kl := ⟨_, keyOf_int_mk Try.underlying3 h⟩
/-- path's memory: what is to be looked at, by which move each was found -/
structure PtS (B o : Nat) (w0 w : World) (tv : Value) (nt : Nat) (fr : Int) (bef : List Ed) : Prop where
  bel : Below B w0 w
  siz : B ≤ w.heap.size
  tod : w.ownsRow B 3 1 tv nt (iv (fr :: bef.map Ed.t))
  nl : bef.length + 1 = nt
  tab : TabM Try.prog 3 w o bef.length (befA bef)
  lt : B ≤ o
section
variable {B o : Nat} {w0 w w' : World} {tv : Value} {nt : Nat} {fr : Int} {bef : List Ed}
theorem PtS.quiet (h : PtS B o w0 w tv nt fr bef) (hb : Below w.heap.size w w') : PtS B o w0 w' tv nt fr bef :=
  ⟨h.bel.trans (hb.mono h.siz), Nat.le_trans h.siz hb.size, own_below h.tod hb, h.nl, h.tab.below hb, h.lt⟩
end
theorem TpI.len {es : List Ed} {n : Nat} {fr tg : Int} {bef : List Ed} (h : TpI es n fr tg bef) (he : EdR n es) : bef.length ≤ n := by
  have := nodup_le h.nd (m := rngI (n : Int)) (fun t ht => by
    obtain ⟨x, hx, rfl⟩ := List.mem_map.1 ht
    exact rngI_mem.2 (he x (h.mem x hx)).2)
  rwa [List.length_map, rngI_len, Int.toNat_natCast] at this
end Go.Proofs.Ytdnmpndnpfklcaa
/- Walks: diagnosability.Model.moves. Printed by wip/mkjg.py. -/
namespace Go.Proofs.Ytdnmpndnpfklcaa
open Go.RowKit Go

theorem TwoG.base {w00 w0 w : World} {e1 e2 : TypeId} {s1 s2 : Nat} {v1 v2 : Value} {n1 n2 : Nat} {l1 l2 : List Value} (h : TwoG w0.heap.size w0 w e1 e2 s1 s2 v1 v2 n1 n2 l1 l2) (hb : Below w00.heap.size w00 w0) : TwoG w00.heap.size w00 w e1 e2 s1 s2 v1 v2 n1 n2 l1 l2 :=
  ⟨hb.trans (h.bel.mono hb.size), Nat.le_trans hb.size h.siz, own_base h.o1 hb.size, own_base h.o2 hb.size, h.apt⟩

end Go.Proofs.Ytdnmpndnpfklcaa

/- Walks: diagnosability.Twin at a right model and class. -/
namespace Go.Proofs.Ytdnmpndnpfklcaa
open Go.RowKit Go Go.Maps

end Go.Proofs.Ytdnmpndnpfklcaa

/- Words on diagnosability.open: three rows made in any order; the moves of each pair, gathered. -/
namespace Go.Proofs.Ytdnmpndnpfklcaa
open Go.RowKit Go

/-- three blocks made, in any order -/
structure Mk3 (w0 W : World) (t1 t2 t3 : TypeId) (k1 k2 k3 : List Value) (f1 f2 f3 : Bool) (b1 b2 b3 : Nat) : Prop where
  bel : Below w0.heap.size w0 W
  m1 : f1 = true → Blk W b1 t1 k1 ∧ w0.heap.size ≤ b1
  m2 : f2 = true → Blk W b2 t2 k2 ∧ w0.heap.size ≤ b2
  m3 : f3 = true → Blk W b3 t3 k3 ∧ w0.heap.size ≤ b3
  n12 : f1 = true → f2 = true → b1 ≠ b2
  n13 : f1 = true → f3 = true → b1 ≠ b3
  n23 : f2 = true → f3 = true → b2 ≠ b3
section
variable {w0 W : World} {t1 t2 t3 : TypeId} {k1 k2 k3 : List Value} {f1 f2 f3 : Bool} {b1 b2 b3 : Nat}
theorem Mk3.bl (h : Mk3 w0 W t1 t2 t3 k1 k2 k3 f1 f2 f3 b1 b2 b3) (t : TypeId) (k : List Value) : Below w0.heap.size w0 (W.alloc (.cells k.toArray t)) := h.bel.trans ((box_below W _).mono h.bel.size)
theorem Mk3.p1 (h : Mk3 w0 W t1 t2 t3 k1 k2 k3 false f2 f3 b1 b2 b3) : Mk3 w0 (W.alloc (.cells k1.toArray t1)) t1 t2 t3 k1 k2 k3 true f2 f3 W.heap.size b2 b3 :=
  ⟨h.bl t1 k1, fun _ => ⟨Blk.new W t1 k1, h.bel.size⟩, fun e => ⟨(h.m2 e).1.al _, (h.m2 e).2⟩, fun e => ⟨(h.m3 e).1.al _, (h.m3 e).2⟩, fun _ e => Nat.ne_of_gt (h.m2 e).1.lt, fun _ e => Nat.ne_of_gt (h.m3 e).1.lt, h.n23⟩
theorem Mk3.p2 (h : Mk3 w0 W t1 t2 t3 k1 k2 k3 f1 false f3 b1 b2 b3) : Mk3 w0 (W.alloc (.cells k2.toArray t2)) t1 t2 t3 k1 k2 k3 f1 true f3 b1 W.heap.size b3 :=
  ⟨h.bl t2 k2, fun e => ⟨(h.m1 e).1.al _, (h.m1 e).2⟩, fun _ => ⟨Blk.new W t2 k2, h.bel.size⟩, fun e => ⟨(h.m3 e).1.al _, (h.m3 e).2⟩, fun e _ => Nat.ne_of_lt (h.m1 e).1.lt, h.n13, fun _ e => Nat.ne_of_gt (h.m3 e).1.lt⟩
theorem Mk3.p3 (h : Mk3 w0 W t1 t2 t3 k1 k2 k3 f1 f2 false b1 b2 b3) : Mk3 w0 (W.alloc (.cells k3.toArray t3)) t1 t2 t3 k1 k2 k3 f1 f2 true b1 b2 W.heap.size :=
  ⟨h.bl t3 k3, fun e => ⟨(h.m1 e).1.al _, (h.m1 e).2⟩, fun e => ⟨(h.m2 e).1.al _, (h.m2 e).2⟩, fun _ => ⟨Blk.new W t3 k3, h.bel.size⟩, h.n12, fun e _ => Nat.ne_of_lt (h.m1 e).1.lt, fun e _ => Nat.ne_of_lt (h.m2 e).1.lt⟩
end

end Go.Proofs.Ytdnmpndnpfklcaa

/- Walks: diagnosability.open. -/
namespace Go.Proofs.Ytdnmpndnpfklcaa
open Go.RowKit Go

theorem RkQ.zero (n : Nat) : RkQ n (List.replicate n 0, List.replicate n 0) := by
  have hg : ∀ j, gI (List.replicate n 0) j = 0 := gI_rep n
  refine ⟨List.length_replicate, List.length_replicate, fun j _ _ => .inl (hg j), fun j _ _ => ?_, fun j _ _ h => ?_⟩
  · show -1 ≤ gI (List.replicate n 0) j ∧ gI (List.replicate n 0) j ≤ _
    rw [hg]
    omega
  · rw [show gI (List.replicate n 0, List.replicate n (0 : Int)).2 j = gI (List.replicate n 0) j from rfl, hg] at h
    cases h
end Go.Proofs.Ytdnmpndnpfklcaa

/- Walks: diagnosability.twin.path. -/
namespace Go.Proofs.Ytdnmpndnpfklcaa
open Go.RowKit Go Go.Maps

theorem own_lit4 (w : World) (base : Nat) (hb : base ≤ w.heap.size) (a b c d : Value) (e : TypeId) : (w.alloc (.cells #[a, b, c, d] e)).ownsRow base e 4 (.slice (some ⟨w.heap.size, 0, none⟩) 1 1) 1 [a, b, c, d] :=
  ⟨by simp, .inr ⟨w.heap.size, 1, #[a, b, c, d], rfl, hb, heap_alloc_new w _, Nat.le_refl _, by unfold maxLen; omega, by simp, by simp⟩⟩
theorem PtS.push {B o : Nat} {w0 w w6 w7 : World} {tv : Value} {nt : Nat} {fr : Int} {bef : List Ed} {x : Ed} {A : Option Addr} {c : Nat} (h : PtS B o w0 w tv nt fr bef) (ht : TabM Try.prog 3 w6 o (bef.length + 1) (befA (bef ++ [x]))) (hg6 : w.grownBy w6 (some o))
    (ho : w7.ownsRow B 3 1 (.slice A (nt + 1) c) (nt + 1) (iv ((fr : Int) :: bef.map Ed.t) ++ [.int .i64 x.t])) (hg7 : w6.grownBy w7 tv.ownBlock) : PtS B o w0 w7 (.slice A (nt + 1) c) (nt + 1) fr (bef ++ [x]) := by
  have hl := h.lt
  have hs := h.siz
  have hs6 := hg6.size
  have hb6 : Below B w0 w6 := h.bel.grown hg6 hs (fun j hj => by injection hj with hj; omega)
  have ho6 : w6.ownsRow B 3 1 tv nt (iv (fr :: bef.map Ed.t)) := h.tod.kept hg6 (.inr (fun e => h.tab.ne h.tod e.symm))
  refine ⟨hb6.grown hg7 (by omega) (fun j hj => (ho6.lt j hj).1), Nat.le_trans (by omega) hg7.size, ?_, by rw [List.length_append, ← h.nl]; rfl, ?_, h.lt⟩
  · rw [List.map_append, ← List.cons_append, iv_append]; exact ho
  · rw [List.length_append]
    exact ht.kept hg7 (ht.ne ho6)
end Go.Proofs.Ytdnmpndnpfklcaa

/- Walks: diagnosability.twin.rank. -/
namespace Go.Proofs.Ytdnmpndnpfklcaa
open Go.RowKit Go

theorem TwP.rs.st' {w : World} {z : TwP} {q : RS} (h : z.rs w q) {i : Nat} (hi : i < z.n) (v : Int) (hq : RkQ z.n (q.1, q.2.set i v)) (hne : z.rb ≠ z.sb) : z.rs (w.setCell ⟨z.sb, i, none⟩ (.int .i64 v)) (q.1, q.2.set i v) ∧ Ex2 z.rb z.sb w (w.setCell ⟨z.sb, i, none⟩ (.int .i64 v)) := by
  have hg := grown_setCell w z.sb i (.int .i64 v)
  refine ⟨⟨h.rk.kept hg (by intro e; injection e with e; exact hne e), ?_, hq⟩, .grown2 hg⟩
  have := h.st.set (j := i) (by unfold iv; rw [List.length_map, h.q.l2]; exact hi) (.int .i64 v)
  rw [iv_set] at this
  exact this
end Go.Proofs.Ytdnmpndnpfklcaa

/- Walks: diagnosability.twin.solve, Diagnosable, Ranks. -/
namespace Go.Proofs.Ytdnmpndnpfklcaa
open Go.RowKit Go

theorem RkQ.low {n i : Nat} {q : RS} (h : RkQ n q) (hi : i < n) : RkQ n (q.1.set i (-1), q.2) := by
  have hg : ∀ j : Int, 0 ≤ j → gI (q.1.set i (-1)) j = if j = (i : Int) then -1 else gI q.1 j := fun j hj => by
    have := gI_set (l := q.1) (i := (i : Int)) (v := -1) (by omega) (by rw [h.l1]; omega) hj
    rwa [Int.toNat_natCast] at this
  refine ⟨by rw [List.length_set]; exact h.l1, h.l2, h.val, fun j h0 h1 => ?_, fun j h0 h1 hd => ?_⟩
  · show -1 ≤ gI (q.1.set i (-1)) j ∧ gI (q.1.set i (-1)) j ≤ (cnt2 q : Int) + 1
    rw [hg j h0]
    split
    · omega
    · exact h.any j h0 h1
  · show gI (q.1.set i (-1)) j ≤ (cnt2 q : Int)
    rw [hg j h0]
    split
    · omega
    · exact h.don j h0 h1 hd
end Go.Proofs.Ytdnmpndnpfklcaa

/- Walks: diagnosability.Lasso. -/
namespace Go.Proofs.Ytdnmpndnpfklcaa
open Go.RowKit Go


theorem RdR.far {α : Type} {sz : Nat} {f : α → List Value} {w w' : World} {A : Option Addr} {l : List α} {b : Nat} (h : RdR sz f w w.heap.size A l) (hg : w.grownBy w' (some b)) (hne : ∀ ad, A = some ad → ad.block ≠ b) : RdR sz f w' w'.heap.size A l := fun k e he => by
  obtain ⟨ad, e1, e2, e3⟩ := h k e he
  have h2 := hne ad e1
  exact ⟨ad, e1, Nat.lt_of_lt_of_le e2 hg.size, fun j u hj => (World.cell?_of_block (hg.block _ (by rw [block_of_add]; exact e2) (by rw [block_of_add]; intro e; injection e with e; exact h2 e))).trans (e3 j u hj)⟩
end Go.Proofs.Ytdnmpndnpfklcaa

/- Walks: the law's examples, known. Printed by wip/mkju.py. -/
namespace Go.Proofs.Ytdnmpndnpfklcaa
open Go.RowKit Go

theorem add_lit (b j : Nat) : (⟨b, 0, none⟩ : Addr).add j = ⟨b, j, none⟩ := by
  rw [Addr.add_mid, Nat.zero_add]
theorem rdI_blk {w : World} {b : Nat} {t : TypeId} {l : List Int} (h : Blk w b t (iv l)) : RdI w w.heap.size (some ⟨b, 0, none⟩) l := fun k u hu => ⟨_, rfl, h.lt, by rw [add_lit]; exact h.cell hu⟩
theorem rdR_blk {α : Type} {sz : Nat} {f : α → List Value} {w : World} {b : Nat} {t : TypeId} {l : List α} (hs : ∀ x ∈ l, (f x).length = sz) (h : Blk w b t (l.flatMap f)) : RdR sz f w w.heap.size (some ⟨b, 0, none⟩) l :=
  fun k x hx => ⟨_, rfl, h.lt, fun j u hj => by rw [add_lit]; exact h.cell (flat_get f sz l hs k x j u hx hj)⟩
theorem rdX_blk {w : World} {b : Nat} {t : TypeId} {l : List Ed} (h : Blk w b t (l.flatMap edc)) : RdX w w.heap.size (some ⟨b, 0, none⟩) l := rdR_blk (fun _ _ => rfl) h
end Go.Proofs.Ytdnmpndnpfklcaa

/- Walks: known. -/
namespace Go.Proofs.Ytdnmpndnpfklcaa
open Go.RowKit Go

end Go.Proofs.Ytdnmpndnpfklcaa

/- Words on the product's machine: tables of edges; the machine's value. -/
import Derived.Test.YtbdliebjalghmaaDoorSe
import Derived.Test.YtbdliebjalghmaaDoorAc
import Derived.DeepKeys4
import Derived.MapViews
import Derived.ProofKit
namespace Go.Proofs.YtbdliebjalghmaaDoor
open Go.RowKit Go Go.Maps

theorem laidOut : laidOutB Tryd.prog = true := by kernel_rfl
theorem pairLaw_any {P : Program} {t e : TypeId} (ht : P.underlying t = some (.array 2 e)) (hl : laidOutB P = true) (hrow : t < P.types.size) (hk : P.keyTypeAt 2 t = true) : WideMaps.KeyLaw P t := deep_law_laid hl (m := 2) (by omega) hrow hk (by rw [ht])
theorem pairLaw : Keyed Tryd.prog 106 := Keyed.of_law (pairLaw_any Tryd.underlying106 laidOut (of_decide_eq_true (by kernel_rfl)) (by kernel_rfl))
theorem pairCells : Tryd.prog.cellsOf 106 = 2 := by kernel_rfl
theorem intCells : Tryd.prog.cellsOf 3 = 1 := by kernel_rfl
def kP (p : Int × Int) : Value := .agg #[.int .i64 p.1, .int .i64 p.2]
theorem kP_inj {p q : Int × Int} (h : kP p = kP q) : p = q := by
  unfold kP at h
  injection h with h
  simp at h
  exact Prod.ext h.1 h.2
theorem pairKey_any {P : Program} {t e : TypeId} (ht : P.underlying t = some (.array 2 e)) (he : P.underlying e = some (.int .i64)) (hc : P.cellsOf t = 2) (hce : P.cellsOf e = 1) (hk : P.keyTypeAt (P.types.size + 1) t = true) (w : World) (x y : Int) (hx : (Lit.int .i64 x).wf = true) (hy : (Lit.int .i64 y).wf = true) : ∃ kl, keyOf P t (kP (x, y)) = some kl := by
  have hd : DataW.Trod (H := Unit) (fun _ => ()) P w 0 (fun _ => true) true t (kP (x, y)) (.agg [.lit (.int .i64 x), .lit (.int .i64 y)]) [] := by
    refine ⟨2, ?_⟩
    simp [DataW.trod, kP, Value.cells, ht, he, hc, hce, hx, hy, List.range, List.range.loop]
  exact ⟨_, (keyOf_asKey hk (by rw [ht]) (by simp [Value.formed, kP, ht, hc]) hd).1⟩
set_option maxRecDepth 100000 in
theorem pairKey (w : World) (x y : Int) (hx : (Lit.int .i64 x).wf = true) (hy : (Lit.int .i64 y).wf = true) : ∃ kl, keyOf Tryd.prog 106 (kP (x, y)) = some kl :=
  pairKey_any Tryd.underlying106 Tryd.underlying3 pairCells intCells (by kernel_rfl) w x y hx hy
theorem zeroInt (w : World) : (zeroValue 3).run Tryd.prog w = .ok (.int .i64 0) w := by kernel_rfl
/-- Block b is a map that says the edges. -/
def TabE (w : World) (b n : Nat) (l : List Ed) : Prop := TabI Tryd.prog 106 3 kP w b n (fun p => lkE p.1 p.2 l)
/-- A slice of such maps. -/
def RdG (w : World) (B : Nat) (A : Option Addr) (l : List Aut) : Prop :=
  ∀ k a, l[k]? = some a → ∃ ad b m, A = some ad ∧ ad.block < B ∧ b < B ∧ w.cell? (ad.add k) = some (.map (some b)) ∧ TabE w b m a.ed
theorem RdG.below {w w' : World} {B : Nat} {A : Option Addr} {l : List Aut} (h : RdG w B A l) (hb : Below B w w') : RdG w' B A l := fun k a ha => by
  obtain ⟨ad, b, m, e, h1, h2, h3, h4⟩ := h k a ha
  exact ⟨ad, b, m, e, h1, h2, (hb.cell (by rw [block_of_add]; exact h1)).trans h3, TabI.below h4 hb h2⟩
theorem RdG.more {w : World} {B B' : Nat} {A : Option Addr} {l : List Aut} (h : RdG w B A l) (hB : B ≤ B') : RdG w B' A l := fun k a ha => by
  obtain ⟨ad, b, m, e, h1, h2, h3, h4⟩ := h k a ha
  exact ⟨ad, b, m, e, by omega, by omega, h3, h4⟩
theorem RdG.after {w w' : World} {B B' : Nat} {A : Option Addr} {l : List Aut} (h : RdG w B A l) (hb : Below B' w w') (hB : B ≤ B') : RdG w' B A l := h.below (hb.mono hB)
/-- The machine's three slices. -/
structure MachR (w : World) (B : Nat) (L : Option Addr) (n c : Nat) (V : Option Addr) (nv cv : Nat) (G : Option Addr) (cg : Nat) (xs : List AV) : Prop where
  ll : xs.length = n
  lc : n ≤ c
  cL : c ≤ 9223372036854775807
  rl : RdL w B L xs
  lv : (evs (xs.map AV.a)).length = nv
  vc : nv ≤ cv
  cV : cv ≤ 9223372036854775807
  rv : RdI w B V (evs (xs.map AV.a))
  gc : n ≤ cg
  cG : cg ≤ 9223372036854775807
  rg : RdG w B G (xs.map AV.a)
section
variable {w w' : World} {B B' : Nat} {L V G : Option Addr} {n c nv cv cg : Nat} {xs : List AV}
theorem MachR.below (h : MachR w B L n c V nv cv G cg xs) (hb : Below B w w') : MachR w' B L n c V nv cv G cg xs :=
  ⟨h.ll, h.lc, h.cL, h.rl.below hb, h.lv, h.vc, h.cV, h.rv.below hb, h.gc, h.cG, h.rg.below hb⟩
theorem MachR.more (h : MachR w B L n c V nv cv G cg xs) (hB : B ≤ B') : MachR w B' L n c V nv cv G cg xs :=
  ⟨h.ll, h.lc, h.cL, h.rl.more hB, h.lv, h.vc, h.cV, h.rv.more hB, h.gc, h.cG, h.rg.more hB⟩
theorem MachR.after (h : MachR w B L n c V nv cv G cg xs) (hb : Below B' w w') (hB : B ≤ B') : MachR w' B L n c V nv cv G cg xs := h.below (hb.mono hB)
end
/-- The same, its own rows all above block r, the arguments below it. -/
def RdGF (w : World) (r B : Nat) (A : Option Addr) (l : List Aut) : Prop :=
  ∀ k a, l[k]? = some a → ∃ ad b m, A = some ad ∧ r < ad.block ∧ ad.block < B ∧ r < b ∧ b < B ∧ w.cell? (ad.add k) = some (.map (some b)) ∧ TabE w b m a.ed
structure MachF (w : World) (r B : Nat) (L : Option Addr) (n c : Nat) (V : Option Addr) (nv cv : Nat) (G : Option Addr) (cg : Nat) (xs : List AV) : Prop where
  ll : xs.length = n
  lc : n ≤ c
  cL : c ≤ 9223372036854775807
  rl : RdL w r L xs
  lv : (evs (xs.map AV.a)).length = nv
  vc : nv ≤ cv
  cV : cv ≤ 9223372036854775807
  rv : RdI w B V (evs (xs.map AV.a))
  fv : ∀ ad, V = some ad → r < ad.block
  gc : n ≤ cg
  cG : cg ≤ 9223372036854775807
  rg : RdGF w r B G (xs.map AV.a)
section
variable {w w' : World} {r B B' : Nat} {L V G : Option Addr} {n c nv cv cg : Nat} {xs : List AV}
theorem MachF.mach (h : MachF w r B L n c V nv cv G cg xs) (hr : r ≤ B) : MachR w B L n c V nv cv G cg xs :=
  ⟨h.ll, h.lc, h.cL, h.rl.more hr, h.lv, h.vc, h.cV, h.rv, h.gc, h.cG, fun k a ha => by
    obtain ⟨ad, b, m, e, _, h2, _, h4, h5, h6⟩ := h.rg k a ha
    exact ⟨ad, b, m, e, h2, h4, h5, h6⟩⟩
theorem MachF.keep (h : MachF w r B L n c V nv cv G cg xs) (hr : r ≤ B) (hk : ∀ k, k < B → k ≠ r → w'.heap[k]? = w.heap[k]?) : MachF w' r B L n c V nv cv G cg xs := by
  refine ⟨h.ll, h.lc, h.cL, h.rl.keep fun p hp => World.cell?_of_block (hk _ (by omega) (by omega)), h.lv, h.vc, h.cV, ?_, h.fv, h.gc, h.cG, fun k a ha => ?_⟩
  · intro k u hu
    obtain ⟨ad, e, hb, hc⟩ := h.rv k u hu
    have := h.fv ad e
    exact ⟨ad, e, hb, (World.cell?_of_block (hk _ (by rw [block_of_add]; exact hb) (by rw [block_of_add]; omega))).trans hc⟩
  · obtain ⟨ad, b, m, e, h1, h2, h3, h4, h5, h6⟩ := h.rg k a ha
    exact ⟨ad, b, m, e, h1, h2, h3, h4, (World.cell?_of_block (hk _ (by rw [block_of_add]; exact h2) (by rw [block_of_add]; omega))).trans h5, TabI.block h6 (hk b h4 (by omega))⟩
theorem MachF.more (h : MachF w r B L n c V nv cv G cg xs) (hB : B ≤ B') : MachF w r B' L n c V nv cv G cg xs :=
  ⟨h.ll, h.lc, h.cL, h.rl, h.lv, h.vc, h.cV, h.rv.more hB, h.fv, h.gc, h.cG, fun k a ha => by
    obtain ⟨ad, b, m, e, h1, h2, h3, h4, h5, h6⟩ := h.rg k a ha
    exact ⟨ad, b, m, e, h1, by omega, h3, by omega, h5, h6⟩⟩
end
end Go.Proofs.YtbdliebjalghmaaDoor

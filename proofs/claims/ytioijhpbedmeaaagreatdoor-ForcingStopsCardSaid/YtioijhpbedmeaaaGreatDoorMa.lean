/- Words on the product's machine: tables of edges; the machine's value. -/
import Derived.Test.YtioijhpbedmeaaaGreatDoorSa
import Derived.Test.YtioijhpbedmeaaaGreatDoorAa
import Derived.DeepKeys4
import Derived.MapViews
import Derived.ProofKit
import Derived.Test.YtioijhpbedmeaaaGreatDoorQa
namespace Go.Proofs.YtioijhpbedmeaaaGreatDoor
open Go.RowKit Go Go.Maps

theorem laidOut : laidOutB Tryz.prog = true := by kernel_rfl
theorem pairLaw_any {P : Program} {t e : TypeId} (ht : P.underlying t = some (.array 2 e)) (hl : laidOutB P = true) (hrow : t < P.types.size) (hk : P.keyTypeAt 2 t = true) : WideMaps.KeyLaw P t := deep_law_laid hl (m := 2) (by omega) hrow hk (by rw [ht])
theorem pairLaw : Keyed Tryz.prog 45 := Keyed.of_law (pairLaw_any Tryz.underlying45 laidOut (of_decide_eq_true (by kernel_rfl)) (by kernel_rfl))
theorem pairCells : Tryz.prog.cellsOf 45 = 2 := by kernel_rfl
theorem intCells : Tryz.prog.cellsOf 3 = 1 := by kernel_rfl
def kP (p : Int × Int) : Value := .agg #[.int .i64 p.1, .int .i64 p.2]
theorem kP_inj {p q : Int × Int} (h : kP p = kP q) : p = q := by
 unfold kP at h
 injection h with h
 simp at h
 exact Prod.ext h.1 h.2
theorem pairKey_any {P : Program} {t e : TypeId} (ht : P.underlying t = some (.array 2 e)) (he : P.underlying e = some (.int .i64)) (hc : P.cellsOf t = 2) (hce : P.cellsOf e = 1) (hk : P.keyTypeAt (P.types.size + 1) t = true) (w : World) (x y : Int) (hx : (Lit.int .i64 x).wf = true) (hy : (Lit.int .i64 y).wf = true) : ∃ kl, keyOf P t (kP (x, y)) = some kl := by
 have hd : DataW.Trod (H := Unit) (fun _ => ()) P w 0 (fun _ => true) true t (kP (x, y)) (.agg [.lit (.int .i64 x), .lit (.int .i64 y)]) [] := by
  refine ⟨2, ?_⟩
  simp [DataW.trod, kP, Value.cells, ht, he, hc, hce, hx, hy, List.range, List.range.loop]
 exact ⟨_, (keyOf_asKey hk (by rw [ht]) (by simp [Value.formed, kP, ht, hc]) hd).1⟩
set_option maxRecDepth 100000 in
theorem pairKey (w : World) (x y : Int) (hx : (Lit.int .i64 x).wf = true) (hy : (Lit.int .i64 y).wf = true) : ∃ kl, keyOf Tryz.prog 45 (kP (x, y)) = some kl :=
 pairKey_any Tryz.underlying45 Tryz.underlying3 pairCells intCells (by kernel_rfl) w x y hx hy
/-- Block b is a map that says the edges. -/
def TabE (w : World) (b n : Nat) (l : List Ed) : Prop := TabI Tryz.prog 45 3 kP w b n (fun p => lkE p.1 p.2 l)
/-- A slice of such maps. -/
def RdG (w : World) (B : Nat) (A : Option Addr) (l : List Aut) : Prop :=
 ∀ k a, l[k]? = some a → ∃ ad b m, A = some ad ∧ ad.block < B ∧ b < B ∧ w.cell? (ad.add k) = some (.map (some b)) ∧ TabE w b m a.ed
theorem RdG.below {w w' : World} {B : Nat} {A : Option Addr} {l : List Aut} (h : RdG w B A l) (hb : Below B w w') : RdG w' B A l := fun k a ha => by
 obtain ⟨ad, b, m, e, h1, h2, h3, h4⟩ := h k a ha
 exact ⟨ad, b, m, e, h1, h2, (hb.cell (by rw [block_of_add]; exact h1)).trans h3, TabI.below h4 hb h2⟩
theorem RdG.more {w : World} {B B' : Nat} {A : Option Addr} {l : List Aut} (h : RdG w B A l) (hB : B ≤ B') : RdG w B' A l := fun k a ha => by
 obtain ⟨ad, b, m, e, h1, h2, h3, h4⟩ := h k a ha
 exact ⟨ad, b, m, e, by omega, by omega, h3, h4⟩
theorem RdG.after {w w' : World} {B B' : Nat} {A : Option Addr} {l : List Aut} (h : RdG w B A l) (hb : Below B' w w') (hB : B ≤ B') : RdG w' B A l := h.below (hb.mono hB)
/-- The machine's three slices. -/
structure MachR (w : World) (B : Nat) (L : Option Addr) (n c : Nat) (V : Option Addr) (nv cv : Nat) (G : Option Addr) (cg : Nat) (xs : List AV) : Prop where
 ll : xs.length = n
 lc : n ≤ c
 cL : c ≤ 9223372036854775807
 rl : RdL w B L xs
 lv : (evs (xs.map AV.a)).length = nv
 vc : nv ≤ cv
 cV : cv ≤ 9223372036854775807
 rv : RdI w B V (evs (xs.map AV.a))
 gc : n ≤ cg
 cG : cg ≤ 9223372036854775807
 rg : RdG w B G (xs.map AV.a)
section
variable {w w' : World} {B B' : Nat} {L V G : Option Addr} {n c nv cv cg : Nat} {xs : List AV}
theorem MachR.below (h : MachR w B L n c V nv cv G cg xs) (hb : Below B w w') : MachR w' B L n c V nv cv G cg xs :=
 ⟨h.ll, h.lc, h.cL, h.rl.below hb, h.lv, h.vc, h.cV, h.rv.below hb, h.gc, h.cG, h.rg.below hb⟩
theorem MachR.more (h : MachR w B L n c V nv cv G cg xs) (hB : B ≤ B') : MachR w B' L n c V nv cv G cg xs :=
 ⟨h.ll, h.lc, h.cL, h.rl.more hB, h.lv, h.vc, h.cV, h.rv.more hB, h.gc, h.cG, h.rg.more hB⟩
theorem MachR.after (h : MachR w B L n c V nv cv G cg xs) (hb : Below B' w w') (hB : B ≤ B') : MachR w' B L n c V nv cv G cg xs := h.below (hb.mono hB)
end
/-- The same, its own rows all above block r, the arguments below it. -/
def RdGF (w : World) (r B : Nat) (A : Option Addr) (l : List Aut) : Prop :=
 ∀ k a, l[k]? = some a → ∃ ad b m, A = some ad ∧ r < ad.block ∧ ad.block < B ∧ r < b ∧ b < B ∧ w.cell? (ad.add k) = some (.map (some b)) ∧ TabE w b m a.ed
structure MachF (w : World) (r B : Nat) (L : Option Addr) (n c : Nat) (V : Option Addr) (nv cv : Nat) (G : Option Addr) (cg : Nat) (xs : List AV) : Prop where
 ll : xs.length = n
 lc : n ≤ c
 cL : c ≤ 9223372036854775807
 rl : RdL w r L xs
 lv : (evs (xs.map AV.a)).length = nv
 vc : nv ≤ cv
 cV : cv ≤ 9223372036854775807
 rv : RdI w B V (evs (xs.map AV.a))
 fv : ∀ ad, V = some ad → r < ad.block
 gc : n ≤ cg
 cG : cg ≤ 9223372036854775807
 rg : RdGF w r B G (xs.map AV.a)
section
variable {w w' : World} {r B B' : Nat} {L V G : Option Addr} {n c nv cv cg : Nat} {xs : List AV}
theorem MachF.mach (h : MachF w r B L n c V nv cv G cg xs) (hr : r ≤ B) : MachR w B L n c V nv cv G cg xs :=
 ⟨h.ll, h.lc, h.cL, h.rl.more hr, h.lv, h.vc, h.cV, h.rv, h.gc, h.cG, fun k a ha => by
  obtain ⟨ad, b, m, e, _, h2, _, h4, h5, h6⟩ := h.rg k a ha
  exact ⟨ad, b, m, e, h2, h4, h5, h6⟩⟩
theorem MachF.keep (h : MachF w r B L n c V nv cv G cg xs) (hr : r ≤ B) (hk : ∀ k, k < B → k ≠ r → w'.heap[k]? = w.heap[k]?) : MachF w' r B L n c V nv cv G cg xs := by
 refine ⟨h.ll, h.lc, h.cL, h.rl.keep fun p hp => World.cell?_of_block (hk _ (by omega) (by omega)), h.lv, h.vc, h.cV, ?_, h.fv, h.gc, h.cG, fun k a ha => ?_⟩
 ·intro k u hu
  obtain ⟨ad, e, hb, hc⟩ := h.rv k u hu
  have := h.fv ad e
  exact ⟨ad, e, hb, (World.cell?_of_block (hk _ (by rw [block_of_add]; exact hb) (by rw [block_of_add]; omega))).trans hc⟩
 ·obtain ⟨ad, b, m, e, h1, h2, h3, h4, h5, h6⟩ := h.rg k a ha
  exact ⟨ad, b, m, e, h1, h2, h3, h4, (World.cell?_of_block (hk _ (by rw [block_of_add]; exact h2) (by rw [block_of_add]; omega))).trans h5, TabI.block h6 (hk b h4 (by omega))⟩
theorem MachF.more (h : MachF w r B L n c V nv cv G cg xs) (hB : B ≤ B') : MachF w r B' L n c V nv cv G cg xs :=
 ⟨h.ll, h.lc, h.cL, h.rl, h.lv, h.vc, h.cV, h.rv.more hB, h.fv, h.gc, h.cG, fun k a ha => by
  obtain ⟨ad, b, m, e, h1, h2, h3, h4, h5, h6⟩ := h.rg k a ha
  exact ⟨ad, b, m, e, h1, by omega, h3, by omega, h5, h6⟩⟩
end
end Go.Proofs.YtioijhpbedmeaaaGreatDoor

/- Walks: product.open. -/
namespace Go.Proofs.YtioijhpbedmeaaaGreatDoor
open Go.RowKit Go Go.Maps

theorem map_info : (Tryz.prog.info? 150).map (fun i => (i.zero, i.size, i.bytes)) = some (some (.map none), 1, 8) := by kernel_rfl
def mpv (gl : List Nat) : List Value := gl.map (fun b => .map (some b))
/-- the maps made so far -/
def MapsR (w : World) (B : Nat) (gl : List Nat) (l : List Aut) : Prop := gl.length = l.length ∧ ∀ (j b : Nat) (a : Aut), gl[j]? = some b → l[j]? = some a → B ≤ b ∧ ∃ m, TabE w b m a.ed
theorem MapsR.step {w w' : World} {B bm m : Nat} {gl : List Nat} {l : List Aut} {a : Aut} (h : MapsR w B gl l) (hk : ∀ b n ed, TabE w b n ed → B ≤ b → TabE w' b n ed) (hB : B ≤ bm) (ht : TabE w' bm m a.ed) : MapsR w' B (gl ++ [bm]) (l ++ [a]) := by
 refine ⟨by simp [h.1], fun j b x hb hx => ?_⟩
 rcases Nat.lt_or_ge j gl.length with hj | hj
 ·rw [List.getElem?_append_left hj] at hb
  rw [List.getElem?_append_left (by rw [← h.1]; exact hj)] at hx
  obtain ⟨h1, n, h2⟩ := h.2 j b x hb hx
  exact ⟨h1, n, hk b n _ h2 h1⟩
 ·rw [List.getElem?_append_right hj] at hb
  rw [List.getElem?_append_right (by rw [← h.1]; exact hj)] at hx
  have hj0 : j - gl.length = 0 := by
   rcases Nat.eq_zero_or_pos (j - gl.length) with h0 | h0
   ·exact h0
   ·rw [List.getElem?_eq_none (by simp; omega)] at hb; cases hb
  rw [hj0] at hb
  rw [← h.1, hj0] at hx
  simp at hb hx
  subst hb hx
  exact ⟨hB, m, ht⟩
theorem tab_ne_own {w : World} {b n : Nat} {ed : List Ed} (h : TabE w b n ed) {base : Nat} {e : TypeId} {size m : Nat} {v : Value} {xs : List Value} (ho : w.ownsRow base e size v m xs) : some b ≠ v.ownBlock := by
 obtain ⟨D, ⟨es, clock, hb, _⟩, _⟩ := h
 rcases ho.2 with ⟨rfl, _⟩ | ⟨g, cap, cur, rfl, _, hg, _⟩
 ·simp [Value.ownBlock]
 ·intro he
  simp only [Value.ownBlock, Option.some.injEq] at he
  subst he
  rw [hb] at hg; cases hg
theorem open_step {wr wi w' : World} {mb bm m k : Nat} {gl : List Nat} {gv v' : Value} {l : List Aut} {a : Aut} (hM : MapsR wr (mb + 1) gl l) (h1 : wr.grownBy wi (some bm)) (hbm : wr.heap.size ≤ bm) (hmb : mb + 1 ≤ bm)
  (ho : wi.ownsRow (mb + 1) 150 1 gv k (mpv gl)) (h2 : wi.grownBy w' gv.ownBlock) (hT : TabE wi bm m a.ed) : MapsR (w'.setCell ⟨mb, 2, none⟩ v') (mb + 1) (gl ++ [bm]) (l ++ [a]) := by
 refine hM.step (fun b n ed ht hB => ?_) hmb (m := m) ?_
 ·have hlt : b < wr.heap.size := TabI.lt ht
  have t1 : TabE wi b n ed := TabI.kept ht h1 (fun e => by injection e with e; omega)
  have t2 : TabE w' b n ed := TabI.kept t1 h2 (tab_ne_own t1 ho)
  exact TabI.kept t2 (grown_setCell w' mb 2 v') (fun e => by injection e with e; omega)
 ·have t2 : TabE w' bm m a.ed := TabI.kept hT h2 (tab_ne_own hT ho)
  exact TabI.kept t2 (grown_setCell w' mb 2 v') (fun e => by injection e with e; omega)
theorem own_kept_new {w w' : World} {base bm : Nat} {e : TypeId} {size n : Nat} {v : Value} {xs : List Value} (h : w.ownsRow base e size v n xs) (hg : w.grownBy w' (some bm)) (hb : w.heap.size ≤ bm) : w'.ownsRow base e size v n xs := by
 refine h.kept hg ?_
 cases hv : v.ownBlock with
 | none => exact .inl rfl
 | some g =>
  right
  have := (h.lt g hv).2
  intro e; injection e with e; omega
theorem own_shape {w : World} {base : Nat} {e : TypeId} {size n : Nat} {v : Value} {xs : List Value} (h : w.ownsRow base e size v n xs) : ∃ A c, v = .slice A n c := by
 rcases h.2 with ⟨rfl, rfl⟩ | ⟨g, cap, cur, rfl, _⟩
 ·exact ⟨_, _, rfl⟩
 ·exact ⟨_, _, rfl⟩
theorem own_cap' {w : World} {base : Nat} {e : TypeId} {size n cap : Nat} {A : Option Addr} {xs : List Value} (h : w.ownsRow base e size (.slice A n cap) n xs) : n ≤ cap ∧ cap ≤ 9223372036854775807 := by
 rcases h.2 with ⟨h', h0⟩ | ⟨g', cap', cur, h', _, _, hnc, hcm, _⟩
 ·injection h' with _ _ h'
  subst h' h0; exact ⟨Nat.le_refl _, by omega⟩
 ·injection h' with _ _ h'
  subst h'
  exact ⟨hnc, by simpa [maxLen] using hcm⟩
theorem rdg_of {w : World} {r base B n cg : Nat} {G : Option Addr} {gl : List Nat} {l : List Aut} (ho : w.ownsRow base 150 1 (.slice G n cg) n (mpv gl)) (hM : MapsR w B gl l) (h1 : r < base) (h2 : r < B) : RdGF w r w.heap.size G l := fun k a ha => by
 have hk : k < gl.length := by rw [hM.1]; exact (List.getElem?_eq_some_iff.1 ha).1
 have hb : gl[k]? = some gl[k] := List.getElem?_eq_getElem hk
 obtain ⟨h3, m, ht⟩ := hM.2 k _ a hb ha
 obtain ⟨ad, e, hlt, hc⟩ := RdV.of_own ho k (.map (some gl[k])) (by simp [mpv, hb])
 subst e
 have hba := (ho.lt ad.block rfl).1
 exact ⟨ad, gl[k], m, rfl, by omega, hlt, by omega, TabI.lt ht, hc, ht⟩
theorem MapsR.kept {w w' : World} {B r : Nat} {gl : List Nat} {l : List Aut} (h : MapsR w B gl l) (hg : w.grownBy w' (some r)) (hr : r < B) : MapsR w' B gl l := ⟨h.1, fun j b a hb ha => by
 obtain ⟨h1, m, h2⟩ := h.2 j b a hb ha
 exact ⟨h1, m, TabI.kept h2 hg (fun e => by injection e with e; omega)⟩⟩
theorem own_kept_low {w w' : World} {base r : Nat} {e : TypeId} {size n : Nat} {v : Value} {xs : List Value} (h : w.ownsRow base e size v n xs) (hg : w.grownBy w' (some r)) (hb : r < base) : w'.ownsRow base e size v n xs := by
 refine h.kept hg ?_
 cases hv : v.ownBlock with
 | none => exact .inl rfl
 | some g =>
  right
  have := (h.lt g hv).1
  intro e; injection e with e; omega
theorem mpv_snoc (gl : List Nat) (b : Nat) : mpv (gl ++ [b]) = mpv gl ++ [.map (some b)] := by simp [mpv]
/-- What open hands back. -/
def RetMch (r : Nat) (L : Option Addr) (n c : Nat) (xs : List AV) (w : World) (e : Ending) (w' : World) : Prop :=
 ∃ V nv cv G cg, e = .returned (.agg #[.slice L n c, .slice V nv cv, .slice G n cg]) ∧ MachF w' r w'.heap.size L n c V nv cv G cg xs ∧ Below w.heap.size w w'

set_option maxRecDepth 100000 in
set_option maxHeartbeats 3200000 in
theorem product_open (L : Option Addr) (c n : Nat) (xs : List AV) (w : World) (r : Nat) (hl : xs.length = n) (h0 : RdL w r L xs) (hr : r ≤ w.heap.size) (hc1 : n ≤ c) (hc2 : c ≤ 9223372036854775807) (hn : n ≤ 12) (hw : ∀ a ∈ xs.map AV.a, WF a) :
  Calls Tryz.prog 75 #[.slice L n c] w (RetMch r L n c xs w) := by
 have h := h0.more hr
 have hmm := @run_makeMap Tryz.prog
 have hB0 := box_below w (.cells #[.slice none 0 0, .slice none 0 0, .slice none 0 0] 122)
 have HEV := Lib.hid (product_events L c n xs _ hl ((h.below hB0).more hB0.size) hc1 hc2 hw)
 have hr0 : Blk (w.alloc (.cells #[.slice none 0 0, .slice none 0 0, .slice none 0 0] 122)) w.heap.size 122 [.slice none 0 0, .slice none 0 0, .slice none 0 0] := Blk.new _ _ _
 have HR0 := Lib.hid hr0; clear hr0
 have HL := Lib.hid hl; clear hl
 have HW := Lib.hid hw; clear hw
 go_enter Tryz.func75, Tryz.ntmps75
 go_wp2_with fail
 refine HEV.out.mono ?_
 rintro e w2 ⟨v, rfl, ho, hb⟩
 have hs2 := hb.size
 have ho0 := ho
 obtain ⟨V, cv, rfl, gv1, gv2, gv3⟩ := own_slI ho
 obtain ⟨nv, hnv⟩ : ∃ nv, (evs (xs.map AV.a)).length = nv := ⟨_, rfl⟩
 rw [hnv] at gv1 ⊢
 have HB2 := Lib.hid (hB0.trans (hb.mono hB0.size))
 have HR2 := Lib.hid (HR0.out.below hb (by simp))
 have HV := Lib.hid ho0
 have HNV := Lib.hid hnv; clear hnv
 clear HEV HR0 ho ho0 hb gv3
 have hbk := Blk.new w2 122 [.slice L n c, .slice V nv cv, .slice none 0 0]
 have HBK := Lib.hid hbk; clear hbk
 go_wp2
 go_loopw [15] (fun s15 wr => ∃ (k : Nat) (gl : List Nat) (gv : Value), k ≤ n ∧ s15 = .int .i64 k ∧ Hid (Blk wr w2.heap.size 122 [.slice L n c, .slice V nv cv, gv]) ∧ Hid (wr.ownsRow (w2.heap.size + 1) 150 1 gv k (mpv gl)) ∧ Hid (MapsR wr (w2.heap.size + 1) gl ((xs.map AV.a).take k)) ∧ Below w2.heap.size w2 wr) (fun s15 _ => n - (intOf s15).toNat)
 case atStart => exact ⟨0, [], _, Nat.zero_le _, rfl, HBK, Lib.hid (World.ownsRow_nil _ _ _ _), Lib.hid ⟨rfl, fun j b a hb => by simp at hb⟩, box_below _ _⟩
 case round =>
  obtain ⟨k, gl, gv, hk, rfl, HB, HO, HM, hbel2⟩ := hrel
  clear HBK
  obtain ⟨wo, rfl⟩ : ∃ wo : World, wo = wr := ⟨_, rfl⟩
  have hsz2 : w2.heap.size + 1 ≤ wo.heap.size := HB.out.lt
  have hbel : Below w.heap.size w wo := HB2.out.trans (hbel2.mono (HB2.out.size))
  have hsz := hbel.size
  by_cases hlt : k < n
  ·obtain ⟨ad, A', na, ca, M, nm, cm, E, ne, ce, a, rfl, hbb, hx, q0, q1, q2, q3, haR⟩ := ((h.below hbel).more hsz).at_ (k := k) (by have := HL.out; omega)
   have b1 : (k : Int) < (n : Int) := by omega
   have p1 : wo.cell? ⟨(ad.add (k * 4)).block, (ad.add (k * 4)).off + 1, none⟩ = some (.int .i64 a.st) := st_cells (j := 0) q1
   have p2 : wo.cell? ⟨(ad.add (k * 4)).block, (ad.add (k * 4)).off + 2, none⟩ = some (.slice M nm cm) := st_cells (j := 1) q2
   have p3 : wo.cell? ⟨(ad.add (k * 4)).block, (ad.add (k * 4)).off + 3, none⟩ = some (.slice E ne ce) := st_cells (j := 2) q3
   clear q1 q2 q3
   have hxa : (xs.map AV.a)[k]? = some a := by simp [hx]
   have hwa := HW.out a (List.mem_of_getElem? hxa)
   have HEI := Lib.hid hwa.einc
   have hre := haR.re
   have hle := haR.le
   have hec := haR.ec
   have hcE := haR.cE
   have hedl := hwa.ed_le
   rw [hle] at hedl
   have HEV := Lib.hid (fun (x : Ed) (hx : x ∈ a.ed) => hwa.ev_rng hx)
   have hst1 := hwa.st1
   have HLE := Lib.hid hle; clear hle
   have HXA := Lib.hid hxa; clear hxa
   have HX := Lib.hid hx; clear hx
   have HWA := Lib.hid hwa; clear hwa
   clear haR
   go_wp2
   have hg0 : wo.grownBy ((wo.alloc (.cells #[.slice A' na ca, .int .i64 a.st, .slice M nm cm, .slice E ne ce] 33)).alloc (.map #[] 0)) (some (wo.heap.size + 1)) := (grown_alloc _ _ _).trans (grown_alloc _ _ _)
   have hT0 : TabE ((wo.alloc (.cells #[.slice A' na ca, .int .i64 a.st, .slice M nm cm, .slice E ne ce] 33)).alloc (.map #[] 0)) (wo.heap.size + 1) 0 (a.ed.take 0) := by
    have := TabI.made (wo.alloc (.cells #[.slice A' na ca, .int .i64 a.st, .slice M nm cm, .slice E ne ce] 33)) Tryz.prog 45 3 kP
    rw [show (wo.alloc (.cells #[.slice A' na ca, .int .i64 a.st, .slice M nm cm, .slice E ne ce] 33)).heap.size = wo.heap.size + 1 by simp] at this
    exact this
   have HG0 := Lib.hid hg0; clear hg0
   have HT0 := Lib.hid hT0; clear hT0
   go_loopw [23] (fun s23 wi => ∃ q : Nat, q ≤ ne ∧ s23 = .int .i64 q ∧ Hid (TabE wi (wo.heap.size + 1) q (a.ed.take q)) ∧ Hid (wo.grownBy wi (some (wo.heap.size + 1)))) (fun s23 _ => ne - (intOf s23).toNat)
   case atStart => exact ⟨0, Nat.zero_le _, rfl, HT0, HG0⟩
   case round =>
    obtain ⟨q, hq, rfl, HT, HG⟩ := hrel
    clear HT0 HG0
    have hszi : wo.heap.size ≤ wr.heap.size := HG.out.size
    by_cases hql : q < ne
    ·have hre' : RdX wr wo.heap.size E a.ed := hre.keep fun p hp => HG.out.cell_far p hp (by intro e; injection e with e; omega)
     obtain ⟨ed, x, rfl, hbe, hxe, g0, g1, g2⟩ := hre'.at_ (k := q) (by have := HLE.out; omega)
     have c1 : (q : Int) < (ne : Int) := by omega
     have r1 : wr.cell? ⟨(ed.add (q * 3)).block, (ed.add (q * 3)).off + 1, none⟩ = some (.int .i64 x.e) := st_cells (j := 0) g1
     have r2 : wr.cell? ⟨(ed.add (q * 3)).block, (ed.add (q * 3)).off + 2, none⟩ = some (.int .i64 x.t) := st_cells (j := 1) g2
     clear g1 g2
     have hrng := HEV.out x (List.mem_of_getElem? hxe)
     have hput := lkE_put HEI.out hxe
     have HPUT := Lib.hid hput
     have w1 : (Lit.int .i64 x.f).wf = true := WalkArith.wf_i64 (by omega)
     have w2' : (Lit.int .i64 x.e).wf = true := WalkArith.wf_i64 (by omega)
     have w3 : (Lit.int .i64 x.t).wf = true := WalkArith.wf_i64 (by omega)
     have HKEY := Lib.hid (pairKey wr x.f x.e w1 w2')
     have HW3 := Lib.hid w3
     have HT2 := Lib.hid (TabI.alloc HT.out (.cells #[.int .i64 x.f, .int .i64 x.e, .int .i64 x.t] 49))
     have HXE := Lib.hid hxe; clear hxe
     clear hput w1 w2' w3 hrng hre'
     go_wp2_with (at_mapUpdate; refine wpList_tab_put rfl (.tmp 27) (.tmp 32) (.tmp 34) 150 rfl pairLaw Tryz.underlying150 Tryz.underlying3 rfl HT2.out (by omega) (x.f, x.e) rfl HKEY.out x.t rfl HW3.out (fun p => lkE p.1 p.2 (a.ed.take (q + 1))) (fun d hd => by rw [kP_inj hd]; exact (HPUT.out _ _).1 ⟨rfl, rfl⟩) (fun d hd => (HPUT.out _ _).2 (fun e => hd (by rw [show d = (x.f, x.e) from Prod.ext e.1.symm e.2.symm]))) ?_; intro w' hT' hg')
     go_roundw
     case rel => exact ⟨q + 1, by omega, by go_num, Lib.hid hT', Lib.hid (HG.out.trans ((grown_alloc _ _ _).trans hg'))⟩
     case measure => simp [intOf]; omega
    ·obtain rfl : q = ne := by omega
     have hT := HT.out
     rw [List.take_of_length_le (by rw [HLE.out]; exact Nat.le_refl _)] at hT
     have hOi := own_kept_new HO.out HG.out (Nat.le_succ _)
     have hBi := HB.out.kept HG.out (by intro e; injection e with e; omega)
     have cc := hBi.cell (j := 2) rfl
     have HTI := Lib.hid hT
     have HOI := Lib.hid hOi
     have HBI := Lib.hid hBi
     have hszm : w2.heap.size + 1 ≤ wr.heap.size := by omega
     clear hT hOi hBi
     go_wp2_with (at_builtin; refine wpList_push _ (.map (some (wo.heap.size + 1))) rfl (.tmp 37) (.tmp 39) 120 rfl (w2.heap.size + 1) 150 (.map none) 8 Tryz.underlying120 map_info rfl gv k _ rfl HOI.out rfl rfl (by omega) (by omega) hszm ?_; intro v' w' ho' hg' hb1; obtain ⟨Gx, cx, rfl⟩ := own_shape ho'; have HB5 := Lib.hid (HBI.out.kept hg' (fun e => by have := (HOI.out.lt _ e.symm).1; omega)); have c5 := HB5.out.cell (j := 2) rfl; have f5 := HB5.out.free 2; have l5 := HB5.out.lt)
     go_roundw
     case rel =>
      refine ⟨k + 1, gl ++ [wo.heap.size + 1], _, by omega, by go_num, Lib.hid (HB5.out.set (by simp) _), ?_, ?_, ?_⟩
      ·rw [mpv_snoc]
       exact Lib.hid (ho'.kept (grown_setCell _ _ _ _) (by
        cases hv : (Value.slice Gx (k + 1) cx).ownBlock with
        | none => exact .inl rfl
        | some g => right; have := (ho'.lt g hv).1; intro e; injection e with e; omega))
      ·rw [take_snoc' HXA.out]
       exact Lib.hid (open_step HM.out HG.out (Nat.le_succ _) (by omega) HOI.out hg' HTI.out)
      ·exact (((hbel2.grown HG.out (by omega) (fun j e => by injection e with e; omega)).trans (hb1.mono (by omega)))).setCell (Nat.le_refl _) _
     case measure => simp [intOf]; omega
  ·obtain rfl : k = n := by omega
   obtain ⟨G, cg, rfl⟩ := own_shape HO.out
   have k0 := HB.out.cell (j := 0) rfl
   have k1 := HB.out.cell (j := 1) rfl
   have k2 := HB.out.cell (j := 2) rfl
   have hr2 := HR2.out.below hbel2 HR2.out.lt
   have f0 := hr2.free 0
   have f1 := hr2.free 1
   have f2 := hr2.free 2
   have e0 := hr2.cell (j := 0) rfl
   have e1 := hr2.cell (j := 1) rfl
   have e2 := hr2.cell (j := 2) rfl
   have l0 : w.heap.size < wo.heap.size := hr2.lt
   go_wp2
   have hb3 := ((hr2.set (j := 0) (by simp) (.slice L k c)).set (j := 1) (by simp) (.slice V nv cv)).set (j := 2) (by simp) (.slice G k cg)
   have z0 := hb3.cell (j := 0) rfl
   have z1 := hb3.cell (j := 1) rfl
   have z2 := hb3.cell (j := 2) rfl
   refine bodyPost_ret (v := .agg #[.slice L k c, .slice V nv cv, .slice G k cg]) (by simp [results, Tryz.results75, go_sem, z0, z1, z2]) rfl ?_
   have hg3 : wo.grownBy (((wo.setCell ⟨w.heap.size, 0, none⟩ (.slice L k c)).setCell ⟨w.heap.size, 1, none⟩ (.slice V nv cv)).setCell ⟨w.heap.size, 2, none⟩ (.slice G k cg)) (some w.heap.size) := ((grown_setCell _ _ _ _).trans (grown_setCell _ _ _ _)).trans (grown_setCell _ _ _ _)
   have hB3 := hbel.grown hg3 hbel.size (fun j e => by injection e with e; omega)
   have hM := HM.out
   rw [List.take_of_length_le (by rw [List.length_map, HL.out]; exact Nat.le_refl _)] at hM
   have hV3 := own_kept_low (own_below HV.out hbel2) hg3 (by simp)
   refine ⟨V, nv, cv, G, cg, rfl, ⟨HL.out, hc1, hc2, h0.below (hB3.mono hr), HNV.out, gv1, gv2, RdI.of_own hV3, ?_, (own_cap' HO.out).1, (own_cap' HO.out).2, rdg_of (own_kept_low HO.out hg3 (by have := HB2.out.size; omega)) (hM.kept hg3 (by have := HB2.out.size; omega)) (by have := HB2.out.size; omega) (by have := HB2.out.size; omega)⟩, hB3⟩
   intro ad e
   subst e
   have := (hV3.lt ad.block rfl).1
   simp at this
   omega
end Go.Proofs.YtioijhpbedmeaaaGreatDoor

/- Walks: alphabet.Intersect, Minus, Subset, CheckSet; controllable.steps. -/
namespace Go.Proofs.YtioijhpbedmeaaaGreatDoor
open Go.RowKit Go Go.Maps

theorem Minus_1 (x y : Bool) (w : World) : Calls Tryz.prog 92 #[.bool x, .bool y] w fun e w' => e = .returned (.bool (x && !y)) ∧ w = w' := by
 cases x <;> cases y
 ·skip
  go_enter Tryz.func92, Tryz.ntmps92
  go_wp2
  go_ret
  exact ⟨rfl, rfl⟩
 ·skip
  go_enter Tryz.func92, Tryz.ntmps92
  go_wp2
  go_ret
  exact ⟨rfl, rfl⟩
 ·skip
  go_enter Tryz.func92, Tryz.ntmps92
  go_wp2
  go_ret
  exact ⟨rfl, rfl⟩
 ·skip
  go_enter Tryz.func92, Tryz.ntmps92
  go_wp2
  go_ret
  exact ⟨rfl, rfl⟩
theorem Intersect_1 (x y : Bool) (w : World) : Calls Tryz.prog 112 #[.bool x, .bool y] w fun e w' => e = .returned (.bool (x && y)) ∧ w = w' := by
 cases x <;> cases y
 ·skip
  go_enter Tryz.func112, Tryz.ntmps112
  go_wp2
  go_ret
  exact ⟨rfl, rfl⟩
 ·skip
  go_enter Tryz.func112, Tryz.ntmps112
  go_wp2
  go_ret
  exact ⟨rfl, rfl⟩
 ·skip
  go_enter Tryz.func112, Tryz.ntmps112
  go_wp2
  go_ret
  exact ⟨rfl, rfl⟩
 ·skip
  go_enter Tryz.func112, Tryz.ntmps112
  go_wp2
  go_ret
  exact ⟨rfl, rfl⟩
theorem alphabet_Minus (A B : Option Addr) (na nb ca cb : Nat) (a b : List Int) (w : World) (hla : a.length = na) (ha : RdI w w.heap.size A a) (ha1 : na ≤ ca) (ha2 : ca ≤ 9223372036854775807) (hlb : b.length = nb) (hb : RdI w w.heap.size B b) (hb1 : nb ≤ cb) (hb2 : cb ≤ 9223372036854775807) (hn : na + nb ≤ 1000000) (ia : Inc a) (ib : Inc b) :
  Calls Tryz.prog 56 #[.slice A na ca, .slice B nb cb] w (RetO 3 (minS a b) w) := by
 rw [← mgK_minus ia ib]
 have HC := Lib.hid (alphabet_mergeK 92 (fun x y => x && !y) (enters_of Tryz.func92 (by kernel_rfl) rfl) Minus_1 A B na nb ca cb a b w hla ha ha1 ha2 hlb hb hb1 hb2 hn)
 clear ia ib
 clear hla hlb
 go_enter Tryz.func56, Tryz.ntmps56
 go_wp2_with fail
 refine HC.out.mono ?_
 rintro e w' ⟨v, rfl, ho, hb'⟩
 go_wp2
 go_ret
 exact ⟨v, rfl, ho, hb'⟩
theorem alphabet_Intersect (A B : Option Addr) (na nb ca cb : Nat) (a b : List Int) (w : World) (hla : a.length = na) (ha : RdI w w.heap.size A a) (ha1 : na ≤ ca) (ha2 : ca ≤ 9223372036854775807) (hlb : b.length = nb) (hb : RdI w w.heap.size B b) (hb1 : nb ≤ cb) (hb2 : cb ≤ 9223372036854775807) (hn : na + nb ≤ 1000000) (ia : Inc a) (ib : Inc b) :
  Calls Tryz.prog 89 #[.slice A na ca, .slice B nb cb] w (RetO 3 (intS a b) w) := by
 rw [← mgK_and ia ib]
 have HC := Lib.hid (alphabet_mergeK 112 (fun x y => x && y) (enters_of Tryz.func112 (by kernel_rfl) rfl) Intersect_1 A B na nb ca cb a b w hla ha ha1 ha2 hlb hb hb1 hb2 hn)
 clear ia ib
 clear hla hlb
 go_enter Tryz.func89, Tryz.ntmps89
 go_wp2_with fail
 refine HC.out.mono ?_
 rintro e w' ⟨v, rfl, ho, hb'⟩
 go_wp2
 go_ret
 exact ⟨v, rfl, ho, hb'⟩
theorem alphabet_Subset (A B : Option Addr) (na nb ca cb : Nat) (a b : List Int) (q : Bool) (w : World) (hla : a.length = na) (ha : RdI w w.heap.size A a) (ha1 : na ≤ ca) (ha2 : ca ≤ 9223372036854775807) (hlb : b.length = nb) (hb : RdI w w.heap.size B b) (hb1 : nb ≤ cb) (hb2 : cb ≤ 9223372036854775807) (hn : na + nb ≤ 1000000) (ia : Inc a) (ib : Inc b) (hq : decide ((minS a b).length = 0) = q) :
  Calls Tryz.prog 71 #[.slice A na ca, .slice B nb cb] w fun e w' => e = .returned (.bool q) ∧ Below w.heap.size w w' := by
 have HC := Lib.hid (alphabet_Minus A B na nb ca cb a b w hla ha ha1 ha2 hlb hb hb1 hb2 hn ia ib)
 obtain ⟨m, hm⟩ : ∃ m, (minS a b).length = m := ⟨_, rfl⟩
 rw [hm] at hq
 have HQ := Lib.hid (show ((m : Int) == 0) = q by rw [← hq, Bool.eq_iff_iff]; simp)
 clear ia ib hla hlb hq
 go_enter Tryz.func71, Tryz.ntmps71
 go_wp2_with fail
 refine HC.out.mono ?_
 rintro e w' ⟨v, rfl, ho, hb'⟩
 obtain ⟨V, c, rfl⟩ := own_shape ho
 rw [hm]
 clear ho hm
 go_wp2
 go_ret
 exact ⟨by rw [HQ.out]; rfl, hb'⟩

set_option maxHeartbeats 400000 in
theorem alphabet_CheckSet (A : Option Addr) (c : Nat) (l : List Int) (n : Int) (w : World) (h : RdI w w.heap.size A l) (hlc : l.length ≤ c) (hc : c ≤ 9223372036854775807) :
  Calls Tryz.prog 68 #[.slice A l.length c, .int .i64 n] w fun e w' => e = .returned (.int .i64 (setErr l n)) ∧ w = w' := by
 go_enter Tryz.func68, Tryz.ntmps68
 go_wp2
 go_loop [9] (fun i => ∃ k : Nat, k ≤ l.length ∧ i = .int .i64 k ∧ Hid (setErr l n = setErrG n (l.take k).getLast? (l.drop k))) (fun i => l.length - (intOf i).toNat)
 case atStart => exact ⟨0, Nat.zero_le _, rfl, Lib.hid rfl⟩
 case round =>
  obtain ⟨k, hk, rfl, HX⟩ := hrel
  by_cases hlt : k < l.length
  ·obtain ⟨ad, y, rfl, hb, hy, hcell⟩ := h.at_ hlt
   have HY := Lib.hid hy; clear hy
   by_cases h1 : y < 0
   ·go_wp2
    go_ret
    exact ⟨ret_int (by rw [HX.out, setErrG_range HY.out (.inl h1)]), rfl⟩
   by_cases h2 : n ≤ y
   ·go_wp2
    go_ret
    exact ⟨ret_int (by rw [HX.out, setErrG_range HY.out (.inr h2)]), rfl⟩
   have e1 : decide (y < 0) = false := by simpa using h1
   have e2 : decide (n ≤ y) = false := by simpa using h2
   cases k with
   | zero =>
    have hcell' := cell_zero hcell
    go_wp2
    go_round
    case rel => exact ⟨1, by omega, by go_num, Lib.hid (by rw [HX.out, take_snoc' HY.out, List.getLast?_concat]; exact setErrG_first HY.out (by omega))⟩
    case measure => simp [intOf]; omega
   | succ j =>
    obtain ⟨ad', q, e, _, hq, hcq⟩ := h.at_ (k := j) (by omega)
    obtain rfl : ad = ad' := by injection e
    have hcell' := cell_succ hcell
    have HQ := Lib.hid hq; clear hq
    by_cases h3 : y ≤ q
    ·go_wp2
     go_ret
     exact ⟨ret_int (by rw [HX.out, take_snoc' HQ.out, List.getLast?_concat, setErrG_order HY.out (by omega) h3]), rfl⟩
    ·go_wp2
     go_round
     case rel => exact ⟨j + 1 + 1, by omega, by go_num, Lib.hid (by rw [HX.out, take_snoc' HQ.out, List.getLast?_concat, setErrG_next HY.out (by omega) (by omega), take_snoc' HY.out, List.getLast?_concat])⟩
     case measure => simp [intOf]; omega
  ·go_wp2
   go_ret
   exact ⟨ret_int (by rw [HX.out, setErrG_end hlt]), rfl⟩


theorem alphabet_CheckSet_n (A : Option Addr) (c n : Nat) (l : List Int) (m r : Int) (w : World) (hl : l.length = n) (hr : setErr l m = r) (h : RdI w w.heap.size A l) (hlc : n ≤ c) (hc : c ≤ 9223372036854775807) :
  Calls Tryz.prog 68 #[.slice A n c, .int .i64 m] w fun e w' => e = .returned (.int .i64 r) ∧ w = w' := by
 subst hl hr; exact alphabet_CheckSet A c l m w h hlc hc
end Go.Proofs.YtioijhpbedmeaaaGreatDoor

/- Walks: the machine's initial tuple, its marked tuples. -/
namespace Go.Proofs.YtioijhpbedmeaaaGreatDoor
open Go.RowKit Go Go.Maps

/-- A list of ints of the call's own, and a bool. -/
def RetOB (l : List Int) (q : Bool) (w : World) (e : Ending) (w' : World) : Prop := ∃ v, e = .returned (.tuple #[v, .bool q]) ∧ w'.ownsRow w.heap.size 3 1 v l.length (iv l) ∧ Below w.heap.size w w'


set_option maxRecDepth 100000 in
set_option maxHeartbeats 1600000 in
theorem mach_initial (L : Option Addr) (n c : Nat) (V : Option Addr) (nv cv : Nat) (G : Option Addr) (cg : Nat) (xs : List AV) (w : World) (h : MachR w w.heap.size L n c V nv cv G cg xs) (hn : n ≤ 12) :
  Calls Tryz.prog 76 #[.agg #[.slice L n c, .slice V nv cv, .slice G n cg]] w (RetOB (if noSt (xs.map AV.a) = true then [] else ini (xs.map AV.a)) (!noSt (xs.map AV.a)) w) := by
 have hB0 := box_below w (.cells #[.slice L n c, .slice V nv cv, .slice G n cg] 122)
 obtain ⟨R, hR⟩ : ∃ R, (if noSt (xs.map AV.a) = true then [] else ini (xs.map AV.a)) = R := ⟨_, rfl⟩
 obtain ⟨q, hq⟩ : ∃ q, noSt (xs.map AV.a) = q := ⟨_, rfl⟩
 have hll := h.ll
 have hlc := h.lc
 have hcL := h.cL
 rw [hR, hq]
 rw [hq] at hR
 have HL := Lib.hid hll; clear hll
 have HQ := Lib.hid hq; clear hq
 have HR := Lib.hid hR; clear hR
 have hm : ∀ W : World, (Instr.makeSlice 30 (.int .i64 (n : Int)) (.int .i64 (n : Int))).run Tryz.prog W = .ok (.slice (some ⟨W.heap.size, 0, none⟩) n n) (W.alloc (.cells (madeCells #[.int .i64 0] n) 3)) := fun W => run_make_row' 30 3 (.int .i64 0) 8 Tryz.underlying30 int_info rfl .i64 .i64 n (by omega) (by omega) W
 go_enter Tryz.func76, Tryz.ntmps76
 go_wp2
 go_loopw [9] (fun i wr => ∃ k : Nat, k ≤ n ∧ i = .int .i64 k ∧ Hid (stTo (xs.map AV.a) k) ∧ Below (w.heap.size + 1) (w.alloc (.cells #[.slice L n c, .slice V nv cv, .slice G n cg] 122)) wr) (fun i _ => n - (intOf i).toNat)
 case atStart => exact ⟨0, Nat.zero_le _, rfl, Lib.hid (fun j a hj => by omega), Below.refl _ _⟩
 case round =>
  obtain ⟨k, hk, rfl, HX, hbel⟩ := hrel
  have hsz1 : w.heap.size + 1 ≤ wr.heap.size := by have := hbel.size; simpa using this
  have hsz : w.heap.size ≤ wr.heap.size := by omega
  have hsz2 : w.heap.size < wr.heap.size := by omega
  have hbl := hB0.trans (hbel.mono (Nat.le_succ _))
  have c0 : wr.cell? ⟨w.heap.size, 0, none⟩ = some (.slice L n c) := box_cells (us := [_, _, _]) hbel rfl
  by_cases hlt : k < n
  ·skip
   obtain ⟨ad, A', na, ca, M, nm, cm, E, ne, ce, a, rfl, hbb, hx, q0, q1, q2, q3, haR⟩ := ((h.rl.below hbl).more hsz).at_ (k := k) (by have := HL.out; omega)
   have b1 : (k : Int) < (n : Int) := by omega
   have p1 : wr.cell? ⟨(ad.add (k * 4)).block, (ad.add (k * 4)).off + 1, none⟩ = some (.int .i64 a.st) := st_cells (j := 0) q1
   have p2 : wr.cell? ⟨(ad.add (k * 4)).block, (ad.add (k * 4)).off + 2, none⟩ = some (.slice M nm cm) := st_cells (j := 1) q2
   have p3 : wr.cell? ⟨(ad.add (k * 4)).block, (ad.add (k * 4)).off + 3, none⟩ = some (.slice E ne ce) := st_cells (j := 2) q3
   clear q1 q2 q3
   have hxa : (xs.map AV.a)[k]? = some a := by simp [hx]
   clear haR
   by_cases h0 : a.st = 0
   ·have hqt := HQ.out.symm.trans (noSt_hit hxa h0)
    have hb0 : (a.st == 0) = true := by simpa using h0
    have HXA := Lib.hid hxa; clear hxa
    have HX2 := Lib.hid hx; clear hx
    subst hqt
    have hr := HR.out
    rw [if_pos rfl] at hr
    have HR2 := Lib.hid hr; clear hr
    have H00 := Lib.hid h0; clear h0
    go_wp2
    go_ret2
    rw [← HR2.out]
    exact ⟨_, rfl, World.ownsRow_nil _ _ _ _, hbl.alloc hsz _⟩
   ·have hb0 : (a.st == 0) = false := by simpa using h0
    have HS := Lib.hid (stTo_step HX.out hxa h0)
    have HXA := Lib.hid hxa; clear hxa
    have HX2 := Lib.hid hx; clear hx
    have H00 := Lib.hid h0; clear h0
    go_wp2
    go_roundw
    case rel => exact ⟨k + 1, by omega, by go_num, HS, hbel.alloc hsz1 _⟩
    case measure => simp [intOf]; omega
  ·obtain rfl : k = n := by omega
   have hqf := HQ.out.symm.trans (stTo_end HX.out (by rw [List.length_map, HL.out]; exact Nat.le_refl _))
   subst hqf
   have hr := HR.out
   rw [if_neg (by simp)] at hr
   have hlen : R.length = k := by rw [← hr]; simp [ini, HL.out]
   have ho := own_made wr w.heap.size k 3 hsz (by omega)
   rw [show List.replicate k (0 : Int) = R by rw [← hr]; simp [ini, HL.out]] at ho
   have HO := Lib.hid ho; clear ho
   have HR2 := Lib.hid hr; clear hr
   have HLEN := Lib.hid hlen; clear hlen
   go_wp2
   go_ret2
   exact ⟨_, rfl, by rw [HLEN.out]; exact HO.out, hbl.alloc hsz _⟩

set_option maxRecDepth 100000 in
set_option maxHeartbeats 1600000 in
theorem mach_marked (L : Option Addr) (n c : Nat) (V : Option Addr) (nv cv : Nat) (G : Option Addr) (cg : Nat) (xs : List AV) (T : Option Addr) (ct : Nat) (t : List Int) (q : Bool) (w : World) (h : MachR w w.heap.size L n c V nv cv G cg xs) (ht : t.length = n) (hT : RdI w w.heap.size T t) (hct : n ≤ ct)
  (hw : ∀ a ∈ xs.map AV.a, WF a) (hq : mkT (xs.map AV.a) t = q) :
  Calls Tryz.prog 78 #[.agg #[.slice L n c, .slice V nv cv, .slice G n cg], .slice T n ct] w fun e w' => e = .returned (.bool q) ∧ Below w.heap.size w w' := by
 have hB0 := box_below w (.cells #[.slice L n c, .slice V nv cv, .slice G n cg] 122)
 have hll := h.ll
 have hlc := h.lc
 have hcL := h.cL
 have HL := Lib.hid hll; clear hll
 have HTL := Lib.hid ht; clear ht
 have HQ := Lib.hid hq; clear hq
 have HW := Lib.hid hw; clear hw
 go_enter Tryz.func78, Tryz.ntmps78
 go_wp2
 go_loopw [10] (fun i wr => ∃ k : Nat, k ≤ n ∧ i = .int .i64 k ∧ Hid (mkTo (xs.map AV.a) t k) ∧ Below (w.heap.size + 1) (w.alloc (.cells #[.slice L n c, .slice V nv cv, .slice G n cg] 122)) wr) (fun i _ => n - (intOf i).toNat)
 case atStart => exact ⟨0, Nat.zero_le _, rfl, Lib.hid (fun j a s hj => by omega), Below.refl _ _⟩
 case round =>
  obtain ⟨k, hk, rfl, HX, hbel⟩ := hrel
  have hsz1 : w.heap.size + 1 ≤ wr.heap.size := by have := hbel.size; simpa using this
  have hsz : w.heap.size ≤ wr.heap.size := by omega
  have hsz2 : w.heap.size < wr.heap.size := by omega
  have hbl := hB0.trans (hbel.mono (Nat.le_succ _))
  have c0 : wr.cell? ⟨w.heap.size, 0, none⟩ = some (.slice L n c) := box_cells (us := [_, _, _]) hbel rfl
  by_cases hlt : k < n
  ·skip
   obtain ⟨ad, A', na, ca, M, nm, cm, E, ne, ce, a, rfl, hbb, hx, q0, q1, q2, q3, haR⟩ := ((h.rl.below hbl).more hsz).at_ (k := k) (by have := HL.out; omega)
   have b1 : (k : Int) < (n : Int) := by omega
   have p1 : wr.cell? ⟨(ad.add (k * 4)).block, (ad.add (k * 4)).off + 1, none⟩ = some (.int .i64 a.st) := st_cells (j := 0) q1
   have p2 : wr.cell? ⟨(ad.add (k * 4)).block, (ad.add (k * 4)).off + 2, none⟩ = some (.slice M nm cm) := st_cells (j := 1) q2
   have p3 : wr.cell? ⟨(ad.add (k * 4)).block, (ad.add (k * 4)).off + 3, none⟩ = some (.slice E ne ce) := st_cells (j := 2) q3
   clear q1 q2 q3
   have hxa : (xs.map AV.a)[k]? = some a := by simp [hx]
   have hBA := box_below wr (.cells #[.slice A' na ca, .int .i64 a.st, .slice M nm cm, .slice E ne ce] 33)
   obtain ⟨td, s, rfl, hbt, hts, hcs⟩ := ((hT.below hbl).more hsz).at_ (k := k) (by have := HTL.out; omega)
   have hcs' : (wr.alloc (.cells #[.slice A' na ca, .int .i64 a.st, .slice M nm cm, .slice E ne ce] 33)).cell? (td.add k) = some (.int .i64 s) := (World.cell?_alloc_lt wr _ _ (by rw [block_of_add]; exact hbt)).trans hcs
   have hma : ∀ p : Nat, RdI ((wr.alloc (.cells #[.slice A' na ca, .int .i64 a.st, .slice M nm cm, .slice E ne ce] 33)).drewN p) ((wr.alloc (.cells #[.slice A' na ca, .int .i64 a.st, .slice M nm cm, .slice E ne ce] 33)).drewN p).heap.size M a.ma := fun p => (haR.rm.after hBA (Nat.le_refl _)).more hBA.size
   have HMA := Lib.hid hma
   have HLM := Lib.hid haR.lm
   have hmc := haR.mc
   have hcM := haR.cM
   have hwa := HW.out a (List.mem_of_getElem? hxa)
   have HMI := Lib.hid hwa.minc
   have hml : nm ≤ 4096 := by
    have := inc_len (n := 4096) hwa.minc (fun x hx => by have := hwa.mrng x hx; have := hwa.st1; omega)
    rwa [HLM.out] at this
   have d1 : (k : Int) < (ct : Int) := by omega
   have d2 : k < n := by omega
   clear hma haR hwa hcs
   cases hh : hasB a.ma s with
   | false =>
    have hqf := HQ.out.symm.trans (mkTo_no hxa hts hh)
    subst hqf
    have HH := Lib.hid hh; clear hh
    have HXA := Lib.hid hxa; clear hxa
    have HX2 := Lib.hid hx; clear hx
    have HTS := Lib.hid hts; clear hts
    go_wp2
    go_quiet ((go_at_call 52; refine quiet_eq (alphabet_Contains_n M cm nm a.ma s false _ HLM.out HH.out (HMA.out _) (by omega) HMI.out)))
    go_wp2
    go_ret
    exact ⟨rfl, below_drewN (hbl.alloc hsz _) _⟩
   | true =>
    have HS := Lib.hid (mkTo_step HX.out hxa hts hh)
    have HH := Lib.hid hh; clear hh
    have HXA := Lib.hid hxa; clear hxa
    have HX2 := Lib.hid hx; clear hx
    have HTS := Lib.hid hts; clear hts
    go_wp2
    go_quiet ((go_at_call 52; refine quiet_eq (alphabet_Contains_n M cm nm a.ma s true _ HLM.out HH.out (HMA.out _) (by omega) HMI.out)))
    go_wp2
    go_roundw
    case rel => exact ⟨k + 1, by omega, by go_num, HS, below_drewN (hbel.alloc hsz1 _) _⟩
    case measure => simp [intOf]; omega
  ·have hqt := HQ.out.symm.trans (mkTo_end HX.out (by rw [List.length_map, HL.out]; omega))
   subst hqt
   go_wp2
   go_ret
   exact ⟨rfl, hbl⟩
end Go.Proofs.YtioijhpbedmeaaaGreatDoor


namespace Go.Proofs.YtioijhpbedmeaaaGreatDoor
open Go.RowKit Go Go.Maps

/-- flags as cells -/
def bvl (N : List Bool) : List Value := N.map Value.bool
theorem bvl_length (N : List Bool) : (bvl N).length = N.length := by simp [bvl]
theorem bvl_get (N : List Bool) (k : Nat) : (bvl N)[k]? = N[k]?.map Value.bool := by simp [bvl]
theorem bvl_set (N : List Bool) (k : Nat) (q : Bool) : (bvl N).set k (.bool q) = bvl (N.set k q) := by simp [bvl, List.map_set]
theorem bool_info : (Tryz.prog.info? 4).map (fun i => (i.zero, i.size, i.bytes)) = some (some (.bool false), 1, 1) := by kernel_rfl
theorem made_bools (n : Nat) : madeCells #[.bool false] n = (bvl (List.replicate n false)).toArray := by
 apply Array.ext
 ·simp [madeCells, bvl]
 ·intro i h1 h2
  simp [madeCells, bvl, Nat.mod_one]
end Go.Proofs.YtioijhpbedmeaaaGreatDoor

/- Walks: the machine's step. -/
namespace Go.Proofs.YtioijhpbedmeaaaGreatDoor
open Go.RowKit Go Go.Maps

theorem tab_run_hit {α : Type} {P : Program} {K E : TypeId} {key : α → Value} {w : World} {b n : Nat} {g : α → Option Int} (t : TypeId) (KK : Keyed P K) (ht : P.underlying t = some (.map K E)) (he : P.underlying E = some (.int .i64)) (hz : (zeroValue E).run P w = .ok (.int .i64 0) w)
  (h : TabI P K E key w b n g) (c : α) (hk : ∃ kl, keyOf P K (key c) = some kl) (y : Int) (hy : g c = some y) : (Instr.lookup t (.map (some b)) (key c) true).run P w = .ok (.tuple #[.int .i64 y, .bool true]) w := by
 obtain ⟨D, h1, h2⟩ := h
 obtain ⟨kl, hkl⟩ := hk
 obtain ⟨h3, h4⟩ := h2 c kl hkl
 obtain ⟨v, ps, hrun, hv⟩ := h1.look_ok KK ht hz (plainElem_int he (by decide)) hkl
 obtain ⟨z, rfl, hz1, _⟩ := plainElem_int_inv he hv
 have := congrArg Prod.fst hz1
 simp only at this
 rw [h4 y hy] at this
 simp only [DataW.lit.injEq, Lit.int.injEq, true_and] at this
 rw [hrun, h3, hy, ← this]; rfl
theorem tab_run_miss {α : Type} {P : Program} {K E : TypeId} {key : α → Value} {w : World} {b n : Nat} {g : α → Option Int} (t : TypeId) (KK : Keyed P K) (ht : P.underlying t = some (.map K E)) (he : P.underlying E = some (.int .i64)) (hz : (zeroValue E).run P w = .ok (.int .i64 0) w)
  (h : TabI P K E key w b n g) (c : α) (hk : ∃ kl, keyOf P K (key c) = some kl) (hy : g c = none) : (Instr.lookup t (.map (some b)) (key c) true).run P w = .ok (.tuple #[.int .i64 0, .bool false]) w := by
 obtain ⟨D, h1, h2⟩ := h
 obtain ⟨kl, hkl⟩ := hk
 obtain ⟨h3, h4⟩ := h2 c kl hkl
 rw [hy] at h3
 obtain ⟨v, ps, hrun, hv⟩ := h1.look_ok KK ht hz (plainElem_int he (by decide)) hkl
 obtain ⟨z, rfl, hz1, _⟩ := plainElem_int_inv he hv
 have := congrArg Prod.fst hz1
 simp only at this
 rw [Maps.atKey_of_not_has h3] at this
 simp only [DataW.lit.injEq, Lit.int.injEq, true_and] at this
 rw [hrun, h3, ← this]; rfl
theorem TabI.drewN {α : Type} {P : Program} {K E : TypeId} {key : α → Value} {w : World} {b n : Nat} {g : α → Option Int} (h : TabI P K E key w b n g) (p : Nat) : TabI P K E key (w.drewN p) b n g := h.block rfl
theorem iv_set (l : List Int) (k : Nat) (y : Int) : (iv l).set k (.int .i64 y) = iv (l.set k y) := by
 unfold iv; rw [List.map_set]


set_option maxRecDepth 100000 in
set_option maxHeartbeats 3200000 in
theorem mach_step (L : Option Addr) (n c : Nat) (V : Option Addr) (nv cv : Nat) (G : Option Addr) (cg : Nat) (xs : List AV) (T : Option Addr) (ct : Nat) (t : List Int) (v : Int) (r : Option (List Int)) (w : World) (h : MachR w w.heap.size L n c V nv cv G cg xs) (hn : n ≤ 12) (hT : RdI w w.heap.size T t) (hct : n ≤ ct)
  (hw : ∀ a ∈ xs.map AV.a, WF a) (htup : Tup (xs.map AV.a) t) (hr : stp (xs.map AV.a) t v = r) :
  Calls Tryz.prog 79 #[.agg #[.slice L n c, .slice V nv cv, .slice G n cg], .slice T n ct, .int .i64 v] w (RetOB (r.getD []) r.isSome w) := by
 have hB0 := box_below w (.cells #[.slice L n c, .slice V nv cv, .slice G n cg] 122)
 have hll := h.ll
 have hlc := h.lc
 have hcL := h.cL
 have hgc := h.gc
 have hcG := h.cG
 have ht : t.length = n := by rw [htup.len, List.length_map, hll]
 have hml : (mvs (xs.map AV.a) t v).length = t.length := by rw [mvs_len, List.length_map, hll, ht]; omega
 have HC := Lib.hid (slices_Clone_n T ct n t _ ht ((hT.below hB0).more hB0.size) (by omega))
 have HL := Lib.hid hll; clear hll
 have HTL := Lib.hid ht; clear ht
 have HR := Lib.hid hr; clear hr
 have HW := Lib.hid hw; clear hw
 have HTU := Lib.hid htup; clear htup
 have HML := Lib.hid hml; clear hml
 go_enter Tryz.func79, Tryz.ntmps79
 go_wp2_with fail
 refine HC.out.mono ?_
 rintro e w1 ⟨v8, rfl, ho8, hb8⟩
 rw [HTL.out] at ho8
 have hs8 : w.heap.size + 1 ≤ w1.heap.size := by have := hb8.size; simpa using this
 have hbase : (w.alloc (.cells #[.slice L n c, .slice V nv cv, .slice G n cg] 122)).heap.size = w.heap.size + 1 := by simp
 rw [hbase] at hb8 ho8
 obtain ⟨A8, c8, rfl⟩ := own_shape ho8
 have ho8' : w1.ownsRow (w.heap.size + 1) 3 1 (.slice A8 n c8) n (iv (nxk (mvs (xs.map AV.a) t v) t 0)) := by
  rw [show nxk (mvs (xs.map AV.a) t v) t 0 = t by simp [nxk]]; exact ho8
 have HO8 := Lib.hid ho8'; clear ho8'
 clear HC ho8 hbase
 have hq1 : w1.cell? ⟨w.heap.size, 0, none⟩ = some (.slice L n c) := box_cells (us := [_, _, _]) hb8 rfl
 go_wp2
 go_loopw [18] (fun i wr => ∃ k : Nat, k ≤ n ∧ i = .int .i64 k ∧ Hid (rfTo (xs.map AV.a) t v k) ∧ Hid (wr.ownsRow (w.heap.size + 1) 3 1 (.slice A8 n c8) n (iv (nxk (mvs (xs.map AV.a) t v) t k))) ∧ Below (w.heap.size + 1) (w.alloc (.cells #[.slice L n c, .slice V nv cv, .slice G n cg] 122)) wr) (fun i _ => n - (intOf i).toNat)
 case atStart => exact ⟨0, Nat.zero_le _, rfl, Lib.hid (fun j a s hj => by omega), HO8, hb8⟩
 case round =>
  obtain ⟨k, hk, rfl, HX, HO, hbel⟩ := hrel
  clear HO8
  have hsz1 : w.heap.size + 1 ≤ wr.heap.size := by have := hbel.size; simpa using this
  have hsz : w.heap.size ≤ wr.heap.size := by omega
  have hsz2 : w.heap.size < wr.heap.size := by omega
  have hbl := hB0.trans (hbel.mono (Nat.le_succ _))
  have c0 : wr.cell? ⟨w.heap.size, 0, none⟩ = some (.slice L n c) := box_cells (us := [_, _, _]) hbel rfl
  have c2 : wr.cell? ⟨w.heap.size, 2, none⟩ = some (.slice G n cg) := box_cells (us := [_, _, _]) hbel rfl
  by_cases hlt : k < n
  ·skip
   obtain ⟨ad, A', na, ca, M, nm, cm, E, ne, ce, a, rfl, hbb, hx, q0, q1, q2, q3, haR⟩ := ((h.rl.below hbl).more hsz).at_ (k := k) (by have := HL.out; omega)
   have b1 : (k : Int) < (n : Int) := by omega
   have p1 : wr.cell? ⟨(ad.add (k * 4)).block, (ad.add (k * 4)).off + 1, none⟩ = some (.int .i64 a.st) := st_cells (j := 0) q1
   have p2 : wr.cell? ⟨(ad.add (k * 4)).block, (ad.add (k * 4)).off + 2, none⟩ = some (.slice M nm cm) := st_cells (j := 1) q2
   have p3 : wr.cell? ⟨(ad.add (k * 4)).block, (ad.add (k * 4)).off + 3, none⟩ = some (.slice E ne ce) := st_cells (j := 2) q3
   clear q1 q2 q3
   have hxa : (xs.map AV.a)[k]? = some a := by simp [hx]
   have hBA := box_below wr (.cells #[.slice A' na ca, .int .i64 a.st, .slice M nm cm, .slice E ne ce] 33)
   have HRA := Lib.hid ((haR.ra.after hBA (Nat.le_refl _)).more hBA.size)
   have HLA := Lib.hid haR.la
   have hwa := HW.out a (List.mem_of_getElem? hxa)
   have HAI := Lib.hid hwa.inc
   have hal := hwa.al_le
   rw [HLA.out] at hal
   obtain ⟨td, s, rfl, hbt, hts, hcs⟩ := ((hT.below hbl).more hsz).at_ (k := k) (by have := HTL.out; omega)
   have hcs' : (wr.alloc (.cells #[.slice A' na ca, .int .i64 a.st, .slice M nm cm, .slice E ne ce] 33)).cell? (td.add k) = some (.int .i64 s) := (World.cell?_alloc_lt wr _ _ (by rw [block_of_add]; exact hbt)).trans hcs
   have hmvk := mvs_at (v := v) hxa hts
   have hsr := HTU.out.at_ hxa hts
   have hst1 := hwa.st1
   have d1 : (k : Int) < (ct : Int) := by omega
   clear haR hcs
   cases hh : hasB a.al v with
   | false =>
    have hrf : rf a s v = false := by simp [rf, hh]
    have hmv : mv a s v = s := by simp [mv, hh]
    rw [hmv] at hmvk
    have HS := Lib.hid (rfTo_step HX.out hxa hts hrf)
    have HNK := Lib.hid (nxk_keep hmvk hts)
    have HH := Lib.hid hh; clear hh
    have HXA := Lib.hid hxa; clear hxa
    have HX2 := Lib.hid hx; clear hx
    have HTS := Lib.hid hts; clear hts
    have HMV := Lib.hid hmvk; clear hmvk
    have HWA := Lib.hid hwa; clear hwa
    clear hrf hmv
    go_wp2_with fail
    refine (alphabet_Contains_n A' ca na a.al v false _ HLA.out HH.out HRA.out (by omega) HAI.out).mono ?_
    rintro e w' ⟨rfl, rfl⟩
    go_wp2
    go_roundw
    case rel => exact ⟨k + 1, by omega, by go_num, HS, Lib.hid (by rw [HNK.out]; exact HO.out.alloc _), hbel.alloc hsz1 _⟩
    case measure => simp [intOf]; omega
   | true =>
    obtain ⟨gd, mb, mm, rfl, hgb, hmb, hgc1, htab⟩ := ((h.rg.below hbl).more hsz) k a hxa
    have hgc2 : (wr.alloc (.cells #[.slice A' na ca, .int .i64 a.st, .slice M nm cm, .slice E ne ce] 33)).cell? (gd.add k) = some (.map (some mb)) := (World.cell?_alloc_lt wr _ _ (by rw [block_of_add]; exact hgb)).trans hgc1
    have hv := hwa.rng v (hasB_mem.1 hh)
    have htab2 := TabI.alloc htab (.cells #[.slice A' na ca, .int .i64 a.st, .slice M nm cm, .slice E ne ce] 33)
    have hkey := pairKey wr s v (WalkArith.wf_i64 (by omega)) (WalkArith.wf_i64 (by omega))
    have hlk := lkE_of_nxt hwa (s := s) (v := v)
    have d2 : (k : Int) < (n : Int) := b1
    have d3 : k < n := hlt
    clear hgc1 htab
    by_cases hneg : nxt a s v < 0
    ·have hrf : rf a s v = true := by simp [rf, hh, hneg]
     rw [if_pos hneg] at hlk
     have hlook : ∀ p : Nat, (Instr.lookup 150 (.map (some mb)) (.agg #[.int .i64 s, .int .i64 v]) true).run Tryz.prog ((wr.alloc (.cells #[.slice A' na ca, .int .i64 a.st, .slice M nm cm, .slice E ne ce] 33)).drewN p) = .ok (.tuple #[.int .i64 0, .bool false]) ((wr.alloc (.cells #[.slice A' na ca, .int .i64 a.st, .slice M nm cm, .slice E ne ce] 33)).drewN p) := fun p =>
      tab_run_miss 150 pairLaw Tryz.underlying150 Tryz.underlying3 rfl (TabI.drewN htab2 p) (s, v) hkey hlk
     have hres := HR.out.symm.trans (rfTo_no hxa hts hrf)
     subst hres
     have hlook0 := hlook 0
     have HH := Lib.hid hh; clear hh
     have HXA := Lib.hid hxa; clear hxa
     have HX2 := Lib.hid hx; clear hx
     have HTS := Lib.hid hts; clear hts
     have HMV := Lib.hid hmvk; clear hmvk
     have HWA := Lib.hid hwa; clear hwa
     have HLK := Lib.hid hlk; clear hlk
     clear hkey htab2 hrf
     go_wp2_with fail
     refine (alphabet_Contains_n A' ca na a.al v true _ HLA.out HH.out HRA.out (by omega) HAI.out).mono ?_
     rintro e w' ⟨rfl, rfl⟩
     go_wp2
     go_quiet (fail)
     go_wp2
     go_ret2
     exact ⟨_, rfl, World.ownsRow_nil _ _ _ _, below_drewN (hbl.alloc hsz _) _⟩
    ·have hrf : rf a s v = false := by simp [rf, hh, hneg]
     rw [if_neg hneg] at hlk
     have hmv : mv a s v = nxt a s v := by simp [mv, hh]
     rw [hmv] at hmvk
     obtain ⟨y, hy⟩ : ∃ y, nxt a s v = y := ⟨_, rfl⟩
     rw [hy] at hlk hmvk
     have hlook : ∀ p : Nat, (Instr.lookup 150 (.map (some mb)) (.agg #[.int .i64 s, .int .i64 v]) true).run Tryz.prog ((wr.alloc (.cells #[.slice A' na ca, .int .i64 a.st, .slice M nm cm, .slice E ne ce] 33)).drewN p) = .ok (.tuple #[.int .i64 y, .bool true]) ((wr.alloc (.cells #[.slice A' na ca, .int .i64 a.st, .slice M nm cm, .slice E ne ce] 33)).drewN p) := fun p =>
      tab_run_hit 150 pairLaw Tryz.underlying150 Tryz.underlying3 rfl (TabI.drewN htab2 p) (s, v) hkey y hlk
     have hlook0 := hlook 0
     have HS := Lib.hid (rfTo_step HX.out hxa hts hrf)
     have HNK := Lib.hid (nxk_set HML.out hmvk hts)
     obtain ⟨g, cap, he8, hgB, hglt⟩ := HO.out.form (by omega)
     injection he8 with he8 _ hcap
     subst he8 hcap
     have hgk : (iv (nxk (mvs (xs.map AV.a) t v) t k))[k]? = some (.int .i64 s) := by
      rw [iv_get]
      unfold nxk
      rw [List.getElem?_append_right (by rw [List.length_take]; omega), List.length_take, List.getElem?_drop]
      rw [show k + (k - min k (mvs (xs.map AV.a) t v).length) = k by have := HML.out; have := HTL.out; omega, hts]; rfl
     have HOA := Lib.hid (HO.out.alloc (.cells #[.slice A' na ca, .int .i64 a.st, .slice M nm cm, .slice E ne ce] 33))
     have ck : (wr.alloc (.cells #[.slice A' na ca, .int .i64 a.st, .slice M nm cm, .slice E ne ce] 33)).cell? ⟨g, k, none⟩ = some (.int .i64 s) := by rw [HOA.out.cellAt k (by omega)]; exact hgk
     have fk : (wr.alloc (.cells #[.slice A' na ca, .int .i64 a.st, .slice M nm cm, .slice E ne ce] 33)).frozen? ⟨g, k, none⟩ = false := HOA.out.frozenAt k
     have HH := Lib.hid hh; clear hh
     have HXA := Lib.hid hxa; clear hxa
     have HX2 := Lib.hid hx; clear hx
     have HTS := Lib.hid hts; clear hts
     have HMV := Lib.hid hmvk; clear hmvk
     have HWA := Lib.hid hwa; clear hwa
     have HLK := Lib.hid hlk; clear hlk
     have HGK := Lib.hid hgk; clear hgk
     clear hkey htab2 hrf hmv hy
     go_wp2_with fail
     refine (alphabet_Contains_n A' ca na a.al v true _ HLA.out HH.out HRA.out (by omega) HAI.out).mono ?_
     rintro e w' ⟨rfl, rfl⟩
     go_wp2
     go_quiet (fail)
     go_wp2
     go_roundw
     case rel =>
      refine ⟨k + 1, by omega, by go_num, HS, ?_, ?_⟩
      ·rw [HNK.out, ← iv_set]
       exact Lib.hid ((own_drewN HOA.out _).stored k (.int .i64 y)).1
      ·exact (below_drewN (hbel.alloc hsz1 _) _).setCell (by omega) _
     case measure => simp [intOf]; omega
  ·have hres := HR.out.symm.trans (rfTo_end HX.out (by rw [List.length_map, HL.out]; omega))
   subst hres
   have ho := HO.out
   rw [nxk_end HML.out (by rw [HTL.out]; omega)] at ho
   have hlen : (mvs (xs.map AV.a) t v).length = n := by rw [HML.out, HTL.out]
   have HOF := Lib.hid ho; clear ho
   have HLEN := Lib.hid hlen; clear hlen
   go_wp2
   go_ret2
   exact ⟨_, rfl, by rw [show ((some (mvs (xs.map AV.a) t v)).getD []) = mvs (xs.map AV.a) t v from rfl, HLEN.out]; exact own_base HOF.out (Nat.le_succ _), hbl⟩
end Go.Proofs.YtioijhpbedmeaaaGreatDoor

/- Walks: product.Compose, checkTuple, checkEvent. -/
import Derived.Test.YtbdliebjalghmaaDoorMh
import Derived.Test.YtbdliebjalghmaaDoorMi
namespace Go.Proofs.YtbdliebjalghmaaDoor
open Go.RowKit Go Go.Maps

/-- What Compose hands back. -/
def RetAut (r : Option Aut) (er : Int) (w : World) (e : Ending) (w' : World) : Prop :=
  Below w.heap.size w w' ∧ match r with
  | none => e = .returned (.tuple #[.agg #[.slice none 0 0, .int .i64 0, .slice none 0 0, .slice none 0 0], .int .i64 er])
  | some a => ∃ (A : Option Addr) (na ca : Nat) (M : Option Addr) (nm cm : Nat) (E : Option Addr) (ne ce : Nat),
      e = .returned (.tuple #[.agg #[.slice A na ca, .int .i64 a.st, .slice M nm cm, .slice E ne ce], .int .i64 0]) ∧ AutR w' w'.heap.size A na ca M nm cm E ne ce a

theorem Fr3.mono {r r' : Nat} {A M E : Option Addr} (h : Fr3 r A M E) (hr : r' ≤ r) : Fr3 r' A M E :=
  ⟨fun ad e => Nat.lt_of_le_of_lt hr (h.1 ad e), fun ad e => Nat.lt_of_le_of_lt hr (h.2.1 ad e), fun ad e => Nat.lt_of_le_of_lt hr (h.2.2 ad e)⟩
theorem RdI.keepF {w w' : World} {B r : Nat} {A : Option Addr} {l : List Int} (h : RdI w B A l) (hf : ∀ ad, A = some ad → r < ad.block) (hk : ∀ p : Addr, p.block < B → r < p.block → w'.cell? p = w.cell? p) : RdI w' B A l := fun k u hu => by
  obtain ⟨ad, e1, hb, hc⟩ := h k u hu
  exact ⟨ad, e1, hb, (hk _ (by rw [block_of_add]; exact hb) (by rw [block_of_add]; exact hf ad e1)).trans hc⟩
theorem RdX.keepF {w w' : World} {B r : Nat} {A : Option Addr} {l : List Ed} (h : RdX w B A l) (hf : ∀ ad, A = some ad → r < ad.block) (hk : ∀ p : Addr, p.block < B → r < p.block → w'.cell? p = w.cell? p) : RdX w' B A l := fun k e hu => by
  obtain ⟨ad, e1, hb, hc⟩ := h k e hu
  exact ⟨ad, e1, hb, fun j u hj => (hk _ (by rw [block_of_add]; exact hb) (by rw [block_of_add]; exact hf ad e1)).trans (hc j u hj)⟩
theorem AutR.keepF {w w' : World} {B r : Nat} {A M E : Option Addr} {na ca nm cm ne ce : Nat} {a : Aut} (h : AutR w B A na ca M nm cm E ne ce a) (hf : Fr3 r A M E) (hk : ∀ p : Addr, p.block < B → r < p.block → w'.cell? p = w.cell? p) : AutR w' B A na ca M nm cm E ne ce a :=
  ⟨h.la, h.ac, h.cA, h.ra.keepF hf.1 hk, h.lm, h.mc, h.cM, h.rm.keepF hf.2.1 hk, h.le, h.ec, h.cE, h.re.keepF hf.2.2 hk⟩


set_option maxRecDepth 100000 in
set_option maxHeartbeats 3200000 in
theorem compose_none (L : Option Addr) (c n : Nat) (er : Int) (w : World) (hS : ∀ w1, Below w.heap.size w w1 → Calls Tryd.prog 15 #[.slice L n c] w1 (RetSyn none er w1)) :
    Calls Tryd.prog 16 #[.slice L n c] w (RetAut none er w) := by
  have hB0 := box_below w (.cells #[.slice none 0 0, .int .i64 0, .slice none 0 0, .slice none 0 0] 29)
  have hr0 : Blk (w.alloc (.cells #[.slice none 0 0, .int .i64 0, .slice none 0 0, .slice none 0 0] 29)) w.heap.size 29 [.slice none 0 0, .int .i64 0, .slice none 0 0, .slice none 0 0] := Blk.new _ _ _
  have HS := Lib.hid (hS _ hB0)
  have HR0 := Lib.hid hr0; clear hr0
  clear hS
  go_enter Tryd.func16, Tryd.ntmps16
  go_wp2_with fail
  refine HS.out.mono ?_
  rintro e w1 ⟨hb, rfl⟩
  have hr1 := HR0.out.below hb (by simp)
  have f0 := hr1.free 0
  have f1 := hr1.free 1
  have f2 := hr1.free 2
  have f3 := hr1.free 3
  have e0 := hr1.cell (j := 0) rfl
  have e1 := hr1.cell (j := 1) rfl
  have e2 := hr1.cell (j := 2) rfl
  have e3 := hr1.cell (j := 3) rfl
  have l0 : w.heap.size < w1.heap.size := hr1.lt
  go_wp2
  have hb4 := (((hr1.set (j := 0) (by simp) (.slice none 0 0)).set (j := 1) (by simp) (.int .i64 0)).set (j := 2) (by simp) (.slice none 0 0)).set (j := 3) (by simp) (.slice none 0 0)
  have hb3 := hb4.below (box_below _ (.cells #[.slice none 0 0, .int .i64 0, .slice none 0 0, .slice none 0 0] 29)) hb4.lt
  have z0 := hb3.cell (j := 0) rfl
  have z1 := hb3.cell (j := 1) rfl
  have z2 := hb3.cell (j := 2) rfl
  have z3 := hb3.cell (j := 3) rfl
  have F0 := hB0.trans (hb.mono hB0.size)
  have F1 := (((F0.setCell (p := ⟨w.heap.size, 0, none⟩) (Nat.le_refl _) (.slice none 0 0)).setCell (p := ⟨w.heap.size, 1, none⟩) (Nat.le_refl _) (.int .i64 0)).setCell (p := ⟨w.heap.size, 2, none⟩) (Nat.le_refl _) (.slice none 0 0)).setCell (p := ⟨w.heap.size, 3, none⟩) (Nat.le_refl _) (.slice none 0 0)
  have F := F1.alloc F1.size (.cells #[.slice none 0 0, .int .i64 0, .slice none 0 0, .slice none 0 0] 29)
  refine bodyPost_ret (v := .tuple #[.agg #[.slice none 0 0, .int .i64 0, .slice none 0 0, .slice none 0 0], .int .i64 er]) (by simp [results, Tryd.results16, go_sem, z0, z1, z2, z3]) rfl ?_
  exact ⟨F, rfl⟩

set_option maxRecDepth 100000 in
set_option maxHeartbeats 3200000 in
theorem compose_some (L : Option Addr) (c n : Nat) (er : Int) (a : Aut) (T : List (List Int)) (w : World) (hS : ∀ w1, Below w.heap.size w w1 → Calls Tryd.prog 15 #[.slice L n c] w1 (RetSyn (some (a, T)) er w1)) :
    Calls Tryd.prog 16 #[.slice L n c] w (RetAut (some a) er w) := by
  have hB0 := box_below w (.cells #[.slice none 0 0, .int .i64 0, .slice none 0 0, .slice none 0 0] 29)
  have hr0 : Blk (w.alloc (.cells #[.slice none 0 0, .int .i64 0, .slice none 0 0, .slice none 0 0] 29)) w.heap.size 29 [.slice none 0 0, .int .i64 0, .slice none 0 0, .slice none 0 0] := Blk.new _ _ _
  have HS := Lib.hid (hS _ hB0)
  have HR0 := Lib.hid hr0; clear hr0
  clear hS
  obtain ⟨st, hst⟩ : ∃ st, st = a.st := ⟨_, rfl⟩
  have HST := Lib.hid hst; clear hst
  go_enter Tryd.func16, Tryd.ntmps16
  go_wp2_with fail
  refine HS.out.mono ?_
  rintro e w1 ⟨hb, A, na, ca, M, nm, cm, E, ne, ce, B, nb, cb, ts, rfl, haR, _, _, _, _, _, hfr⟩
  rw [← HST.out]
  have HA := Lib.hid haR
  have HFR := Lib.hid hfr; clear hfr
  clear haR
  have hr1 := HR0.out.below hb (by simp)
  have f0 := hr1.free 0
  have f1 := hr1.free 1
  have f2 := hr1.free 2
  have f3 := hr1.free 3
  have e0 := hr1.cell (j := 0) rfl
  have e1 := hr1.cell (j := 1) rfl
  have e2 := hr1.cell (j := 2) rfl
  have e3 := hr1.cell (j := 3) rfl
  have l0 : w.heap.size < w1.heap.size := hr1.lt
  go_wp2
  have hb4 := (((hr1.set (j := 0) (by simp) (.slice A na ca)).set (j := 1) (by simp) (.int .i64 st)).set (j := 2) (by simp) (.slice M nm cm)).set (j := 3) (by simp) (.slice E ne ce)
  have hb3 := hb4.below (box_below _ (.cells #[.slice A na ca, .int .i64 st, .slice M nm cm, .slice E ne ce] 29)) hb4.lt
  have z0 := hb3.cell (j := 0) rfl
  have z1 := hb3.cell (j := 1) rfl
  have z2 := hb3.cell (j := 2) rfl
  have z3 := hb3.cell (j := 3) rfl
  have F0 := hB0.trans (hb.mono hB0.size)
  have F1 := (((F0.setCell (p := ⟨w.heap.size, 0, none⟩) (Nat.le_refl _) (.slice A na ca)).setCell (p := ⟨w.heap.size, 1, none⟩) (Nat.le_refl _) (.int .i64 st)).setCell (p := ⟨w.heap.size, 2, none⟩) (Nat.le_refl _) (.slice M nm cm)).setCell (p := ⟨w.heap.size, 3, none⟩) (Nat.le_refl _) (.slice E ne ce)
  have F := F1.alloc F1.size (.cells #[.slice A na ca, .int .i64 st, .slice M nm cm, .slice E ne ce] 29)
  refine bodyPost_ret (v := .tuple #[.agg #[.slice A na ca, .int .i64 st, .slice M nm cm, .slice E ne ce], .int .i64 0]) (by simp [results, Tryd.results16, go_sem, z0, z1, z2, z3]) rfl ?_
  refine ⟨F, A, na, ca, M, nm, cm, E, ne, ce, by rw [HST.out], ?_⟩
  have hg : w1.grownBy ((((w1.setCell ⟨w.heap.size, 0, none⟩ (.slice A na ca)).setCell ⟨w.heap.size, 1, none⟩ (.int .i64 st)).setCell ⟨w.heap.size, 2, none⟩ (.slice M nm cm)).setCell ⟨w.heap.size, 3, none⟩ (.slice E ne ce)) (some w.heap.size) := (((grown_setCell _ _ _ _).trans (grown_setCell _ _ _ _)).trans (grown_setCell _ _ _ _)).trans (grown_setCell _ _ _ _)
  have h5 := (HA.out.keepF (r := w.heap.size) (Fr3.mono HFR.out (by simp)) fun p h1 h2 => World.cell?_of_block (hg.block _ h1 (by intro e; injection e with e; omega))).more hg.size
  exact (h5.below (box_below _ _)).more (box_below _ _).size
end Go.Proofs.YtbdliebjalghmaaDoor

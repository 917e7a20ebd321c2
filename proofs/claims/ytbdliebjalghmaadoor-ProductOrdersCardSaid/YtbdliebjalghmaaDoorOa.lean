/- Walks: product.Compose with a fresh result, at few automata. -/
import Derived.Test.YtbdliebjalghmaaDoorMm
import Derived.Test.YtbdliebjalghmaaDoorQf
namespace Go.Proofs.YtbdliebjalghmaaDoor
open Go.RowKit Go Go.Maps

theorem syn_few {l : List Aut} (h : ∀ a ∈ l, Sm a) (hl : l.length ≤ 3) : (∃ a T, synR l = some (a, T)) ∧ (noSt l = false → ¬ Many 4096 (stp l) (evs l) (ini l)) := by
  have hw : ∀ a ∈ l, WF a := fun a ha => (h a ha).wf
  have hp : prodN l ≤ 4096 := Nat.le_trans (prodN_few h hl) (by omega)
  refine ⟨?_, fun hn hm => not_many (box l) (by rw [box_len]; exact hp) (fun x hx => box_mem.2 (rch_tup hw hn hx)) hm⟩
  unfold synR
  by_cases hn : noSt l = true
  · rw [if_pos hn]; exact ⟨_, _, rfl⟩
  · rw [if_neg hn]
    obtain ⟨s, hs, _⟩ := synS_some hw (by simpa using hn) hp
    rw [hs]; exact ⟨_, _, rfl⟩
/-- what the walks want of a few small automata -/
structure FewL (l : List Aut) : Prop where
  chk : chkL l = 0
  st : ∀ a ∈ l, a.st ≤ 100
  wf : ∀ a ∈ l, WF a
  len : l.length ≤ 3
  syn : ∃ a T, synR l = some (a, T)
  nm : noSt l = false → ¬ Many 4096 (stp l) (evs l) (ini l)
theorem few_of {l : List Aut} (h : ∀ a ∈ l, Sm a) (hl : l.length ≤ 3) : FewL l :=
  ⟨sm_chk h hl, fun a ha => by have := (h a ha).st; omega, fun a ha => (h a ha).wf, hl, (syn_few h hl).1, (syn_few h hl).2⟩
theorem lst_few {ps : List Pt} (h : ∀ p ∈ ps, p.ok) : FewL (lstA ps) := few_of (lstA_sm h) (by rw [lstA_len]; omega)

/-- What Compose hands back: an automaton in blocks of the call's own. -/
def RetAutF (a : Aut) (w : World) (e : Ending) (w' : World) : Prop :=
  Below w.heap.size w w' ∧ ∃ (A : Option Addr) (na ca : Nat) (M : Option Addr) (nm cm : Nat) (E : Option Addr) (ne ce : Nat),
      e = .returned (.tuple #[.agg #[.slice A na ca, .int .i64 a.st, .slice M nm cm, .slice E ne ce], .int .i64 0]) ∧ AutR w' w'.heap.size A na ca M nm cm E ne ce a ∧ Fr3 w.heap.size A M E
set_option maxRecDepth 100000 in
set_option maxHeartbeats 3200000 in
theorem compose_new (L : Option Addr) (c n : Nat) (er : Int) (a : Aut) (T : List (List Int)) (w : World) (hS : ∀ w1, Below w.heap.size w w1 → Calls Tryd.prog 15 #[.slice L n c] w1 (RetSyn (some (a, T)) er w1)) :
    Calls Tryd.prog 16 #[.slice L n c] w (RetAutF a w) := by
  have hB0 := box_below w (.cells #[.slice none 0 0, .int .i64 0, .slice none 0 0, .slice none 0 0] 29)
  have hr0 : Blk (w.alloc (.cells #[.slice none 0 0, .int .i64 0, .slice none 0 0, .slice none 0 0] 29)) w.heap.size 29 [.slice none 0 0, .int .i64 0, .slice none 0 0, .slice none 0 0] := Blk.new _ _ _
  have HS := Lib.hid (hS _ hB0)
  have HR0 := Lib.hid hr0; clear hr0
  clear hS
  obtain ⟨st, hst⟩ : ∃ st, st = a.st := ⟨_, rfl⟩
  have HST := Lib.hid hst; clear hst
  go_enter Tryd.func16, Tryd.ntmps16
  go_wp2_with fail
  refine HS.out.mono ?_
  rintro e w1 ⟨hb, A, na, ca, M, nm, cm, E, ne, ce, B, nb, cb, ts, rfl, haR, _, _, _, _, _, hfr⟩
  rw [← HST.out]
  have HA := Lib.hid haR
  have HFR := Lib.hid hfr; clear hfr
  clear haR
  have hr1 := HR0.out.below hb (by simp)
  have f0 := hr1.free 0
  have f1 := hr1.free 1
  have f2 := hr1.free 2
  have f3 := hr1.free 3
  have e0 := hr1.cell (j := 0) rfl
  have e1 := hr1.cell (j := 1) rfl
  have e2 := hr1.cell (j := 2) rfl
  have e3 := hr1.cell (j := 3) rfl
  have l0 : w.heap.size < w1.heap.size := hr1.lt
  go_wp2
  have hb4 := (((hr1.set (j := 0) (by simp) (.slice A na ca)).set (j := 1) (by simp) (.int .i64 st)).set (j := 2) (by simp) (.slice M nm cm)).set (j := 3) (by simp) (.slice E ne ce)
  have hb3 := hb4.below (box_below _ (.cells #[.slice A na ca, .int .i64 st, .slice M nm cm, .slice E ne ce] 29)) hb4.lt
  have z0 := hb3.cell (j := 0) rfl
  have z1 := hb3.cell (j := 1) rfl
  have z2 := hb3.cell (j := 2) rfl
  have z3 := hb3.cell (j := 3) rfl
  have F0 := hB0.trans (hb.mono hB0.size)
  have F1 := (((F0.setCell (p := ⟨w.heap.size, 0, none⟩) (Nat.le_refl _) (.slice A na ca)).setCell (p := ⟨w.heap.size, 1, none⟩) (Nat.le_refl _) (.int .i64 st)).setCell (p := ⟨w.heap.size, 2, none⟩) (Nat.le_refl _) (.slice M nm cm)).setCell (p := ⟨w.heap.size, 3, none⟩) (Nat.le_refl _) (.slice E ne ce)
  have F := F1.alloc F1.size (.cells #[.slice A na ca, .int .i64 st, .slice M nm cm, .slice E ne ce] 29)
  refine bodyPost_ret (v := .tuple #[.agg #[.slice A na ca, .int .i64 st, .slice M nm cm, .slice E ne ce], .int .i64 0]) (by simp [results, Tryd.results16, go_sem, z0, z1, z2, z3]) rfl ?_
  refine ⟨F, A, na, ca, M, nm, cm, E, ne, ce, by rw [HST.out], ?_, Fr3.mono HFR.out (by simp)⟩
  have hg : w1.grownBy ((((w1.setCell ⟨w.heap.size, 0, none⟩ (.slice A na ca)).setCell ⟨w.heap.size, 1, none⟩ (.int .i64 st)).setCell ⟨w.heap.size, 2, none⟩ (.slice M nm cm)).setCell ⟨w.heap.size, 3, none⟩ (.slice E ne ce)) (some w.heap.size) := (((grown_setCell _ _ _ _).trans (grown_setCell _ _ _ _)).trans (grown_setCell _ _ _ _)).trans (grown_setCell _ _ _ _)
  have h5 := (HA.out.keepF (r := w.heap.size) (Fr3.mono HFR.out (by simp)) fun p h1 h2 => World.cell?_of_block (hg.block _ h1 (by intro e; injection e with e; omega))).more hg.size
  exact (h5.below (box_below _ _)).more (box_below _ _).size

/-- what the walks want of a few automata -/
theorem FewL.of_prod {l : List Aut} (hw : ∀ a ∈ l, WF a) (hs : ∀ a ∈ l, a.st ≤ 100) (hl : l.length ≤ 3) (hp : prodN l ≤ 4096) : FewL l := by
  refine ⟨chkL_mk (by omega) hw, hs, hw, hl, ?_, fun hn hm => not_many (box l) (by rw [box_len]; exact hp) (fun x hx => box_mem.2 (rch_tup hw hn hx)) hm⟩
  unfold synR
  by_cases hn : noSt l = true
  · rw [if_pos hn]; exact ⟨_, _, rfl⟩
  · rw [if_neg hn]
    obtain ⟨s, hs, _⟩ := synS_some hw (by simpa using hn) hp
    rw [hs]; exact ⟨_, _, rfl⟩
theorem compose_few (L : Option Addr) (c n : Nat) (xs : List AV) (a : Aut) (T : List (List Int)) (w : World) (hl : xs.length = n) (h : RdL w w.heap.size L xs) (hc1 : n ≤ c) (hc2 : c ≤ 9223372036854775807) (hf : FewL (xs.map AV.a)) (ha : synR (xs.map AV.a) = some (a, T)) :
    Calls Tryd.prog 16 #[.slice L n c] w (RetAutF a w) :=
  compose_new L c n 3 a T w (fun W hW => by
    have := product_Synchronous L c n xs W hl ((h.below hW).more hW.size) hc1 hc2 hf.chk hf.st
    rwa [ha] at this)
theorem AutR.ok {w : World} {B : Nat} {A : Option Addr} {na ca : Nat} {M : Option Addr} {nm cm : Nat} {E : Option Addr} {ne ce : Nat} {a : Aut} (h : AutR w B A na ca M nm cm E ne ce a) : (AV.mk A na ca M nm cm E ne ce a).ok w B := h
theorem two_rdl {w : World} {b : Nat} {x y : AV} (h : Blk w b 29 (avc x ++ avc y)) (hx : x.ok w w.heap.size) (hy : y.ok w w.heap.size) : RdL w w.heap.size (some ⟨b, 0, none⟩) [x, y] :=
  ⟨Blk.rdl (by simpa using h), fun z hz => by
    rcases List.mem_cons.1 hz with rfl | hz
    · exact hx
    · obtain rfl := List.mem_singleton.1 hz; exact hy⟩
end Go.Proofs.YtbdliebjalghmaaDoor

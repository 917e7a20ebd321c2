/- Walks: slices.DeleteFunc at ints, with a function that captures one value (as in chapter 45); projection.Alike; steps where there is no state; diagnosability.Model.run. -/
import Derived.Test.YtddhaidimadliaaJy
import Derived.Test.YtddhaidimadliaaNd
import Derived.Lib.SliceRun
import Derived.Deep.Cut
import Derived.BigQuiet
namespace Go.Proofs.Ytddhaidimadliaa
open Go.RowKit Go

/-- the row while it is rewritten: what is kept so far, and what has not been looked at -/
structure DelM (w0 W : World) (g cap n : Nat) (l : List Int) (p : Int → Bool) (i j : Nat) : Prop where
 gr : w0.grownBy W (some g)
 row : ∃ cs : List Value, Blk W g 3 cs ∧ cs.length = cap ∧ cs.take i = iv ((l.take j).filter fun x => !p x) ∧ ∀ k, j ≤ k → k < n → cs[k]? = (iv l)[k]?
 len : i = ((l.take j).filter fun x => !p x).length
theorem take_snocD {l : List Int} {j : Nat} {x : Int} (h : l[j]? = some x) : l.take (j + 1) = l.take j ++ [x] := by
 rw [List.take_add_one, h]; rfl
theorem DelM.skip {w0 W : World} {g cap n : Nat} {l : List Int} {p : Int → Bool} {i j : Nat} {x : Int} (h : DelM w0 W g cap n l p i j) (hx : l[j]? = some x) (hp : p x = true) : DelM w0 W g cap n l p i (j + 1) := by
 have e : (l.take (j + 1)).filter (fun x => !p x) = (l.take j).filter fun x => !p x := by
  rw [take_snocD hx, List.filter_append, List.filter_cons_of_neg (by simp [hp])]; simp
 obtain ⟨cs, h1, h2, h3, h4⟩ := h.row
 exact ⟨h.gr, ⟨cs, h1, h2, by rw [e]; exact h3, fun k hk hn => h4 k (by omega) hn⟩, by rw [e]; exact h.len⟩
theorem DelM.keep {w0 W : World} {g cap n : Nat} {l : List Int} {p : Int → Bool} {i j : Nat} {x : Int} (h : DelM w0 W g cap n l p i j) (hx : l[j]? = some x) (hp : p x = false) (hij : i ≤ j) (hc : j < cap) : DelM w0 (W.setCell ⟨g, i, none⟩ (.int .i64 x)) g cap n l p (i + 1) (j + 1) := by
 have e : (l.take (j + 1)).filter (fun x => !p x) = (l.take j).filter (fun x => !p x) ++ [x] := by
  rw [take_snocD hx, List.filter_append, List.filter_cons_of_pos (by simp [hp])]; rfl
 obtain ⟨cs, h1, h2, h3, h4⟩ := h.row
 have hi : i < cs.length := by omega
 refine ⟨⟨h.gr.os, h.gr.tape, h.gr.output, by simpa [World.setCell] using h.gr.size, fun k hk hne => ?_⟩, ⟨cs.set i (.int .i64 x), h1.set hi _, by rw [List.length_set]; exact h2, ?_, fun k hk hn => ?_⟩, by rw [e, List.length_append, ← h.len]; rfl⟩
 ·have hs := h.gr.size
  rw [← h.gr.block k hk hne]
  exact (grown_setCell W g i (.int .i64 x)).block k (by omega) hne
 ·rw [e, iv_append, ← h3, List.take_add_one, List.take_set, List.getElem?_set_self hi]
  rw [List.set_eq_of_length_le (by rw [List.length_take]; omega)]
  rfl
 ·rw [List.getElem?_set_ne (by omega)]
  exact h4 k (by omega) hn
theorem DelM.cell {w0 W : World} {g cap n : Nat} {l : List Int} {p : Int → Bool} {i j : Nat} {x : Int} (h : DelM w0 W g cap n l p i j) (hx : l[j]? = some x) (hn : j < n) : W.cell? ⟨g, j, none⟩ = some (.int .i64 x) := by
 obtain ⟨cs, h1, _, _, h4⟩ := h.row
 refine h1.cell ?_
 rw [h4 j (Nat.le_refl _) hn, iv_get, hx]
 rfl
end Go.Proofs.Ytddhaidimadliaa

/- Walks: projection.Alike; Model.step where there is no state; diagnosability.Model.run. -/
namespace Go.Proofs.Ytddhaidimadliaa
open Go.RowKit Go

theorem automaton_checkState_bad (A M E : Option Addr) (na ca nm cm ne ce : Nat) (a : Aut) (s : Int) (w : World) (h : AutR w w.heap.size A na ca M nm cm E ne ce a) (hw : WF a) (h3 : 0 ≤ s) (h4 : a.st ≤ s) :
  Calls Try.prog 123 #[.agg #[.slice A na ca, .int .i64 a.st, .slice M nm cm, .slice E ne ce], .int .i64 s] w fun e w' => e = .returned (.int .i64 2) ∧ Below w.heap.size w w' := by
 obtain ⟨st, hst⟩ : ∃ s, a.st = s := ⟨_, rfl⟩
 rw [hst] at h4 ⊢
 have hb1 := box_below w (.cells #[.slice A na ca, .int .i64 st, .slice M nm cm, .slice E ne ce] 34)
 obtain ⟨w1, hw1⟩ : ∃ w1, w1 = w.alloc (.cells #[.slice A na ca, .int .i64 st, .slice M nm cm, .slice E ne ce] 34) := ⟨_, rfl⟩
 have k3 : Blk w1 w.heap.size 34 [.slice A na ca, .int .i64 st, .slice M nm cm, .slice E ne ce] := by rw [hw1]; exact Blk.new _ _ [_, _, _, _]
 rw [← hw1] at hb1
 have HC := Lib.hid (automaton_Check A na ca M nm cm E ne ce a w1 ((h.below hb1).more hb1.size))
 rw [hw.chk, hst] at HC
 have HW1 := Lib.hid hw1; clear hw1
 have HB1 := Lib.hid hb1; clear hb1
 have K3 := Lib.hid k3; clear k3
 clear h hw hst
 go_enter Try.func123, Try.ntmps123
 go_wp2_with fail
 rw [← HW1.out]
 refine HC.out.mono ?_
 rintro e w2 ⟨rfl, hb2⟩
 have HB2 := Lib.hid (HB1.out.trans (hb2.mono HB1.out.size))
 have c1 := (K3.out.below hb2 K3.out.lt).cell (j := 1) rfl
 have b1 : ¬ s < 0 := by omega
 have b2 : st ≤ s := by omega
 clear hb2 HC
 go_wp2
 go_ret
 exact ⟨rfl, HB2.out⟩
theorem nxt_out {a : Aut} (hw : WF a) {s v : Int} (h : a.st ≤ s) : ¬ 0 ≤ nxt a s v := fun h9 => by
 have := (hw.nxt_rng (s := s) (v := v) (by omega)).2.2.2.2
 omega
set_option maxRecDepth 100000 in
set_option maxHeartbeats 1600000 in
theorem automaton_Step_bad (x : AV) (s v : Int) (w : World) (hx : x.ok w w.heap.size) (hw : WF x.a) (h0 : 0 ≤ s) (h1 : x.a.st ≤ s) :
  Calls Try.prog 110 #[.agg #[.slice x.A x.na x.ca, .int .i64 x.a.st, .slice x.M x.nm x.cm, .slice x.E x.ne x.ce], .int .i64 s, .int .i64 v] w fun e w' => (∃ r, e = .returned (.tuple #[.int .i64 (stpV x.a s v), .bool (decide (0 ≤ nxt x.a s v)), .int .i64 r])) ∧ Below w.heap.size w w' := by
 have e1 : stpV x.a s v = 0 := by unfold stpV; rw [if_neg (nxt_out hw h1)]
 have e2 : decide (0 ≤ nxt x.a s v) = false := decide_eq_false (nxt_out hw h1)
 rw [e1, e2]
 obtain ⟨A, na, ca, M, nm, cm, E, ne, ce, a⟩ := x
 dsimp only at hw h1 ⊢
 have hb1 := box_below w (.cells #[.slice A na ca, .int .i64 a.st, .slice M nm cm, .slice E ne ce] 34)
 obtain ⟨w1, hw9⟩ : ∃ w1, w1 = w.alloc (.cells #[.slice A na ca, .int .i64 a.st, .slice M nm cm, .slice E ne ce] 34) := ⟨_, rfl⟩
 have kx : Blk w1 w.heap.size 34 [.slice A na ca, .int .i64 a.st, .slice M nm cm, .slice E ne ce] := by rw [hw9]; exact Blk.new _ _ [_, _, _, _]
 rw [← hw9] at hb1
 have HG0 := Lib.hid (fun (W : World) (hb : Below w1.heap.size w1 W) => Blk.c4 (kx.below hb kx.lt))
 have HXK := Lib.hid (fun (W : World) (hb : Below w1.heap.size w1 W) => (show AutR W W.heap.size A na ca M nm cm E ne ce a from AutR.more (AutR.below hx (hb1.trans (hb.mono hb1.size))) (hb1.trans (hb.mono hb1.size)).size))
 have HC1 := Lib.hid (automaton_checkState_bad A M E na ca nm cm ne ce a s w1 (HXK.out w1 (Below.refl _ _)) hw h0 h1)
 obtain ⟨sv, hsv⟩ : ∃ z, a.st = z := ⟨_, rfl⟩
 rw [hsv] at hw9 HG0 HC1 ⊢
 obtain ⟨a0, a1, a2, a3⟩ := HG0.out w1 (Below.refl _ _)
 have HW9 := Lib.hid hw9; clear hw9
 have HB1 := Lib.hid hb1; clear hb1
 have lx := kx.lt
 clear kx hx hsv hw h1 e1 e2
 go_enter Try.func110, Try.ntmps110
 go_wp2_with fail
 rw [← HW9.out]
 refine HC1.out.mono ?_
 rintro e w2 ⟨rfl, hb2⟩
 have HB2 := Lib.hid (HB1.out.trans (hb2.mono HB1.out.size))
 clear a0 a1 a2 a3 HC1 hb2
 go_wp2
 refine bodyPost_ret (v := .tuple #[.int .i64 0, .bool false, .int .i64 2]) (by simp [results, Try.results110, go_sem]) rfl ?_
 exact ⟨⟨2, rfl⟩, HB2.out⟩
set_option maxRecDepth 100000 in
set_option maxHeartbeats 1600000 in
theorem dm_step_bad (z : DV) (s v : Int) (w : World) (h : z.ok w w.heap.size) (hw : WF z.x.a) (h0 : 0 ≤ s) (h1 : z.x.a.st ≤ s) :
  Calls Try.prog 73 #[.agg (dvc z).toArray, .int .i64 s, .int .i64 v] w fun e w' => e = .returned (.tuple #[.int .i64 (stpV z.x.a s v), .bool (decide (0 ≤ nxt z.x.a s v))]) ∧ Below w.heap.size w w' := by
 obtain ⟨⟨A, na, ca, M, nm, cm, E, ne, ce, a⟩, V, nv, cv, l⟩ := z
 have hb1 := box_below w (.cells #[.slice A na ca, .int .i64 a.st, .slice M nm cm, .slice E ne ce, .slice V nv cv] 37)
 obtain ⟨w1, hw1⟩ : ∃ w1, w1 = w.alloc (.cells #[.slice A na ca, .int .i64 a.st, .slice M nm cm, .slice E ne ce, .slice V nv cv] 37) := ⟨_, rfl⟩
 have kx : Blk w1 w.heap.size 37 [.slice A na ca, .int .i64 a.st, .slice M nm cm, .slice E ne ce, .slice V nv cv] := by rw [hw1]; exact Blk.new _ _ [_, _, _, _, _]
 rw [← hw1] at hb1
 have HK := Lib.hid (fun (W : World) (hb : Below w1.heap.size w1 W) => kx.below hb kx.lt)
 have HOK := Lib.hid (fun (W : World) (hb : Below w1.heap.size w1 W) => (h.below (hb1.trans (hb.mono hb1.size))).more (hb1.trans (hb.mono hb1.size)).size)
 have lx := kx.lt
 clear kx h
 have HC := Lib.hid (automaton_Step_bad ⟨A, na, ca, M, nm, cm, E, ne, ce, a⟩ s v w1 (HOK.out w1 (Below.refl _ _)).x hw h0 h1)
 dsimp only at HC
 unfold dvc
 dsimp only
 obtain ⟨sv, hsv⟩ : ∃ s, a.st = s := ⟨_, rfl⟩
 rw [hsv] at hw1 HK HC ⊢
 obtain ⟨to9, ht9⟩ : ∃ z, stpV a s v = z := ⟨_, rfl⟩
 obtain ⟨ps9, hp9⟩ : ∃ z, decide (0 ≤ nxt a s v) = z := ⟨_, rfl⟩
 rw [ht9, hp9] at HC ⊢
 have k0 := HK.out w1 (Below.refl _ _)
 have a0 := k0.cell (j := 0) rfl
 have a1 := k0.cell (j := 1) rfl
 have a2 := k0.cell (j := 2) rfl
 have a3 := k0.cell (j := 3) rfl
 clear k0
 have HW1 := Lib.hid hw1; clear hw1
 have HB1 := Lib.hid hb1; clear hb1
 clear hsv hw h1 ht9 hp9
 go_enter Try.func73, Try.ntmps73
 go_wp2_with fail
 rw [← HW1.out]
 refine HC.out.mono ?_
 rintro e w2 ⟨⟨r9, rfl⟩, hb2⟩
 have HB2 := Lib.hid (HB1.out.trans (hb2.mono HB1.out.size))
 clear a0 a1 a2 a3 HC hb2
 go_wp2
 refine bodyPost_ret (v := .tuple #[.int .i64 to9, .bool ps9]) (by simp [results, Try.results73, go_sem]) rfl ?_
 exact ⟨rfl, HB2.out⟩
theorem dm_step_any (z : DV) (s v : Int) (w : World) (h : z.ok w w.heap.size) (hw : WF z.x.a) (h0 : 0 ≤ s) :
  Calls Try.prog 73 #[.agg (dvc z).toArray, .int .i64 s, .int .i64 v] w fun e w' => e = .returned (.tuple #[.int .i64 (stpV z.x.a s v), .bool (decide (0 ≤ nxt z.x.a s v))]) ∧ Below w.heap.size w w' := by
 by_cases h1 : s < z.x.a.st
 ·exact dm_step z s v w h hw h0 h1
 ·exact dm_step_bad z s v w h hw h0 (by omega)
/-- what a run returns: a state, whether there was a fault, and whether it was possible -/
def RetRn (o : Option (Int × Bool)) (w : World) (e : Ending) (w' : World) : Prop := ∃ (t : Int) (g p : Bool), e = .returned (.tuple #[.int .i64 t, .bool g, .bool p]) ∧ o = (if p = true then some (t, g) else none) ∧ Below w.heap.size w w'
theorem runC_one {m : Dm} {c s x : Int} {ws : List Int} {f : Bool} {k : Nat} (hx : ws[k]? = some x) : runC m c s (ws.drop k) f = if hasB m.a.al x = true ∧ 0 ≤ nxt m.a s x then runC m c (nxt m.a s x) (ws.drop (k + 1)) (f || m.ft x == c) else none := by
 obtain ⟨hk, he⟩ := List.getElem?_eq_some_iff.1 hx
 rw [List.drop_eq_getElem_cons hk, he]
 rfl
set_option maxRecDepth 100000 in
set_option maxHeartbeats 1600000 in
theorem dm_run (z : DV) (s0 c : Int) (W : Option Addr) (nw cw : Nat) (ws : List Int) (w : World) (h : z.ok w w.heap.size) (hw : WF z.x.a) (hev : ∀ x ∈ z.x.a.al, 0 ≤ x ∧ x < (z.nv : Int)) (hna : z.x.na ≤ 4096) (h0 : 0 ≤ s0)
  (hl : ws.length = nw) (hcw : nw ≤ cw) (hcw2 : cw ≤ 9223372036854775807) (hr : RdI w w.heap.size W ws) :
  Calls Try.prog 69 #[.agg (dvc z).toArray, .int .i64 s0, .slice W nw cw, .int .i64 c] w (RetRn (runC z.m c s0 ws false) w) := by
 obtain ⟨⟨A, na, ca, M, nm, cm, E, ne, ce, a⟩, V, nv, cv, l⟩ := z
 dsimp only at hw hev hna ⊢
 have HLL := Lib.hid h.ll
 have HLA := Lib.hid h.x.la
 have HEV := Lib.hid hev
 obtain ⟨w1, hw1⟩ : ∃ w1, w1 = w.alloc (.cells #[.slice A na ca, .int .i64 a.st, .slice M nm cm, .slice E ne ce, .slice V nv cv] 37) := ⟨_, rfl⟩
 have hb1 := box_below w (.cells #[.slice A na ca, .int .i64 a.st, .slice M nm cm, .slice E ne ce, .slice V nv cv] 37)
 have kx : Blk w1 w.heap.size 37 [.slice A na ca, .int .i64 a.st, .slice M nm cm, .slice E ne ce, .slice V nv cv] := by rw [hw1]; exact Blk.new _ _ [_, _, _, _, _]
 rw [← hw1] at hb1
 have HK := Lib.hid (fun (W : World) (hb : Below w1.heap.size w1 W) => kx.below hb kx.lt)
 have HOK := Lib.hid (fun (W : World) (hb : Below w1.heap.size w1 W) => (h.below (hb1.trans (hb.mono hb1.size))).more (hb1.trans (hb.mono hb1.size)).size)
 have HRW := Lib.hid (fun (X : World) (hb : Below w1.heap.size w1 X) => hr.below (hb1.trans (hb.mono hb1.size)))
 have HS := Lib.hid (fun (W : World) (hb : Below w1.heap.size w1 W) (s v : Int) (g0 : 0 ≤ s) => dm_step_any ⟨⟨A, na, ca, M, nm, cm, E, ne, ce, a⟩, V, nv, cv, l⟩ s v W (HOK.out W hb) hw g0)
 have HBL := Lib.hid (fun (W : World) (hb : Below w1.heap.size w1 W) => hb1.trans (hb.mono hb1.size))
 unfold dvc at HS ⊢
 dsimp only at HS ⊢
 obtain ⟨mm, hmm⟩ : ∃ m, DV.m ⟨⟨A, na, ca, M, nm, cm, E, ne, ce, a⟩, V, nv, cv, l⟩ = m := ⟨_, rfl⟩
 rw [hmm]
 have hma : mm.a = a := by rw [← hmm]; rfl
 have HFT := Lib.hid (fun (j : Nat) (e : Ev) (hj : l[j]? = some e) => (show mm.ft (j : Int) = e.fault by rw [← hmm]; simp [Dm.ft, DV.m, gI, hj]))
 have HCN := Lib.hid (fun (X : World) (hb : Below w1.heap.size w1 X) (x : Int) (q : Bool) (hq : hasB a.al x = q) => alphabet_Contains_n A ca na a.al x q X h.x.la hq (HOK.out X hb).x.ra (by omega) hw.inc)
 obtain ⟨sv, hsv⟩ : ∃ s, a.st = s := ⟨_, rfl⟩
 rw [hsv] at hw1 HK HS ⊢
 obtain ⟨o, ho⟩ : ∃ o, runC mm c s0 ws false = o := ⟨_, rfl⟩
 rw [ho]
 have HO0 := Lib.hid (show o = runC mm c s0 (ws.drop 0) false from ho.symm)
 have HW1 := Lib.hid hw1; clear hw1
 have HL := Lib.hid hl; clear hl
 have HMA := Lib.hid hma; clear hma
 have HSV := Lib.hid hsv; clear hsv
 clear h kx hb1 hw hev hr hmm ho
 go_enter Try.func69, Try.ntmps69
 go_upto_region 1 with fail
 rw [← HW1.out]
 go_wp2_with fail
 go_loopw [1, 8, 9, 10, 12, 15] (fun s1 s8 s9 s10 s12 s15 wr => ∃ (k : Nat) (s : Int) (f : Bool) (v8 v10 v12 : Value), s1 = .int .i64 s ∧ s8 = v8 ∧ s9 = .bool f ∧ s10 = v10 ∧ s12 = v12 ∧ s15 = .int .i64 k ∧ k ≤ nw ∧ 0 ≤ s ∧ Hid (o = runC mm c s (ws.drop k) f) ∧ Hid (Below w1.heap.size w1 wr)) (fun _ _ _ _ _ s15 _ => nw - (intOf s15).toNat)
 case atStart => exact ⟨0, s0, false, _, _, _, rfl, rfl, rfl, rfl, rfl, rfl, Nat.zero_le _, h0, HO0, Lib.hid (Below.refl _ _)⟩
 case round =>
  clear HO0
  obtain ⟨k, s, f, v8, v10, v12, rfl, rfl, rfl, rfl, rfl, rfl, hk, hs0, HO, HB⟩ := hrel
  have a0 := (HK.out wr HB.out).cell (j := 0) rfl
  have a1 := (HK.out wr HB.out).cell (j := 1) rfl
  by_cases hlt : k < nw
  ·obtain ⟨x, hx⟩ : ∃ x, ws[k]? = some x := ⟨_, List.getElem?_eq_getElem (by have := HL.out; omega)⟩
   obtain ⟨ad, rfl, hab, hcx⟩ := HRW.out wr HB.out k (.int .i64 x) (by simp [iv, hx])
   have b1 : (k : Int) < (nw : Int) := by omega
   have ho := HO.out
   rw [runC_one hx, HMA.out] at ho
   obtain ⟨q, hq⟩ : ∃ q, hasB a.al x = q := ⟨_, rfl⟩
   have HC := Lib.hid (HCN.out wr HB.out x q hq)
   clear hx HO hab
   go_wp2_with fail
   refine HC.out.mono ?_
   rintro e w' ⟨rfl, rfl⟩
   clear HC hcx
   cases q with
   | false =>
    rw [if_neg (by rw [hq]; simp)] at ho
    have HO2 := Lib.hid ho; clear ho
    clear hq a0 a1
    go_wp2
    refine bodyPost_ret (v := .tuple #[.int .i64 0, .bool false, .bool false]) (by simp [results, Try.results69, go_sem]) rfl ?_
    exact ⟨0, false, false, rfl, HO2.out, HBL.out _ HB.out⟩
   | true =>
    have hxr := HEV.out x (hasB_mem.1 hq)
    obtain ⟨j, rfl⟩ : ∃ j : Nat, x = (j : Int) := ⟨x.toNat, by omega⟩
    have HSC := Lib.hid (HS.out wr HB.out s (j : Int) hs0)
    obtain ⟨t9, hto⟩ : ∃ z, stpV a s (j : Int) = z := ⟨_, rfl⟩
    obtain ⟨ps, hps⟩ : ∃ z, decide (0 ≤ nxt a s (j : Int)) = z := ⟨_, rfl⟩
    rw [hto, hps] at HSC
    have a2 := (HK.out wr HB.out).cell (j := 2) rfl
    have a3 := (HK.out wr HB.out).cell (j := 3) rfl
    have a4 := (HK.out wr HB.out).cell (j := 4) rfl
    have HTO := Lib.hid hto; clear hto
    have HPS := Lib.hid hps; clear hps
    have HO2 := Lib.hid ho; clear ho
    have HQ := Lib.hid hq; clear hq
    go_wp2_with fail
    refine HSC.out.mono ?_
    rintro e w2 ⟨rfl, hb2⟩
    have HB2 := Lib.hid (HB.out.trans (hb2.mono HB.out.size))
    clear HSC a0 a1 a2 a3 a4 hb2
    cases ps with
    | false =>
     have HO3 := Lib.hid (show o = none by rw [HO2.out, if_neg (by have := of_decide_eq_false HPS.out; exact fun h9 => this h9.2)])
     go_wp2
     refine bodyPost_ret (v := .tuple #[.int .i64 0, .bool false, .bool false]) (by simp [results, Try.results69, go_sem]) rfl ?_
     exact ⟨0, false, false, rfl, HO3.out, HBL.out _ HB2.out⟩
    | true =>
     have hp := of_decide_eq_true HPS.out
     have e1 : t9 = nxt a s (j : Int) := by rw [← HTO.out]; unfold stpV; rw [if_pos hp]
     have ht0 : 0 ≤ t9 := by rw [e1]; exact hp
     have HO3 := Lib.hid (show o = runC mm c t9 (ws.drop (k + 1)) (f || mm.ft (j : Int) == c) by rw [HO2.out, if_pos ⟨HQ.out, hp⟩, e1])
     have a4 := (HK.out w2 HB2.out).cell (j := 4) rfl
     obtain ⟨ev, e, rfl, hvb, hje, hes, q0, q1, q2, q3, q4⟩ := (HOK.out w2 HB2.out).rl.at_ (k := j) (by have h9 := HLL.out; dsimp only at h9 ⊢; omega)
     have p4' := ev_cells (j := 3) q4
     have b2 : (j : Int) < (nv : Int) := by omega
     have HF := Lib.hid (HFT.out j e hje)
     clear hp e1 q0 q1 q2 q3 hje hes hvb
     cases f with
     | true =>
      go_wp2
      go_roundw
      case rel => exact ⟨k + 1, t9, true, _, _, _, rfl, rfl, rfl, rfl, rfl, by go_num, by omega, ht0, Lib.hid (by rw [HO3.out]; rfl), HB2⟩
      case measure => simp [intOf]; omega
     | false =>
      obtain ⟨fq, hfq⟩ : ∃ b, (e.fault == c) = b := ⟨_, rfl⟩
      go_wp2
      go_roundw
      case rel => exact ⟨k + 1, t9, fq, _, _, _, rfl, rfl, rfl, rfl, rfl, by go_num, by omega, ht0, Lib.hid (by rw [HO3.out, HF.out, hfq, Bool.false_or]), HB2⟩
      case measure => simp [intOf]; omega
  ·obtain rfl : k = nw := by omega
   have b1 : ¬ (k : Int) < (k : Int) := by omega
   have ho := HO.out
   rw [List.drop_of_length_le (by have := HL.out; omega)] at ho
   unfold runC at ho
   rw [HMA.out, HSV.out] at ho
   have HO3 := Lib.hid ho
   clear HO ho
   go_wp2
   go_quiet (fail)
   go_wp2
   refine bodyPost_ret (v := .tuple #[.int .i64 s, .bool f, .bool (decide (0 < sv))]) (by simp [results, Try.results69, go_sem]) rfl ?_
   exact ⟨s, f, decide (0 < sv), rfl, by rw [HO3.out]; by_cases h9 : 0 < sv <;> simp [h9], HBL.out _ (below_drewN HB.out _)⟩
end Go.Proofs.Ytddhaidimadliaa

/- Walk: diagnosability.Verify. -/
namespace Go.Proofs.Ytddhaidimadliaa
open Go.RowKit Go

def C5 (W : World) (b : Nat) (v0 v1 v2 v3 v4 : Value) : Prop := W.cell? ⟨b, 0, none⟩ = some v0 ∧ W.cell? ⟨b, 1, none⟩ = some v1 ∧ W.cell? ⟨b, 2, none⟩ = some v2 ∧ W.cell? ⟨b, 3, none⟩ = some v3 ∧ W.cell? ⟨b, 4, none⟩ = some v4
theorem Blk.c5 {w : World} {b : Nat} {t : TypeId} {v0 v1 v2 v3 v4 : Value} {vs : List Value} (h : Blk w b t (v0 :: v1 :: v2 :: v3 :: v4 :: vs)) : C5 w b v0 v1 v2 v3 v4 := ⟨h.cell (j := 0) rfl, h.cell (j := 1) rfl, h.cell (j := 2) rfl, h.cell (j := 3) rfl, h.cell (j := 4) rfl⟩
/-- a list of ints as a value -/
structure IV where
 A : Option Addr
 n : Nat
 c : Nat
 l : List Int
abbrev IV.v (x : IV) : Value := .slice x.A x.n x.c
structure IV.ok (w : World) (B : Nat) (x : IV) : Prop where
 la : x.l.length = x.n
 ac : x.n ≤ x.c
 cA : x.c ≤ 9223372036854775807
 ra : RdI w B x.A x.l
theorem IV.ok.below {w w' : World} {B : Nat} {x : IV} (h : x.ok w B) (hb : Below B w w') : x.ok w' B := ⟨h.la, h.ac, h.cA, h.ra.below hb⟩
theorem IV.ok.more {w : World} {B B' : Nat} {x : IV} (h : x.ok w B) (hB : B ≤ B') : x.ok w B' := ⟨h.la, h.ac, h.cA, h.ra.more hB⟩
theorem runC_al {m : Dm} {c : Int} : ∀ {ws : List Int} {s : Int} {f : Bool} {t : Int} {g : Bool}, runC m c s ws f = some (t, g) → ∀ x ∈ ws, x ∈ m.a.al
 | [], s, f, t, g, h, x, hx => by cases hx
 | y :: r, s, f, t, g, h, x, hx => by
  unfold runC at h
  split at h
  ·rename_i h1
   rcases List.mem_cons.1 hx with rfl | hx
   ·exact hasB_mem.1 h1.1
   ·exact runC_al h x hx
  ·cases h
end Go.Proofs.Ytddhaidimadliaa

/- Walks: classed, reach.Dead, automaton.Step, the model's step, Live. Printed by wip/mkjb.py. -/
import Derived.Test.YtddhaidimadliaaJa
import Derived.Test.YtddhaidimadliaaIa
import Derived.Test.YtddhaidimadliaaUk
import Derived.BigQuiet
import Derived.Maps.Own
import Derived.Maps.OwnOps
import Derived.Maps.OwnSet

namespace Go.Proofs.Ytddhaidimadliaa
open Go.RowKit Go

/-- what the plain laws say of a model -/
def DV.m (z : DV) : Dm := ⟨z.x.a, z.l.map Ev.o, z.l.map Ev.fault⟩
/-- a list and no error -/
def RetLE (l : List Int) (w : World) (e : Ending) (w' : World) : Prop := ∃ v, e = .returned (.tuple #[v, .int .i64 0]) ∧ w'.ownsRow w.heap.size 3 1 v l.length (iv l) ∧ Below w.heap.size w w'
set_option maxRecDepth 100000 in
set_option maxHeartbeats 1600000 in
theorem dm_classed (z : DV) (c r : Int) (w : World) (h : z.ok w w.heap.size) (hr : clsE z c = r) :
  Calls Try.prog 63 #[.agg (dvc z).toArray, .int .i64 c] w fun e w' => e = .returned (.int .i64 r) ∧ Below w.heap.size w w' := by
 obtain ⟨re, hre⟩ : ∃ r, dmE z = r := ⟨_, rfl⟩
 unfold clsE at hr
 rw [hre] at hr
 obtain ⟨⟨A, na, ca, M, nm, cm, E, ne, ce, a⟩, V, nv, cv, l⟩ := z
 have hb1 := box_below w (.cells #[.slice A na ca, .int .i64 a.st, .slice M nm cm, .slice E ne ce, .slice V nv cv] 37)
 obtain ⟨w1, hw1⟩ : ∃ w1, w1 = w.alloc (.cells #[.slice A na ca, .int .i64 a.st, .slice M nm cm, .slice E ne ce, .slice V nv cv] 37) := ⟨_, rfl⟩
 have kx : Blk w1 w.heap.size 37 [.slice A na ca, .int .i64 a.st, .slice M nm cm, .slice E ne ce, .slice V nv cv] := by rw [hw1]; exact Blk.new _ _ [_, _, _, _, _]
 rw [← hw1] at hb1
 have HK := Lib.hid (fun (W : World) (hb : Below w1.heap.size w1 W) => kx.below hb kx.lt)
 have HOK := Lib.hid (fun (W : World) (hb : Below w1.heap.size w1 W) => (h.below (hb1.trans (hb.mono hb1.size))).more (hb1.trans (hb.mono hb1.size)).size)
 have lx := kx.lt
 clear kx h
 have HC := Lib.hid (dm_Check _ re w1 (HOK.out w1 (Below.refl _ _)) hre)
 unfold dvc
 dsimp only
 obtain ⟨sv, hsv⟩ : ∃ s, a.st = s := ⟨_, rfl⟩
 unfold dvc at HC
 dsimp only at HC
 rw [hsv] at hw1 HK HC ⊢
 have k0 := HK.out w1 (Below.refl _ _)
 have a0 := k0.cell (j := 0) rfl
 have a1 := k0.cell (j := 1) rfl
 have a2 := k0.cell (j := 2) rfl
 have a3 := k0.cell (j := 3) rfl
 have a4 := k0.cell (j := 4) rfl
 clear k0
 have HW1 := Lib.hid hw1; clear hw1
 have HB1 := Lib.hid hb1; clear hb1
 have HR := Lib.hid hr; clear hr
 clear hsv hre
 go_enter Try.func63, Try.ntmps63
 go_wp2_with fail
 rw [← HW1.out]
 refine HC.out.mono ?_
 rintro e w2 ⟨rfl, hb2⟩
 have HB2 := Lib.hid (HB1.out.trans (hb2.mono HB1.out.size))
 clear a0 a1 a2 a3 a4 HC hb2
 by_cases h1 : re = 0
 ·subst h1
  by_cases h2 : c < 1
  ·have HR2 := Lib.hid (show r = 2 by have h9 := HR.out; rw [if_neg (by simp), if_pos (.inl h2)] at h9; exact h9.symm)
   go_wp2
   go_ret
   exact ⟨ret_int HR2.out.symm, HB2.out⟩
  ·by_cases h3 : 4 < c
   ·have HR2 := Lib.hid (show r = 2 by have h9 := HR.out; rw [if_neg (by simp), if_pos (.inr h3)] at h9; exact h9.symm)
    go_wp2
    go_ret
    exact ⟨ret_int HR2.out.symm, HB2.out⟩
   ·have HR2 := Lib.hid (show r = 0 by have h9 := HR.out; rw [if_neg (by simp), if_neg (fun h => h.elim h2 h3)] at h9; exact h9.symm)
    go_wp2
    go_ret
    exact ⟨ret_int HR2.out.symm, HB2.out⟩
 ·have e1 : (re != 0) = true := by simpa using h1
  have HR2 := Lib.hid (show re = r by have h9 := HR.out; rw [if_pos h1] at h9; exact h9)
  clear h1
  go_wp2
  go_ret
  exact ⟨ret_int HR2.out, HB2.out⟩
theorem dead_snoc (a : Aut) (k : Nat) : (rngI ((k + 1 : Nat) : Int)).filter (fun s => (outL a.ed s).isEmpty) = (rngI (k : Int)).filter (fun s => (outL a.ed s).isEmpty) ++ (if (outL a.ed (k : Int)).isEmpty = true then [(k : Int)] else []) := by
 have e : rngI ((k + 1 : Nat) : Int) = rngI (k : Int) ++ [(k : Int)] := by
  unfold rngI
  rw [Int.toNat_natCast, Int.toNat_natCast, List.range_succ, List.map_append]
  rfl
 rw [e, List.filter_append]
 congr 1
 by_cases h : (outL a.ed (k : Int)).isEmpty = true
 ·rw [if_pos h]; simp [h]
 ·rw [if_neg h]; simp [h]
theorem fstN_out (es : List Ed) (k : Int) : fstN es (k + 1) = fstN es k + (outL es k).length := by
 rw [fstN_succ]
 congr 2
 unfold outL
 congr 1
 funext x
 rw [decide_eq_decide]
 omega
set_option maxRecDepth 100000 in
set_option maxHeartbeats 1600000 in
theorem reach_Dead (x : AV) (n : Nat) (w : World) (hx : x.ok w w.heap.size) (hw : WF x.a) (hn : x.a.st = (n : Int)) :
  Calls Try.prog 12 #[.agg #[.slice x.A x.na x.ca, .int .i64 x.a.st, .slice x.M x.nm x.cm, .slice x.E x.ne x.ce]] w (RetLE (deadL x.a) w) := by
 obtain ⟨A, na, ca, M, nm, cm, E, ne, ce, a⟩ := x
 dsimp only at hw hn ⊢
 have hn4 : n ≤ 4096 := by have := hw.st1; omega
 have hb1 := box_below w (.cells #[.slice A na ca, .int .i64 a.st, .slice M nm cm, .slice E ne ce] 34)
 obtain ⟨w1, hw9⟩ : ∃ w1, w1 = w.alloc (.cells #[.slice A na ca, .int .i64 a.st, .slice M nm cm, .slice E ne ce] 34) := ⟨_, rfl⟩
 have kx : Blk w1 w.heap.size 34 [.slice A na ca, .int .i64 a.st, .slice M nm cm, .slice E ne ce] := by rw [hw9]; exact Blk.new _ _ [_, _, _, _]
 rw [← hw9] at hb1
 have HG0 := Lib.hid (fun (W : World) (hb : Below w1.heap.size w1 W) => Blk.c4 (kx.below hb kx.lt))
 rw [hn] at HG0
 obtain ⟨a0, a1, a2, a3⟩ := HG0.out w1 (Below.refl _ _)
 have HCK := Lib.hid (automaton_Check A na ca M nm cm E ne ce a w1 ((AutR.below hx hb1).more hb1.size))
 rw [hw.chk, hn] at HCK
 have HXK := Lib.hid (fun (W : World) (hb : Below w1.heap.size w1 W) => AutR.more (AutR.below hx (hb1.trans (hb.mono hb1.size))) (hb1.trans (hb.mono hb1.size)).size)
 rw [hn] at hw9 ⊢
 have HN := Lib.hid hn
 have HW9 := Lib.hid hw9; clear hw9
 have HB1 := Lib.hid hb1; clear hb1
 have HWF := Lib.hid hw; clear hw
 have lx := kx.lt
 clear kx hx hn
 go_enter Try.func12, Try.ntmps12
 go_wp2_with fail
 rw [← HW9.out]
 refine HCK.out.mono ?_
 rintro e w2 ⟨rfl, hb2⟩
 have HB2 := Lib.hid hb2; clear hb2
 clear HCK a0 a1 a2 a3
 obtain ⟨a0, a1, a2, a3⟩ := HG0.out w2 HB2.out
 have HNG := Lib.hid (newGraph_ok ⟨A, na, ca, M, nm, cm, E, ne, ce, a⟩ w2 n (HXK.out w2 HB2.out) HWF.out HN.out)
 dsimp only at HNG
 rw [HN.out] at HNG
 obtain ⟨x, hx⟩ : ∃ z : AV, z = ⟨A, na, ca, M, nm, cm, E, ne, ce, a⟩ := ⟨_, rfl⟩
 have hxa : x.a = a := by rw [hx]
 rw [← hx] at HNG
 go_wp2_with fail
 refine HNG.out.mono ?_
 rintro e w3 ⟨ba, rfl, hba, hgr, hb3⟩
 have hgc : grc x ba n = [.slice A na ca, .int .i64 (n : Int), .slice M nm cm, .slice E ne ce, .slice (some ⟨ba, 0, none⟩) (n + 1) (n + 1)] := by unfold grc; rw [hx, ← HN.out]
 have HGC := Lib.hid hgc; clear hgc
 clear hx HNG a0 a1 a2 a3
 have hx1 := box_below w3 (.cells #[.slice A na ca, .int .i64 (n : Int), .slice M nm cm, .slice E ne ce, .slice (some ⟨ba, 0, none⟩) (n + 1) (n + 1)] 98)
 have k10 : Blk (w3.alloc (.cells #[.slice A na ca, .int .i64 (n : Int), .slice M nm cm, .slice E ne ce, .slice (some ⟨ba, 0, none⟩) (n + 1) (n + 1)] 98)) w3.heap.size 98 [.slice A na ca, .int .i64 (n : Int), .slice M nm cm, .slice E ne ce, .slice (some ⟨ba, 0, none⟩) (n + 1) (n + 1)] := Blk.new w3 98 [_, _, _, _, _]
 have har := hgr.arr.below hx1 hgr.arr.lt
 rw [hxa] at har
 have HB31 := Lib.hid (hb3.trans (hx1.mono hb3.size))
 rw [HGC.out]
 have HB4 := Lib.hid ((HB1.out.trans (HB2.out.mono HB1.out.size)).trans (HB31.out.mono (HB1.out.trans (HB2.out.mono HB1.out.size)).size))
 have HB14 := Lib.hid (HB2.out.trans (HB31.out.mono HB2.out.size))
 clear hgr hb3
 go_upto_region 6 with fail
 obtain ⟨bG, hbG⟩ : ∃ b, w3.heap.size = b := ⟨_, rfl⟩
 rw [hbG] at k10 ⊢
 generalize w3.alloc (.cells #[.slice A na ca, .int .i64 (n : Int), .slice M nm cm, .slice E ne ce, .slice (some ⟨ba, 0, none⟩) (n + 1) (n + 1)] 98) = w4 at k10 har HB4 HB14 HB31 ⊢
 clear hbG hx1 hba
 have HG4 := Lib.hid (fun (W : World) (hb : Below w4.heap.size w4 W) => k10.below hb k10.lt)
 have HAR := Lib.hid (fun (W : World) (hb : Below w4.heap.size w4 W) => har.below hb har.lt)
 obtain ⟨a0, a1, a2, a3⟩ := HG0.out w4 HB14.out
 clear k10 har
 go_wp2
 clear a0 a1 a2 a3
 go_loopw [6, 7, 17] (fun s6 s7 s17 wr => ∃ (k m : Nat) (v7 : Value), s17 = .int .i64 k ∧ s7 = v7 ∧ k ≤ n ∧ m ≤ k ∧ Hid (((rngI (k : Int)).filter (fun s => (outL a.ed s).isEmpty)).length = m) ∧ Hid (wr.ownsRow w4.heap.size 3 1 s6 m (iv ((rngI (k : Int)).filter (fun s => (outL a.ed s).isEmpty)))) ∧ Hid (Below w4.heap.size w4 wr)) (fun _ _ s17 _ => n - (intOf s17).toNat)
 case atStart => exact ⟨0, 0, _, rfl, rfl, Nat.zero_le _, Nat.le_refl _, Lib.hid rfl, Lib.hid (World.ownsRow_nil _ _ _ _), Lib.hid (Below.refl _ _)⟩
 case round =>
  obtain ⟨k, m, v7, rfl, rfl, hk, hmk, HM, HO, HBL⟩ := hrel
  by_cases hlt : k < n
  ·obtain ⟨f1, hf1⟩ : ∃ f, fstN a.ed (k : Int) = f := ⟨_, rfl⟩
   obtain ⟨f2, hf2⟩ : ∃ f, fstN a.ed ((k : Int) + 1) = f := ⟨_, rfl⟩
   obtain ⟨q, hq⟩ : ∃ q, (outL a.ed (k : Int)).isEmpty = q := ⟨_, rfl⟩
   have hk1 : (fsts a.ed n)[k]? = some (f1 : Int) := by unfold fsts; rw [List.getElem?_map, List.getElem?_range (by omega)]; simp [hf1]
   have hk2 : (fsts a.ed n)[k + 1]? = some (f2 : Int) := by unfold fsts; rw [List.getElem?_map, List.getElem?_range (by omega)]; simp only [Option.map_some]; rw [show ((k + 1 : Nat) : Int) = (k : Int) + 1 by omega, hf2]
   have c1 : wr.cell? ⟨ba, k, none⟩ = some (.int .i64 (f1 : Int)) := (HAR.out wr HBL.out).cell (by rw [iv_get, hk1]; rfl)
   have c2 : wr.cell? ⟨ba, k + 1, none⟩ = some (.int .i64 (f2 : Int)) := (HAR.out wr HBL.out).cell (by rw [iv_get, hk2]; rfl)
   have c4 : wr.cell? ⟨bG, 4, none⟩ = some (.slice (some ⟨ba, 0, none⟩) (n + 1) (n + 1)) := (HG4.out wr HBL.out).cell (j := 4) rfl
   have h12 : ((f1 : Int) = (f2 : Int)) ↔ q = true := by
    have h9 := fstN_out a.ed (k : Int)
    rw [hf1, hf2] at h9
    rw [← hq, List.isEmpty_iff, ← List.length_eq_zero_iff]
    omega
   have HS := Lib.hid (dead_snoc a k)
   rw [hq] at HS
   have b1 : (k : Int) < (n : Int) := by omega
   have t0 : ¬ (k : Int) < 0 := by omega
   have t1 : (k : Int) < ((n + 1 : Nat) : Int) := by omega
   have t2 : (k : Int) + 1 < ((n + 1 : Nat) : Int) := by omega
   have hsz := HBL.out.size
   clear hk1 hk2 hf1 hf2 hq
   cases q with
   | true =>
    have e12 : ((f1 : Int) == (f2 : Int)) = true := by simpa using h12.2 rfl
    have HS2 := Lib.hid (show (rngI ((k + 1 : Nat) : Int)).filter (fun s => (outL a.ed s).isEmpty) = (rngI (k : Int)).filter (fun s => (outL a.ed s).isEmpty) ++ [(k : Int)] from HS.out)
    clear h12 HS
    go_wp2
    go_quiet (fail)
    have hbd := below_drewN (Below.refl wr.heap.size wr) nq
    have HO2 := Lib.hid (own_drewN HO.out nq)
    have HBL2 := Lib.hid (HBL.out.trans (hbd.mono HBL.out.size))
    have hsz2 := HBL2.out.size
    clear hbd c1 c2 c4
    generalize wr.drewN nq = wq at HO2 HBL2 hsz2 ⊢
    go_wp2_with (first | (at_builtin; refine wpList_push wq (.int .i64 (k : Int)) rfl (.tmp 32) (.tmp 34) 31 rfl w4.heap.size 3 (.int .i64 0) 8 Try.underlying31 int_info rfl _ m _ rfl HO2.out rfl rfl (by omega) (by omega) hsz2 ?_; intro v' w' ho' hg' hb1) | fail)
    go_roundw
    case rel => exact ⟨k + 1, m + 1, _, by go_num, rfl, by omega, by omega, Lib.hid (by rw [HS2.out, List.length_append, HM.out]; rfl), Lib.hid (by rw [HS2.out, iv_append]; exact ho'), Lib.hid (HBL2.out.trans hb1)⟩
    case measure => simp [intOf]; omega
   | false =>
    have e12 : ((f1 : Int) == (f2 : Int)) = false := by rw [beq_eq_false_iff_ne]; exact fun h => (by cases h12.1 h)
    have HS2 := Lib.hid (show (rngI ((k + 1 : Nat) : Int)).filter (fun s => (outL a.ed s).isEmpty) = (rngI (k : Int)).filter (fun s => (outL a.ed s).isEmpty) from HS.out.trans (List.append_nil _))
    clear h12 HS
    go_wp2
    go_quiet (fail)
    have hbd := below_drewN (Below.refl wr.heap.size wr) nq
    have HO2 := Lib.hid (own_drewN HO.out nq)
    have HBL2 := Lib.hid (HBL.out.trans (hbd.mono HBL.out.size))
    clear hbd c1 c2 c4
    generalize wr.drewN nq = wq at HO2 HBL2 ⊢
    go_wp2
    go_roundw
    case rel => exact ⟨k + 1, m, _, by go_num, rfl, by omega, by omega, Lib.hid (by rw [HS2.out]; exact HM.out), Lib.hid (by rw [HS2.out]; exact HO2.out), HBL2⟩
    case measure => simp [intOf]; omega
  ·obtain rfl : k = n := by omega
   have b1 : ¬ (k : Int) < (k : Int) := by omega
   have HD := Lib.hid (show deadL a = (rngI (k : Int)).filter (fun s => (outL a.ed s).isEmpty) by unfold deadL; rw [HN.out])
   go_wp2
   refine bodyPost_ret (v := .tuple #[_, .int .i64 0]) (by simp [results, Try.results12, go_sem]; rfl) rfl ?_
   exact ⟨_, rfl, by rw [HD.out, HM.out]; exact own_base HO.out HB4.out.size, HB4.out.trans (HBL.out.mono HB4.out.size)⟩
/-- a step: the state, is it possible, the error -/
def stpV (a : Aut) (s v : Int) : Int := if 0 ≤ nxt a s v then nxt a s v else 0
set_option maxRecDepth 100000 in
set_option maxHeartbeats 1600000 in
theorem automaton_Step (x : AV) (s v : Int) (w : World) (hx : x.ok w w.heap.size) (hw : WF x.a) (h0 : 0 ≤ s) (h1 : s < x.a.st) :
  Calls Try.prog 110 #[.agg #[.slice x.A x.na x.ca, .int .i64 x.a.st, .slice x.M x.nm x.cm, .slice x.E x.ne x.ce], .int .i64 s, .int .i64 v] w fun e w' => (∃ r, e = .returned (.tuple #[.int .i64 (stpV x.a s v), .bool (decide (0 ≤ nxt x.a s v)), .int .i64 r])) ∧ Below w.heap.size w w' := by
 obtain ⟨A, na, ca, M, nm, cm, E, ne, ce, a⟩ := x
 dsimp only at hw h1 ⊢
 have hla : a.al.length = na := hx.la
 have hac : na ≤ ca := hx.ac
 have hcA : ca ≤ 9223372036854775807 := hx.cA
 have hb1 := box_below w (.cells #[.slice A na ca, .int .i64 a.st, .slice M nm cm, .slice E ne ce] 34)
 obtain ⟨w1, hw9⟩ : ∃ w1, w1 = w.alloc (.cells #[.slice A na ca, .int .i64 a.st, .slice M nm cm, .slice E ne ce] 34) := ⟨_, rfl⟩
 have kx : Blk w1 w.heap.size 34 [.slice A na ca, .int .i64 a.st, .slice M nm cm, .slice E ne ce] := by rw [hw9]; exact Blk.new _ _ [_, _, _, _]
 rw [← hw9] at hb1
 have HG0 := Lib.hid (fun (W : World) (hb : Below w1.heap.size w1 W) => Blk.c4 (kx.below hb kx.lt))
 have HXK := Lib.hid (fun (W : World) (hb : Below w1.heap.size w1 W) => (show AutR W W.heap.size A na ca M nm cm E ne ce a from AutR.more (AutR.below hx (hb1.trans (hb.mono hb1.size))) (hb1.trans (hb.mono hb1.size)).size))
 have HC1 := Lib.hid (automaton_checkState A M E na ca nm cm ne ce a s w1 (HXK.out w1 (Below.refl _ _)) hw h0 h1)
 have HC3 := Lib.hid (fun (W : World) (hb : Below w1.heap.size w1 W) => automaton_next A M E na ca nm cm ne ce a s v W (HXK.out W hb) hw h0 h1)
 have HNO := Lib.hid (show hasB a.al v = false → ¬ 0 ≤ nxt a s v from fun h h9 => by
  have := hasB_mem.2 (nxt_al hw (s := s) (x := v) h9)
  rw [h] at this
  cases this)
 obtain ⟨sv, hsv⟩ : ∃ z, a.st = z := ⟨_, rfl⟩
 rw [hsv] at hw9 HG0 HC1 HC3 ⊢
 obtain ⟨a0, a1, a2, a3⟩ := HG0.out w1 (Below.refl _ _)
 obtain ⟨q, hq⟩ : ∃ q, hasB a.al v = q := ⟨_, rfl⟩
 obtain ⟨nx, hnx⟩ : ∃ z, nxt a s v = z := ⟨_, rfl⟩
 obtain ⟨to9, ht9⟩ : ∃ z, stpV a s v = z := ⟨_, rfl⟩
 obtain ⟨ps9, hp9⟩ : ∃ z, decide (0 ≤ nxt a s v) = z := ⟨_, rfl⟩
 rw [ht9, hp9]
 unfold stpV at ht9
 rw [hnx] at HC3 HNO ht9 hp9
 rw [hq] at HNO
 have HT9 := Lib.hid ht9; clear ht9
 have HP9 := Lib.hid hp9; clear hp9
 have HW9 := Lib.hid hw9; clear hw9
 have HB1 := Lib.hid hb1; clear hb1
 have HQ := Lib.hid hq; clear hq
 have lx := kx.lt
 clear kx hx hsv hnx hw h1
 go_enter Try.func110, Try.ntmps110
 go_wp2_with fail
 rw [← HW9.out]
 refine HC1.out.mono ?_
 rintro e w2 ⟨rfl, hb2⟩
 have HB2 := Lib.hid (HB1.out.trans (hb2.mono HB1.out.size))
 have HB12 := Lib.hid hb2
 clear a0 a1 a2 a3 HC1 hb2
 obtain ⟨a0, a1, a2, a3⟩ := HG0.out w2 HB12.out
 have HCT := Lib.hid (slices_Contains A ca na a.al v q w2 hla HQ.out (HXK.out w2 HB12.out).ra hac hcA)
 go_wp2_with fail
 refine HCT.out.mono ?_
 rintro e w' ⟨rfl, rfl⟩
 clear HCT
 cases q with
 | false =>
  have HE1 := Lib.hid (show to9 = 0 from HT9.out.symm.trans (if_neg (by have := HNO.out rfl; omega)))
  have HE2 := Lib.hid (show ps9 = false from HP9.out.symm.trans (decide_eq_false (by have := HNO.out rfl; omega)))
  clear a0 a1 a2 a3
  go_wp2
  refine bodyPost_ret (v := .tuple #[.int .i64 0, .bool false, .int .i64 9]) (by simp [results, Try.results110, go_sem]) rfl ?_
  exact ⟨⟨9, by rw [HE1.out, HE2.out]⟩, HB2.out⟩
 | true =>
  have HN := Lib.hid (HC3.out w2 HB12.out)
  go_wp2_with fail
  refine HN.out.mono ?_
  rintro e w3 ⟨rfl, hb3⟩
  have HB3 := Lib.hid (HB2.out.trans (hb3.mono HB2.out.size))
  clear a0 a1 a2 a3 hb3 HN HC3
  by_cases hp : 0 ≤ nx
  ·have HE1 := Lib.hid (show to9 = nx from HT9.out.symm.trans (if_pos hp))
   have HE2 := Lib.hid (show ps9 = true from HP9.out.symm.trans (decide_eq_true hp))
   go_wp2
   refine bodyPost_ret (v := .tuple #[.int .i64 nx, .bool true, .int .i64 0]) (by simp [results, Try.results110, go_sem]) rfl ?_
   exact ⟨⟨0, by rw [HE1.out, HE2.out]⟩, HB3.out⟩
  ·have HE1 := Lib.hid (show to9 = 0 from HT9.out.symm.trans (if_neg hp))
   have HE2 := Lib.hid (show ps9 = false from HP9.out.symm.trans (decide_eq_false hp))
   go_wp2
   refine bodyPost_ret (v := .tuple #[.int .i64 0, .bool false, .int .i64 0]) (by simp [results, Try.results110, go_sem]) rfl ?_
   exact ⟨⟨0, by rw [HE1.out, HE2.out]⟩, HB3.out⟩
set_option maxRecDepth 100000 in
set_option maxHeartbeats 1600000 in
theorem dm_step (z : DV) (s v : Int) (w : World) (h : z.ok w w.heap.size) (hw : WF z.x.a) (h0 : 0 ≤ s) (h1 : s < z.x.a.st) :
  Calls Try.prog 73 #[.agg (dvc z).toArray, .int .i64 s, .int .i64 v] w fun e w' => e = .returned (.tuple #[.int .i64 (stpV z.x.a s v), .bool (decide (0 ≤ nxt z.x.a s v))]) ∧ Below w.heap.size w w' := by
 obtain ⟨⟨A, na, ca, M, nm, cm, E, ne, ce, a⟩, V, nv, cv, l⟩ := z
 have hb1 := box_below w (.cells #[.slice A na ca, .int .i64 a.st, .slice M nm cm, .slice E ne ce, .slice V nv cv] 37)
 obtain ⟨w1, hw1⟩ : ∃ w1, w1 = w.alloc (.cells #[.slice A na ca, .int .i64 a.st, .slice M nm cm, .slice E ne ce, .slice V nv cv] 37) := ⟨_, rfl⟩
 have kx : Blk w1 w.heap.size 37 [.slice A na ca, .int .i64 a.st, .slice M nm cm, .slice E ne ce, .slice V nv cv] := by rw [hw1]; exact Blk.new _ _ [_, _, _, _, _]
 rw [← hw1] at hb1
 have HK := Lib.hid (fun (W : World) (hb : Below w1.heap.size w1 W) => kx.below hb kx.lt)
 have HOK := Lib.hid (fun (W : World) (hb : Below w1.heap.size w1 W) => (h.below (hb1.trans (hb.mono hb1.size))).more (hb1.trans (hb.mono hb1.size)).size)
 have lx := kx.lt
 clear kx h
 have HC := Lib.hid (automaton_Step ⟨A, na, ca, M, nm, cm, E, ne, ce, a⟩ s v w1 (HOK.out w1 (Below.refl _ _)).x hw h0 h1)
 dsimp only at HC
 unfold dvc
 dsimp only
 obtain ⟨sv, hsv⟩ : ∃ s, a.st = s := ⟨_, rfl⟩
 rw [hsv] at hw1 HK HC ⊢
 obtain ⟨to9, ht9⟩ : ∃ z, stpV a s v = z := ⟨_, rfl⟩
 obtain ⟨ps9, hp9⟩ : ∃ z, decide (0 ≤ nxt a s v) = z := ⟨_, rfl⟩
 rw [ht9, hp9] at HC ⊢
 have k0 := HK.out w1 (Below.refl _ _)
 have a0 := k0.cell (j := 0) rfl
 have a1 := k0.cell (j := 1) rfl
 have a2 := k0.cell (j := 2) rfl
 have a3 := k0.cell (j := 3) rfl
 clear k0
 have HW1 := Lib.hid hw1; clear hw1
 have HB1 := Lib.hid hb1; clear hb1
 clear hsv hw h1 ht9 hp9
 go_enter Try.func73, Try.ntmps73
 go_wp2_with fail
 rw [← HW1.out]
 refine HC.out.mono ?_
 rintro e w2 ⟨⟨r9, rfl⟩, hb2⟩
 have HB2 := Lib.hid (HB1.out.trans (hb2.mono HB1.out.size))
 clear a0 a1 a2 a3 HC hb2
 go_wp2
 refine bodyPost_ret (v := .tuple #[.int .i64 to9, .bool ps9]) (by simp [results, Try.results73, go_sem]) rfl ?_
 exact ⟨rfl, HB2.out⟩
end Go.Proofs.Ytddhaidimadliaa
/- Walks: diagnosability.Live. Printed by wip/mkjc.py. -/
namespace Go.Proofs.Ytddhaidimadliaa
open Go.RowKit Go

theorem setErr_mk {l : List Int} {n : Int} (h1 : Inc l) (h2 : ∀ x ∈ l, 0 ≤ x ∧ x < n) : setErr l n = 0 := by
 unfold setErr
 exact setErrG_mk (fun q hq => by cases hq) h1 h2
theorem rngI_snoc (k : Nat) : rngI ((k + 1 : Nat) : Int) = rngI (k : Int) ++ [(k : Int)] := by
 unfold rngI
 rw [Int.toNat_natCast, Int.toNat_natCast, List.range_succ, List.map_append]
 rfl
def livM : Option (List Int) → List Int × Bool
 | some w => (w, false)
 | none => ([], true)
/-- what Live returns -/
def RetLiv (r : List Int × Bool) (w : World) (e : Ending) (w' : World) : Prop := ∃ v, e = .returned (.tuple #[v, .bool r.2, .int .i64 0]) ∧ w'.ownsRow w.heap.size 3 1 v r.1.length (iv r.1) ∧ Below w.heap.size w w'
theorem dmE_wf {z : DV} (h : dmE z = 0) : WF z.x.a := by
 unfold dmE at h
 by_cases h1 : chkE z.l ≠ 0
 ·rw [if_pos h1] at h; exact absurd h h1
 rw [if_neg h1] at h
 by_cases h2 : chkA z.x.a ≠ 0
 ·rw [if_pos h2] at h; exact absurd h h2
 exact chkA_wf (Classical.not_not.1 h2)
set_option maxRecDepth 100000 in
set_option maxHeartbeats 1600000 in
theorem dm_Live (z : DV) (w : World) (h : z.ok w w.heap.size) (hd : dmE z = 0) :
  Calls Try.prog 11 #[.agg (dvc z).toArray] w (RetLiv (liveR z.x.a) w) := by
 have hw := dmE_wf hd
 obtain ⟨⟨A, na, ca, M, nm, cm, E, ne, ce, a⟩, V, nv, cv, l⟩ := z
 have hb1 := box_below w (.cells #[.slice A na ca, .int .i64 a.st, .slice M nm cm, .slice E ne ce, .slice V nv cv] 37)
 obtain ⟨w1, hw1⟩ : ∃ w1, w1 = w.alloc (.cells #[.slice A na ca, .int .i64 a.st, .slice M nm cm, .slice E ne ce, .slice V nv cv] 37) := ⟨_, rfl⟩
 have kx : Blk w1 w.heap.size 37 [.slice A na ca, .int .i64 a.st, .slice M nm cm, .slice E ne ce, .slice V nv cv] := by rw [hw1]; exact Blk.new _ _ [_, _, _, _, _]
 rw [← hw1] at hb1
 have HK := Lib.hid (fun (W : World) (hb : Below w1.heap.size w1 W) => kx.below hb kx.lt)
 have HOK := Lib.hid (fun (W : World) (hb : Below w1.heap.size w1 W) => (h.below (hb1.trans (hb.mono hb1.size))).more (hb1.trans (hb.mono hb1.size)).size)
 have lx := kx.lt
 clear kx h
 dsimp only at hw
 have HC := Lib.hid (dm_Check _ 0 w1 (HOK.out w1 (Below.refl _ _)) hd)
 unfold dvc at HC ⊢
 dsimp only at HC ⊢
 obtain ⟨n, hn⟩ : ∃ n : Nat, a.st = (n : Int) := ⟨a.st.toNat, by have := hw.st0; omega⟩
 have hn4 : n ≤ 4096 := by have := hw.st1; omega
 have HDD := Lib.hid (fun (W : World) (hb : Below w1.heap.size w1 W) => reach_Dead ⟨A, na, ca, M, nm, cm, E, ne, ce, a⟩ n W (HOK.out W hb).x hw hn)
 dsimp only at HDD
 obtain ⟨dL, hdL⟩ : ∃ l, deadL a = l := ⟨_, rfl⟩
 have HDM := Lib.hid (show Inc dL ∧ ∀ v ∈ dL, 0 ≤ v ∧ v < (n : Int) from by
  rw [← hdL, ← hn]
  exact ⟨List.Pairwise.filter _ (rng_inc _), fun v hv => (deadL_mem.1 hv).1⟩)
 obtain ⟨R, hR⟩ : ∃ R, liveR a = R := ⟨_, rfl⟩
 rw [hR]
 unfold liveR at hR
 rw [hdL, hn, Int.toNat_natCast] at hR
 rw [hdL] at HDD
 have HPT := Lib.hid (fun (W : World) (hb : Below w1.heap.size w1 W) => (show ∀ (TA : Option Addr) (ct : Nat) (WA : Option Addr) (cw : Nat), 0 < n → RdI W W.heap.size TA dL → dL.length ≤ ct → ct ≤ 9223372036854775807 → RdI W W.heap.size WA (rngI (n : Int)) → n ≤ cw → cw ≤ 9223372036854775807 →
   Calls Try.prog 13 #[.agg #[.slice A na ca, .int .i64 a.st, .slice M nm cm, .slice E ne ce], .int .i64 0, .slice TA dL.length ct, .slice WA n cw] W (RetPath (pathS a 0 (fl (inF n dL)) anyE) W) from fun TA ct WA cw h0 hT h1 h2 hW h3 h4 =>
   reach_Path ⟨A, na, ca, M, nm, cm, E, ne, ce, a⟩ W n 0 (HOK.out W hb).x hw hn h0 TA dL.length ct dL WA n cw (rngI (n : Int)) rfl hT h1 h2 (setErr_mk HDM.out.1 HDM.out.2) HDM.out.2 (by rw [rngI_len, Int.toNat_natCast]) hW h3 h4 (setErr_mk (rng_inc _) (fun v hv => rngI_mem.1 hv)) (fun v hv => rngI_mem.1 hv)
    ((inF_fl (fun v hv => rngI_mem.1 hv) (Int.le_refl 0)).2 (rngI_mem.2 (by omega))) anyE (fun e he => by
     have hg := hw.ev_rng he
     exact (inF_fl (fun v hv => rngI_mem.1 hv) hg.2.2.1).2 (rngI_mem.2 (by omega))) _ rfl))
 rw [hn] at hw1 HK HC HDD HPT ⊢
 have k0 := HK.out w1 (Below.refl _ _)
 have a0 := k0.cell (j := 0) rfl
 have a1 := k0.cell (j := 1) rfl
 have a2 := k0.cell (j := 2) rfl
 have a3 := k0.cell (j := 3) rfl
 have a4 := k0.cell (j := 4) rfl
 clear k0
 have HW1 := Lib.hid hw1; clear hw1
 have HB1 := Lib.hid hb1; clear hb1
 have HR := Lib.hid hR; clear hR
 clear hn hdL hd hw
 go_enter Try.func11, Try.ntmps11
 go_wp2_with fail
 rw [← HW1.out]
 refine HC.out.mono ?_
 rintro e w2 ⟨rfl, hb2⟩
 have HB2 := Lib.hid (HB1.out.trans (hb2.mono HB1.out.size))
 have HB12 := Lib.hid hb2
 clear a0 a1 a2 a3 a4 HC hb2
 have k0 := HK.out w2 HB12.out
 have a0 := k0.cell (j := 0) rfl
 have a1 := k0.cell (j := 1) rfl
 have a2 := k0.cell (j := 2) rfl
 have a3 := k0.cell (j := 3) rfl
 clear k0
 have HD2 := Lib.hid (HDD.out w2 HB12.out)
 go_wp2_with fail
 refine HD2.out.mono ?_
 rintro e w3 ⟨v3, rfl, ho3, hb3⟩
 obtain ⟨DA, dc, rfl, p1, p2, rd⟩ := own_slI ho3
 have HRD := Lib.hid rd
 have HB3 := Lib.hid (HB2.out.trans (hb3.mono HB2.out.size))
 have HB13 := Lib.hid (HB12.out.trans (hb3.mono HB12.out.size))
 clear a0 a1 a2 a3 HD2 HDD ho3 rd hb3
 go_upto_region 6 with fail
 have k0 := HK.out w3 HB13.out
 have a0 := k0.cell (j := 0) rfl
 have a1 := k0.cell (j := 1) rfl
 clear k0
 go_wp2
 clear a0 a1
 go_loopw [8, 9, 25] (fun s8 s9 s25 wr => ∃ (k : Nat) (v9 : Value), s25 = .int .i64 k ∧ s9 = v9 ∧ k ≤ n ∧ Hid (wr.ownsRow w3.heap.size 3 1 s8 k (iv (rngI (k : Int)))) ∧ Hid (Below w3.heap.size w3 wr)) (fun _ _ s25 _ => n - (intOf s25).toNat)
 case atStart => exact ⟨0, _, rfl, rfl, Nat.zero_le _, Lib.hid (World.ownsRow_nil _ _ _ _), Lib.hid (Below.refl _ _)⟩
 case round =>
  obtain ⟨k, v9, rfl, rfl, hk, HO, HBL⟩ := hrel
  by_cases hlt : k < n
  ·have b1 : (k : Int) < (n : Int) := by omega
   have hsz := HBL.out.size
   go_wp2_with (first | (at_builtin; refine wpList_push wr (.int .i64 (k : Int)) rfl (.tmp 28) (.tmp 30) 31 rfl w3.heap.size 3 (.int .i64 0) 8 Try.underlying31 int_info rfl _ k _ rfl HO.out rfl rfl (by omega) (by omega) hsz ?_; intro v' w' ho' hg' hb1) | fail)
   go_roundw
   case rel => exact ⟨k + 1, _, by go_num, rfl, by omega, Lib.hid (by rw [rngI_snoc, iv_append]; exact ho'), Lib.hid (HBL.out.trans hb1)⟩
   case measure => simp [intOf]; omega
  ·obtain rfl : k = n := by omega
   have b1 : ¬ (k : Int) < (k : Int) := by omega
   have HB4 := Lib.hid (HB3.out.trans (HBL.out.mono HB3.out.size))
   by_cases hde : dL = []
   ·have HR2 := Lib.hid (show ([], true) = R by have h9 := HR.out; rw [if_pos hde] at h9; exact h9)
    have d0 : dL.length = 0 := by rw [hde]; rfl
    rw [d0]
    clear hde d0
    go_wp2
    refine bodyPost_ret (v := .tuple #[.slice none 0 0, .bool true, .int .i64 0]) (by simp [results, Try.results11, go_sem]) rfl ?_
    rw [← HR2.out]
    exact ⟨_, rfl, World.ownsRow_nil _ _ _ _, HB4.out⟩
   ·have hpos : 0 < dL.length := List.length_pos_iff.2 hde
    have hk0 : 0 < k := by
     obtain ⟨d, hdm⟩ := List.exists_mem_of_ne_nil _ hde
     have := HDM.out.2 d hdm
     omega
    have HB14 := Lib.hid (HB13.out.trans (HBL.out.mono HB13.out.size))
    have hra : (rngI (k : Int)).length = k := by rw [rngI_len, Int.toNat_natCast]
    obtain ⟨AA, ac, rfl⟩ := own_shape HO.out
    have HP := Lib.hid (HPT.out wr HB14.out DA dc AA ac hk0 ((HRD.out.below HBL.out).more HBL.out.size) p1 p2 (RdI.of_own HO.out) (own_cap' HO.out).1 (own_cap' HO.out).2)
    obtain ⟨res, hres⟩ : ∃ r, pathS a 0 (fl (inF k dL)) anyE = r := ⟨_, rfl⟩
    rw [hres] at HP
    have HR2 := Lib.hid (show livM res = R by have h9 := HR.out; rw [if_neg hde, hres] at h9; rw [← h9]; cases res <;> rfl)
    have e0 : ((dL.length : Int) == 0) = false := by rw [beq_eq_false_iff_ne]; omega
    have k0 := HK.out wr HB14.out
    have a0 := k0.cell (j := 0) rfl
    have a1 := k0.cell (j := 1) rfl
    have a2 := k0.cell (j := 2) rfl
    have a3 := k0.cell (j := 3) rfl
    clear k0
    clear hde hres hra
    go_wp2_with fail
    refine HP.out.mono ?_
    rintro e w5 hr5
    clear a0 a1 a2 a3 HP
    cases res with
    | none =>
     obtain ⟨rfl, hb5⟩ := hr5
     have HB5 := Lib.hid (HB4.out.trans (hb5.mono HB4.out.size))
     go_wp2
     refine bodyPost_ret (v := .tuple #[.slice none 0 0, .bool true, .int .i64 0]) (by simp [results, Try.results11, go_sem]) rfl ?_
     rw [← HR2.out]
     exact ⟨_, rfl, World.ownsRow_nil _ _ _ _, HB5.out⟩
    | some ws =>
     obtain ⟨v5, rfl, ho5, hb5⟩ := hr5
     have HB5 := Lib.hid (HB4.out.trans (hb5.mono HB4.out.size))
     have HO5 := Lib.hid (own_base ho5 HB4.out.size)
     clear ho5 hb5
     go_wp2
     refine bodyPost_ret (v := .tuple #[v5, .bool false, .int .i64 0]) (by simp [results, Try.results11, go_sem]) rfl ?_
     rw [← HR2.out]
     exact ⟨_, rfl, HO5.out, HB5.out⟩
end Go.Proofs.Ytddhaidimadliaa

/- Walks: alphabet.chosen, alphabet.Select: a map of functions. -/
namespace Go.Proofs.Ytddhaidimadliaa
open Go.RowKit Go Go.Maps

/-- how a function without captures reads -/
def fnR : Value → Option (DataW Unit × List MemPlace)
 | .func (.func f) ⟨[]⟩ ⟨[]⟩ => some (.lit (.int .i64 f), [])
 | _ => some (.agg [], [])
theorem fnR_inv {v : Value} {f : Nat} {ps : List MemPlace} (h : fnR v = some (.lit (.int .i64 (f : Int)), ps)) : v = .func (.func f) #[] #[] := by
 unfold fnR at h
 split at h
 case h_1 g =>
  have h1 : (DataW.lit (.int .i64 (g : Int)) : DataW Unit) = .lit (.int .i64 (f : Int)) := congrArg (fun o => (o.map Prod.fst).getD (.agg [])) h
  have h2 : Lit.int .i64 (g : Int) = Lit.int .i64 (f : Int) := DataW.lit.inj h1
  have h3 : (g : Int) = (f : Int) := (Lit.int.inj h2).2
  have : g = f := Int.ofNat.inj h3
  rw [this]
 case h_2 =>
  injection h with h
  injection h with h1 _
  cases h1
theorem wpList_insert_fn {b n : Nat} {D : DataW Unit} {w : World} {ops : Array Oper} {rest : List Oper} {o : Oper} {a : Act} {Q : Exit → Act → World → Prop} (hg : o.guard = none) (m x v : Operand)
  (hop : o.op = Op.insert 166 m x v) (hm : a.eval m = .map (some b)) (hown : w.ownsMap Try.prog 3 fnR b n D) (hn : n < 100) (k : Int) (f : Nat) (hx : a.eval x = .int .i64 k) (hv : a.eval v = .func (.func f) #[] #[]) (hk : (Lit.int .i64 k).wf = true)
  (hK : ∀ w', w'.ownsMap Try.prog 3 fnR b (n + 1) (D.put (.int .i64 k) (.lit (.int .i64 (f : Int)))) → w.grownBy w' (some b) → wpList Try.prog ops Q rest (a.put o.dst undef) w') : wpList Try.prog ops Q (o :: rest) a w := by
 refine wpList_plain hg fun K' hK' => ?_
 obtain ⟨w', hrun, r1, r2⟩ := hown.update (int_keyed Try.underlying3) Try.underlying166 (by unfold maxLen; omega) (keyOf_int_mk Try.underlying3 hk) (show fnR (.func (.func f) #[] #[]) = some (.lit (.int .i64 (f : Int)), []) from rfl)
 unfold Oper.wp
 simp [execOp, hop, hm, hx, hv, hrun, Result.andThen]
 exact hK' _ _ (hK w' r1 r2)
/-- a choice of events that a function makes -/
def chsL (p : Ev → Bool) (l : List Ev) (k : Nat) : List Int := (rngI (k : Int)).filter fun i => match l[i.toNat]? with | some e => p e | none => false
theorem chsL_snoc {p : Ev → Bool} {l : List Ev} {k : Nat} {e : Ev} (h : l[k]? = some e) : chsL p l (k + 1) = chsL p l k ++ (if p e = true then [(k : Int)] else []) := by
 unfold chsL
 rw [rngI_snoc, List.filter_append]
 congr 1
 by_cases hp : p e = true
 ·rw [if_pos hp]; simp [h, hp]
 ·rw [if_neg hp]; simp [h, hp]
set_option maxRecDepth 100000 in
set_option maxHeartbeats 1600000 in
theorem alphabet_chosen (A : Option Addr) (c n : Nat) (l : List Ev) (fp : Nat) (p : Ev → Bool) (w : World) (hl : l.length = n) (h : RdE w w.heap.size A l) (hn : n ≤ 1000000)
  (eg : ∀ args W, (callFunc fp args).run Try.prog W = .ok (.enter fp args) W)
  (hp : ∀ (e : Ev) W, Calls Try.prog fp #[.agg #[.string e.nm, .bool e.c, .bool e.o, .bool e.f, .int .i64 e.fault]] W fun r W' => r = .returned (.bool (p e)) ∧ Below W.heap.size W W') :
  Calls Try.prog 100 #[.slice A n c, .func (.func fp) #[] #[]] w (RetO 3 (chsL p l n) w) := by
 have HL := Lib.hid hl; clear hl
 have HP := Lib.hid hp; clear hp
 go_enter Try.func100, Try.ntmps100
 go_wp2
 go_loopw [5, 6, 7, 10] (fun s5 s6 s7 s10 wr => ∃ (k m : Nat) (v6 v7 : Value), s10 = .int .i64 k ∧ s6 = v6 ∧ s7 = v7 ∧ k ≤ n ∧ m ≤ k ∧ Hid ((chsL p l k).length = m) ∧ Hid (wr.ownsRow w.heap.size 3 1 s5 m (iv (chsL p l k))) ∧ Hid (Below w.heap.size w wr)) (fun _ _ _ s10 _ => n - (intOf s10).toNat)
 case atStart => exact ⟨0, 0, _, _, rfl, rfl, rfl, Nat.zero_le _, Nat.le_refl _, Lib.hid rfl, Lib.hid (World.ownsRow_nil _ _ _ _), Lib.hid (Below.refl _ _)⟩
 case round =>
  obtain ⟨k, m, v6, v7, rfl, rfl, rfl, hk, hmk, HM, HO, HB⟩ := hrel
  by_cases hlt : k < n
  ·obtain ⟨ad, e, rfl, hab, he, hs, q0, q1, q2, q3, q4⟩ := (h.below HB.out).at_ (k := k) (by have := HL.out; omega)
   have HS := Lib.hid (chsL_snoc (p := p) he)
   have b1 : (k : Int) < (n : Int) := by omega
   have p1 : wr.cell? ⟨(ad.add (k * 5)).block, (ad.add (k * 5)).off + 1, none⟩ = some (.bool e.c) := ev_cells (j := 0) q1
   have p2 : wr.cell? ⟨(ad.add (k * 5)).block, (ad.add (k * 5)).off + 2, none⟩ = some (.bool e.o) := ev_cells (j := 1) q2
   have p3 : wr.cell? ⟨(ad.add (k * 5)).block, (ad.add (k * 5)).off + 3, none⟩ = some (.bool e.f) := ev_cells (j := 2) q3
   have p4 : wr.cell? ⟨(ad.add (k * 5)).block, (ad.add (k * 5)).off + 4, none⟩ = some (.int .i64 e.fault) := ev_cells (j := 3) q4
   have hx := box_below wr (.cells #[.string e.nm, .bool e.c, .bool e.o, .bool e.f, .int .i64 e.fault] 67)
   have HB1 := Lib.hid (HB.out.trans (hx.mono HB.out.size))
   have HO1 := Lib.hid (own_below HO.out hx)
   obtain ⟨w1, hw1⟩ : ∃ w1, w1 = wr.alloc (.cells #[.string e.nm, .bool e.c, .bool e.o, .bool e.f, .int .i64 e.fault] 67) := ⟨_, rfl⟩
   rw [← hw1] at HB1 HO1
   have HC := Lib.hid (HP.out e w1)
   have HW1 := Lib.hid hw1; clear hw1
   obtain ⟨q, hq⟩ : ∃ q, p e = q := ⟨_, rfl⟩
   rw [hq] at HC HS
   clear q1 q2 q3 q4 he hx hq
   go_wp2_with fail
   rw [← HW1.out]
   refine HC.out.mono ?_
   rintro r w2 ⟨rfl, hb2⟩
   have HB2 := Lib.hid (HB1.out.trans (hb2.mono HB1.out.size))
   have HO2 := Lib.hid (own_below HO1.out hb2)
   have hsz := HB2.out.size
   clear q0 p1 p2 p3 p4 HC hb2 HW1
   cases q with
   | true =>
    have HS2 := Lib.hid (show chsL p l (k + 1) = chsL p l k ++ [(k : Int)] from HS.out)
    go_wp2_with (first | (at_builtin; refine wpList_push w2 (.int .i64 (k : Int)) rfl (.tmp 18) (.tmp 20) 31 rfl w.heap.size 3 (.int .i64 0) 8 Try.underlying31 int_info rfl _ m _ rfl HO2.out rfl rfl (by omega) (by omega) hsz ?_; intro v' w' ho' hg' hb1) | fail)
    go_roundw
    case rel => exact ⟨k + 1, m + 1, _, _, by go_num, rfl, rfl, by omega, by omega, Lib.hid (by rw [HS2.out, List.length_append, HM.out]; rfl), Lib.hid (by rw [HS2.out, iv_append]; exact ho'), Lib.hid (HB2.out.trans hb1)⟩
    case measure => simp [intOf]; omega
   | false =>
    have HS2 := Lib.hid (show chsL p l (k + 1) = chsL p l k from HS.out.trans (List.append_nil _))
    go_wp2
    go_roundw
    case rel => exact ⟨k + 1, m, _, _, by go_num, rfl, rfl, by omega, by omega, Lib.hid (by rw [HS2.out]; exact HM.out), Lib.hid (by rw [HS2.out]; exact HO2.out), HB2⟩
    case measure => simp [intOf]; omega
  ·obtain rfl : k = n := by omega
   have b1 : ¬ (k : Int) < (k : Int) := by omega
   go_wp2
   go_ret
   exact ⟨_, rfl, by rw [HM.out]; exact HO.out, HB.out⟩
theorem select3_ok (e : Ev) (w : World) : Calls Try.prog 96 #[.agg #[.string e.nm, .bool e.c, .bool e.o, .bool e.f, .int .i64 e.fault]] w fun r w' => r = .returned (.bool e.o) ∧ Below w.heap.size w w' := by
 have hb := box_below w (.cells #[.string e.nm, .bool e.c, .bool e.o, .bool e.f, .int .i64 e.fault] 67)
 go_enter Try.func96, Try.ntmps96
 go_wp2
 go_ret
 exact ⟨rfl, hb⟩
theorem select4_ok (e : Ev) (w : World) : Calls Try.prog 97 #[.agg #[.string e.nm, .bool e.c, .bool e.o, .bool e.f, .int .i64 e.fault]] w fun r w' => r = .returned (.bool (!e.o)) ∧ Below w.heap.size w w' := by
 have hb := box_below w (.cells #[.string e.nm, .bool e.c, .bool e.o, .bool e.f, .int .i64 e.fault] 67)
 go_enter Try.func97, Try.ntmps97
 go_wp2
 go_ret
 exact ⟨rfl, hb⟩
/-- the events that a kind selects -/
def selP (k : Int) (e : Ev) : Bool := if k = 3 then e.o else !e.o
set_option maxRecDepth 100000 in
set_option maxHeartbeats 1600000 in
theorem alphabet_Select (A : Option Addr) (c n : Nat) (l : List Ev) (k : Int) (w : World) (hl : l.length = n) (h : RdE w w.heap.size A l) (hk : k = 3 ∨ k = 4) (hc : chkE l = 0) (hn : n ≤ 32) :
  Calls Try.prog 59 #[.slice A n c, .int .i64 k] w (RetLE (chsL (selP k) l n) w) := by
 have HC := Lib.hid (alphabet_Check A c n l w hl h)
 rw [hc] at HC
 have hmm := @run_makeMap Try.prog
 have HL := Lib.hid hl; clear hl
 have HH := Lib.hid h; clear h
 clear hc
 go_enter Try.func59, Try.ntmps59
 go_wp2_with fail
 refine HC.out.mono ?_
 rintro e w2 ⟨rfl, hb2⟩
 have hx := box_below w2 (.map #[] 0)
 have hm0 := World.ownsMap_made w2 Try.prog 3 fnR
 have HB3 := Lib.hid (hb2.trans (hx.mono hb2.size))
 have hs2 := hb2.size
 clear HC hb2 hx
 go_wp2_with (first
  | (refine wpList_insert_fn rfl _ _ _ rfl rfl hm0 (by omega) _ _ rfl rfl rfl ?_; intro w3 hm1 hg1; clear hm0)
  | (refine wpList_insert_fn rfl _ _ _ rfl rfl hm1 (by omega) _ _ rfl rfl rfl ?_; intro w4 hm2 hg2; clear hm1)
  | (refine wpList_insert_fn rfl _ _ _ rfl rfl hm2 (by omega) _ _ rfl rfl rfl ?_; intro w5 hm3 hg3; clear hm2)
  | (refine wpList_insert_fn rfl _ _ _ rfl rfl hm3 (by omega) _ _ rfl rfl rfl ?_; intro w6 hm4 hg4; clear hm3)
  | (refine wpList_insert_fn rfl _ _ _ rfl rfl hm4 (by omega) _ _ rfl rfl rfl ?_; intro w7 hm5 hg5; clear hm4)
  | (refine wpList_insert_fn rfl _ _ _ rfl rfl hm5 (by omega) _ _ rfl rfl rfl ?_; intro w8 hm6 hg6; clear hm5)
  | fail)
 obtain ⟨z, hz⟩ : ∃ z, (zeroValue 147).run Try.prog w8 = .ok z w8 := ⟨_, rfl⟩
 obtain ⟨⟨zd, zp⟩, hzd⟩ : ∃ y, fnR z = some y := by
  unfold fnR
  split <;> exact ⟨_, rfl⟩
 have hgg := ((((hg1.trans hg2).trans hg3).trans hg4).trans hg5).trans hg6
 have HB8 := Lib.hid (HB3.out.grown hgg HB3.out.size (fun j e => by injection e with e; omega))
 clear hg1 hg2 hg3 hg4 hg5 hg6 hgg hs2
 rcases hk with rfl | rfl
 ·obtain ⟨v, ps, hrun, hv⟩ := hm6.look_ok (int_keyed Try.underlying3) Try.underlying166 hz hzd (keyOf_int_mk Try.underlying3 (show (Lit.int .i64 3).wf = true from rfl))
  have hv2 := fnR_inv (f := 96) hv
  subst hv2
  have hrun2 : (Instr.lookup 166 (.map (some w2.heap.size)) (.int .i64 3) true).run Try.prog w8 = .ok (.tuple #[.func (.func 96) #[] #[], .bool true]) w8 := hrun
  have HCH := Lib.hid (alphabet_chosen A c n l 96 (selP 3) w8 HL.out ((HH.out.below HB8.out).more HB8.out.size) (by omega) (fun _ _ => rfl) (fun e W => select3_ok e W))
  clear hrun hv hz hzd hm6
  rw [hrun2]
  go_wp2_with fail
  refine HCH.out.mono ?_
  rintro e w9 ⟨v9, rfl, ho9, hb9⟩
  have HF := Lib.hid (And.intro (own_base ho9 HB8.out.size) (HB8.out.trans (hb9.mono HB8.out.size)))
  clear HCH hrun2 ho9 hb9
  go_wp2
  refine bodyPost_ret (v := .tuple #[v9, .int .i64 0]) (by simp [results, Try.results59, go_sem]) rfl ?_
  exact ⟨_, rfl, HF.out.1, HF.out.2⟩
 ·obtain ⟨v, ps, hrun, hv⟩ := hm6.look_ok (int_keyed Try.underlying3) Try.underlying166 hz hzd (keyOf_int_mk Try.underlying3 (show (Lit.int .i64 4).wf = true from rfl))
  have hv2 := fnR_inv (f := 97) hv
  subst hv2
  have hrun2 : (Instr.lookup 166 (.map (some w2.heap.size)) (.int .i64 4) true).run Try.prog w8 = .ok (.tuple #[.func (.func 97) #[] #[], .bool true]) w8 := hrun
  have HCH := Lib.hid (alphabet_chosen A c n l 97 (selP 4) w8 HL.out ((HH.out.below HB8.out).more HB8.out.size) (by omega) (fun _ _ => rfl) (fun e W => select4_ok e W))
  clear hrun hv hz hzd hm6
  rw [hrun2]
  go_wp2_with fail
  refine HCH.out.mono ?_
  rintro e w9 ⟨v9, rfl, ho9, hb9⟩
  have HF := Lib.hid (And.intro (own_base ho9 HB8.out.size) (HB8.out.trans (hb9.mono HB8.out.size)))
  clear HCH hrun2 ho9 hb9
  go_wp2
  refine bodyPost_ret (v := .tuple #[v9, .int .i64 0]) (by simp [results, Try.results59, go_sem]) rfl ?_
  exact ⟨_, rfl, HF.out.1, HF.out.2⟩
end Go.Proofs.Ytddhaidimadliaa

/- Walks: diagnosability's Quiet, settled. Printed by wip/mkje.py. -/
namespace Go.Proofs.Ytddhaidimadliaa
open Go.RowKit Go

theorem dmE_ev {z : DV} (h : dmE z = 0) : chkE z.l = 0 := by
 unfold dmE at h
 by_cases h1 : chkE z.l ≠ 0
 ·rw [if_pos h1] at h; exact absurd h h1
 exact Classical.not_not.1 h1
theorem chkE_len {l : List Ev} (h : chkE l = 0) : l.length ≤ 32 := by
 unfold chkE at h
 by_cases h1 : 32 < l.length
 ·rw [if_pos h1] at h; cases h
 ·omega
/-- the events of a kind -/
def kndL (z : DV) (k : Int) : List Int := chsL (selP k) z.l z.nv
theorem chsL_rng {p : Ev → Bool} {l : List Ev} {n : Nat} : Inc (chsL p l n) ∧ ∀ v ∈ chsL p l n, 0 ≤ v ∧ v < (n : Int) :=
 ⟨List.Pairwise.filter _ (rng_inc _), fun _ hv => rngI_mem.1 (List.mem_filter.1 hv).1⟩
set_option maxRecDepth 100000 in
set_option maxHeartbeats 1600000 in
theorem dm_Quiet (z : DV) (w : World) (h : z.ok w w.heap.size) (hd : dmE z = 0) :
  Calls Try.prog 17 #[.agg (dvc z).toArray] w (RetCyc (cycF z.x.a (kndL z 4)) w) := by
 have hw := dmE_wf hd
 have hce := dmE_ev hd
 have hln := chkE_len hce
 have hll := h.ll
 obtain ⟨⟨A, na, ca, M, nm, cm, E, ne, ce, a⟩, V, nv, cv, l⟩ := z
 have hb1 := box_below w (.cells #[.slice A na ca, .int .i64 a.st, .slice M nm cm, .slice E ne ce, .slice V nv cv] 37)
 obtain ⟨w1, hw1⟩ : ∃ w1, w1 = w.alloc (.cells #[.slice A na ca, .int .i64 a.st, .slice M nm cm, .slice E ne ce, .slice V nv cv] 37) := ⟨_, rfl⟩
 have kx : Blk w1 w.heap.size 37 [.slice A na ca, .int .i64 a.st, .slice M nm cm, .slice E ne ce, .slice V nv cv] := by rw [hw1]; exact Blk.new _ _ [_, _, _, _, _]
 rw [← hw1] at hb1
 have HK := Lib.hid (fun (W : World) (hb : Below w1.heap.size w1 W) => kx.below hb kx.lt)
 have HOK := Lib.hid (fun (W : World) (hb : Below w1.heap.size w1 W) => (h.below (hb1.trans (hb.mono hb1.size))).more (hb1.trans (hb.mono hb1.size)).size)
 have lx := kx.lt
 clear kx h
 dsimp only at hw hce hln hll
 have HC := Lib.hid (dm_Check _ 0 w1 (HOK.out w1 (Below.refl _ _)) hd)
 unfold dvc at HC ⊢
 unfold kndL
 dsimp only at HC ⊢
 obtain ⟨sv, hsv⟩ : ∃ s, a.st = s := ⟨_, rfl⟩
 have HSL := Lib.hid (fun (W : World) (hb : Below w1.heap.size w1 W) => alphabet_Select V cv nv l 4 W hll (HOK.out W hb).rl (.inr rfl) hce (by omega))
 obtain ⟨ev, hev⟩ : ∃ v, chsL (selP 4) l nv = v := ⟨_, rfl⟩
 have HEV := Lib.hid (show Inc ev ∧ ∀ v ∈ ev, 0 ≤ v ∧ v < 32 from by
  rw [← hev]
  exact ⟨chsL_rng.1, fun v hv => by have := chsL_rng.2 v hv; omega⟩)
 rw [hev] at HSL ⊢
 obtain ⟨R, hR⟩ : ∃ R, cycF a ev = R := ⟨_, rfl⟩
 rw [hR]
 have HCY := Lib.hid (fun (W : World) (hb : Below w1.heap.size w1 W) => (show ∀ (S : Option Addr) (cs : Nat), RdI W W.heap.size S ev → ev.length ≤ cs → cs ≤ 9223372036854775807 → Calls Try.prog 60 #[.agg #[.slice A na ca, .int .i64 a.st, .slice M nm cm, .slice E ne ce], .slice S ev.length cs] W (RetCyc R W) from fun S cs hS h1 h2 =>
  reach_Cycle ⟨A, na, ca, M, nm, cm, E, ne, ce, a⟩ W a.st.toNat (HOK.out W hb).x hw (show a.st = (a.st.toNat : Int) by have := hw.st0; omega) S ev.length cs ev rfl hS h1 h2 (setErr_mk HEV.out.1 HEV.out.2) HEV.out.2 R hR))
 rw [hsv] at hw1 HK HC HCY ⊢
 have k0 := HK.out w1 (Below.refl _ _)
 have a0 := k0.cell (j := 0) rfl
 have a1 := k0.cell (j := 1) rfl
 have a2 := k0.cell (j := 2) rfl
 have a3 := k0.cell (j := 3) rfl
 have a4 := k0.cell (j := 4) rfl
 clear k0
 have HW1 := Lib.hid hw1; clear hw1
 have HB1 := Lib.hid hb1; clear hb1
 clear hsv hd hw hev hR hce hln
 go_enter Try.func17, Try.ntmps17
 go_wp2_with fail
 rw [← HW1.out]
 refine HC.out.mono ?_
 rintro e w2 ⟨rfl, hb2⟩
 have HB2 := Lib.hid (HB1.out.trans (hb2.mono HB1.out.size))
 have HB12 := Lib.hid hb2
 clear a0 a1 a2 a3 a4 HC hb2
 have k0 := HK.out w2 HB12.out
 have a0 := k0.cell (j := 0) rfl
 have a1 := k0.cell (j := 1) rfl
 have a2 := k0.cell (j := 2) rfl
 have a3 := k0.cell (j := 3) rfl
 have a4 := k0.cell (j := 4) rfl
 clear k0
 clear a0 a1 a2 a3
 have HS2 := Lib.hid (HSL.out w2 HB12.out)
 go_wp2_with fail
 refine HS2.out.mono ?_
 rintro e w3 ⟨v3, rfl, ho3, hb3⟩
 obtain ⟨SA, sc, rfl, p1, p2, rd⟩ := own_slI ho3
 have HRD := Lib.hid rd
 have HB3 := Lib.hid (HB2.out.trans (hb3.mono HB2.out.size))
 have HB13 := Lib.hid (HB12.out.trans (hb3.mono HB12.out.size))
 clear a4 HS2 HSL ho3 rd hb3
 have k0 := HK.out w3 HB13.out
 have a0 := k0.cell (j := 0) rfl
 have a1 := k0.cell (j := 1) rfl
 have a2 := k0.cell (j := 2) rfl
 have a3 := k0.cell (j := 3) rfl
 clear k0
 have HY := Lib.hid (HCY.out w3 HB13.out SA sc HRD.out p1 p2)
 go_wp2_with fail
 refine HY.out.mono ?_
 rintro e w4 ⟨pv, cv4, rfl, hop, hoc, hb4⟩
 have HF := Lib.hid (And.intro (own_base hop HB3.out.size) (And.intro (own_base hoc HB3.out.size) (HB3.out.trans (hb4.mono HB3.out.size))))
 obtain ⟨fd, hfd⟩ : ∃ f, R.2 = f := ⟨_, rfl⟩
 rw [hfd]
 have HFD := Lib.hid hfd; clear hfd
 clear a0 a1 a2 a3 HY HCY hop hoc hb4 p1 p2
 go_wp2
 refine bodyPost_ret (v := .tuple #[pv, cv4, .bool fd, .int .i64 0]) (by simp [results, Try.results17, go_sem]) rfl ?_
 exact ⟨_, _, by rw [HFD.out], HF.out⟩
/-- the error of a model and a class whose faults are to be diagnosed -/
def stlE (z : DV) (c : Int) : Int := if clsE z c ≠ 0 then clsE z c else if (liveR z.x.a).2 = true ∧ (cycF z.x.a (kndL z 4)).2 = false then 0 else 25
theorem clsE_dm {z : DV} {c : Int} (h : clsE z c = 0) : dmE z = 0 := by
 unfold clsE at h
 by_cases h1 : dmE z ≠ 0
 ·rw [if_pos h1] at h; exact absurd h h1
 exact Classical.not_not.1 h1
set_option maxRecDepth 100000 in
set_option maxHeartbeats 1600000 in
theorem dm_settled (z : DV) (c r : Int) (w : World) (h : z.ok w w.heap.size) (hr : stlE z c = r) :
  Calls Try.prog 106 #[.agg (dvc z).toArray, .int .i64 c] w fun e w' => e = .returned (.int .i64 r) ∧ Below w.heap.size w w' := by
 obtain ⟨re, hre⟩ : ∃ r, clsE z c = r := ⟨_, rfl⟩
 unfold stlE at hr
 rw [hre] at hr
 have HLV := Lib.hid (fun (W : World) (hz : z.ok W W.heap.size) (h0 : re = 0) => dm_Live z W hz (clsE_dm (hre.trans h0)))
 have HQT := Lib.hid (fun (W : World) (hz : z.ok W W.heap.size) (h0 : re = 0) => dm_Quiet z W hz (clsE_dm (hre.trans h0)))
 obtain ⟨L, hL⟩ : ∃ L, liveR z.x.a = L := ⟨_, rfl⟩
 obtain ⟨Y, hY⟩ : ∃ Y, cycF z.x.a (kndL z 4) = Y := ⟨_, rfl⟩
 rw [hL] at HLV hr
 rw [hY] at HQT hr
 clear hL hY
 have HC0 := Lib.hid (fun (W : World) (hz : z.ok W W.heap.size) => dm_classed z c re W hz hre)
 clear hre
 obtain ⟨⟨A, na, ca, M, nm, cm, E, ne, ce, a⟩, V, nv, cv, l⟩ := z
 have hb1 := box_below w (.cells #[.slice A na ca, .int .i64 a.st, .slice M nm cm, .slice E ne ce, .slice V nv cv] 37)
 obtain ⟨w1, hw1⟩ : ∃ w1, w1 = w.alloc (.cells #[.slice A na ca, .int .i64 a.st, .slice M nm cm, .slice E ne ce, .slice V nv cv] 37) := ⟨_, rfl⟩
 have kx : Blk w1 w.heap.size 37 [.slice A na ca, .int .i64 a.st, .slice M nm cm, .slice E ne ce, .slice V nv cv] := by rw [hw1]; exact Blk.new _ _ [_, _, _, _, _]
 rw [← hw1] at hb1
 have HK := Lib.hid (fun (W : World) (hb : Below w1.heap.size w1 W) => kx.below hb kx.lt)
 have HOK := Lib.hid (fun (W : World) (hb : Below w1.heap.size w1 W) => (h.below (hb1.trans (hb.mono hb1.size))).more (hb1.trans (hb.mono hb1.size)).size)
 have lx := kx.lt
 clear kx h
 unfold dvc at HLV HQT HC0 ⊢
 dsimp only at HLV HQT HC0 ⊢
 obtain ⟨sv, hsv⟩ : ∃ s, a.st = s := ⟨_, rfl⟩
 rw [hsv] at hw1 HK HC0 HLV HQT ⊢
 have k0 := HK.out w1 (Below.refl _ _)
 have a0 := k0.cell (j := 0) rfl
 have a1 := k0.cell (j := 1) rfl
 have a2 := k0.cell (j := 2) rfl
 have a3 := k0.cell (j := 3) rfl
 have a4 := k0.cell (j := 4) rfl
 clear k0
 have HC := Lib.hid (HC0.out w1 (HOK.out w1 (Below.refl _ _)))
 have HW1 := Lib.hid hw1; clear hw1
 have HB1 := Lib.hid hb1; clear hb1
 have HR := Lib.hid hr; clear hr
 clear hsv HC0
 go_enter Try.func106, Try.ntmps106
 go_wp2_with fail
 rw [← HW1.out]
 refine HC.out.mono ?_
 rintro e w2 ⟨rfl, hb2⟩
 have HB2 := Lib.hid (HB1.out.trans (hb2.mono HB1.out.size))
 have HB12 := Lib.hid hb2
 clear a0 a1 a2 a3 a4 HC hb2
 by_cases h1 : re = 0
 ·have HL2 := Lib.hid (HLV.out w2 (HOK.out w2 HB12.out) h1)
  subst h1
  have k0 := HK.out w2 HB12.out
  have a0 := k0.cell (j := 0) rfl
  have a1 := k0.cell (j := 1) rfl
  have a2 := k0.cell (j := 2) rfl
  have a3 := k0.cell (j := 3) rfl
  have a4 := k0.cell (j := 4) rfl
  clear k0
  go_wp2_with fail
  refine HL2.out.mono ?_
  rintro e w3 ⟨v3, rfl, _, hb3⟩
  have HB3 := Lib.hid (HB2.out.trans (hb3.mono HB2.out.size))
  have HB13 := Lib.hid (HB12.out.trans (hb3.mono HB12.out.size))
  clear a0 a1 a2 a3 a4 HL2 HLV hb3
  have k0 := HK.out w3 HB13.out
  have a0 := k0.cell (j := 0) rfl
  have a1 := k0.cell (j := 1) rfl
  have a2 := k0.cell (j := 2) rfl
  have a3 := k0.cell (j := 3) rfl
  have a4 := k0.cell (j := 4) rfl
  clear k0
  have HQ2 := Lib.hid (HQT.out w3 (HOK.out w3 HB13.out) (by simp))
  obtain ⟨lv, hlv⟩ : ∃ b, L.2 = b := ⟨_, rfl⟩
  rw [hlv] at HR ⊢
  go_wp2_with fail
  refine HQ2.out.mono ?_
  rintro e w4 ⟨pv, cv4, rfl, _, _, hb4⟩
  have HB4 := Lib.hid (HB3.out.trans (hb4.mono HB3.out.size))
  obtain ⟨qt, hqt⟩ : ∃ b, Y.2 = b := ⟨_, rfl⟩
  rw [hqt] at HR ⊢
  clear a0 a1 a2 a3 a4 HQ2 HQT hb4 hlv hqt
  cases lv <;> cases qt
  ·have HR2 := Lib.hid (show r = 25 from HR.out.symm.trans (by simp))
   go_wp2
   go_ret
   exact ⟨ret_int HR2.out.symm, HB4.out⟩
  ·have HR2 := Lib.hid (show r = 25 from HR.out.symm.trans (by simp))
   go_wp2
   go_ret
   exact ⟨ret_int HR2.out.symm, HB4.out⟩
  ·have HR2 := Lib.hid (show r = 0 from HR.out.symm.trans (by simp))
   go_wp2
   go_ret
   exact ⟨ret_int HR2.out.symm, HB4.out⟩
  ·have HR2 := Lib.hid (show r = 25 from HR.out.symm.trans (by simp))
   go_wp2
   go_ret
   exact ⟨ret_int HR2.out.symm, HB4.out⟩
 ·have e1 : (re != 0) = true := by simpa using h1
  have HR2 := Lib.hid (show re = r by have h9 := HR.out; rw [if_pos h1] at h9; exact h9)
  clear h1
  go_wp2
  go_ret
  exact ⟨ret_int HR2.out, HB2.out⟩
end Go.Proofs.Ytddhaidimadliaa

/- Walks: classed, reach.Dead, automaton.Step, the model's step, Live. Printed by wip/mkjb.py. -/
import Derived.Test.YtddhaidimadliaaJa
import Derived.Test.YtddhaidimadliaaIa
import Derived.Test.YtddhaidimadliaaUk
import Derived.BigQuiet
namespace Go.Proofs.Ytddhaidimadliaa
open Go.RowKit Go

/-- what the plain laws say of a model -/
def DV.m (z : DV) : Dm := ⟨z.x.a, z.l.map Ev.o, z.l.map Ev.fault⟩
/-- a list and no error -/
def RetLE (l : List Int) (w : World) (e : Ending) (w' : World) : Prop := ∃ v, e = .returned (.tuple #[v, .int .i64 0]) ∧ w'.ownsRow w.heap.size 3 1 v l.length (iv l) ∧ Below w.heap.size w w'
set_option maxRecDepth 100000 in
set_option maxHeartbeats 1600000 in
theorem dm_classed (z : DV) (c r : Int) (w : World) (h : z.ok w w.heap.size) (hr : clsE z c = r) :
  Calls Try.prog 63 #[.agg (dvc z).toArray, .int .i64 c] w fun e w' => e = .returned (.int .i64 r) ∧ Below w.heap.size w w' := by
 obtain ⟨re, hre⟩ : ∃ r, dmE z = r := ⟨_, rfl⟩
 unfold clsE at hr
 rw [hre] at hr
 obtain ⟨⟨A, na, ca, M, nm, cm, E, ne, ce, a⟩, V, nv, cv, l⟩ := z
 have hb1 := box_below w (.cells #[.slice A na ca, .int .i64 a.st, .slice M nm cm, .slice E ne ce, .slice V nv cv] 37)
 obtain ⟨w1, hw1⟩ : ∃ w1, w1 = w.alloc (.cells #[.slice A na ca, .int .i64 a.st, .slice M nm cm, .slice E ne ce, .slice V nv cv] 37) := ⟨_, rfl⟩
 have kx : Blk w1 w.heap.size 37 [.slice A na ca, .int .i64 a.st, .slice M nm cm, .slice E ne ce, .slice V nv cv] := by rw [hw1]; exact Blk.new _ _ [_, _, _, _, _]
 rw [← hw1] at hb1
 have HK := Lib.hid (fun (W : World) (hb : Below w1.heap.size w1 W) => kx.below hb kx.lt)
 have HOK := Lib.hid (fun (W : World) (hb : Below w1.heap.size w1 W) => (h.below (hb1.trans (hb.mono hb1.size))).more (hb1.trans (hb.mono hb1.size)).size)
 have lx := kx.lt
 clear kx h
 have HC := Lib.hid (dm_Check _ re w1 (HOK.out w1 (Below.refl _ _)) hre)
 unfold dvc
 dsimp only
 obtain ⟨sv, hsv⟩ : ∃ s, a.st = s := ⟨_, rfl⟩
 unfold dvc at HC
 dsimp only at HC
 rw [hsv] at hw1 HK HC ⊢
 have k0 := HK.out w1 (Below.refl _ _)
 have a0 := k0.cell (j := 0) rfl
 have a1 := k0.cell (j := 1) rfl
 have a2 := k0.cell (j := 2) rfl
 have a3 := k0.cell (j := 3) rfl
 have a4 := k0.cell (j := 4) rfl
 clear k0
 have HW1 := Lib.hid hw1; clear hw1
 have HB1 := Lib.hid hb1; clear hb1
 have HR := Lib.hid hr; clear hr
 clear hsv hre
 go_enter Try.func63, Try.ntmps63
 go_wp2_with fail
 rw [← HW1.out]
 refine HC.out.mono ?_
 rintro e w2 ⟨rfl, hb2⟩
 have HB2 := Lib.hid (HB1.out.trans (hb2.mono HB1.out.size))
 clear a0 a1 a2 a3 a4 HC hb2
 by_cases h1 : re = 0
 ·subst h1
  by_cases h2 : c < 1
  ·have HR2 := Lib.hid (show r = 2 by have h9 := HR.out; rw [if_neg (by simp), if_pos (.inl h2)] at h9; exact h9.symm)
   go_wp2
   go_ret
   exact ⟨ret_int HR2.out.symm, HB2.out⟩
  ·by_cases h3 : 4 < c
   ·have HR2 := Lib.hid (show r = 2 by have h9 := HR.out; rw [if_neg (by simp), if_pos (.inr h3)] at h9; exact h9.symm)
    go_wp2
    go_ret
    exact ⟨ret_int HR2.out.symm, HB2.out⟩
   ·have HR2 := Lib.hid (show r = 0 by have h9 := HR.out; rw [if_neg (by simp), if_neg (fun h => h.elim h2 h3)] at h9; exact h9.symm)
    go_wp2
    go_ret
    exact ⟨ret_int HR2.out.symm, HB2.out⟩
 ·have e1 : (re != 0) = true := by simpa using h1
  have HR2 := Lib.hid (show re = r by have h9 := HR.out; rw [if_pos h1] at h9; exact h9)
  clear h1
  go_wp2
  go_ret
  exact ⟨ret_int HR2.out, HB2.out⟩
theorem dead_snoc (a : Aut) (k : Nat) : (rngI ((k + 1 : Nat) : Int)).filter (fun s => (outL a.ed s).isEmpty) = (rngI (k : Int)).filter (fun s => (outL a.ed s).isEmpty) ++ (if (outL a.ed (k : Int)).isEmpty = true then [(k : Int)] else []) := by
 have e : rngI ((k + 1 : Nat) : Int) = rngI (k : Int) ++ [(k : Int)] := by
  unfold rngI
  rw [Int.toNat_natCast, Int.toNat_natCast, List.range_succ, List.map_append]
  rfl
 rw [e, List.filter_append]
 congr 1
 by_cases h : (outL a.ed (k : Int)).isEmpty = true
 ·rw [if_pos h]; simp [h]
 ·rw [if_neg h]; simp [h]
theorem fstN_out (es : List Ed) (k : Int) : fstN es (k + 1) = fstN es k + (outL es k).length := by
 rw [fstN_succ]
 congr 2
 unfold outL
 congr 1
 funext x
 rw [decide_eq_decide]
 omega
set_option maxRecDepth 100000 in
set_option maxHeartbeats 1600000 in
theorem reach_Dead (x : AV) (n : Nat) (w : World) (hx : x.ok w w.heap.size) (hw : WF x.a) (hn : x.a.st = (n : Int)) :
  Calls Try.prog 12 #[.agg #[.slice x.A x.na x.ca, .int .i64 x.a.st, .slice x.M x.nm x.cm, .slice x.E x.ne x.ce]] w (RetLE (deadL x.a) w) := by
 obtain ⟨A, na, ca, M, nm, cm, E, ne, ce, a⟩ := x
 dsimp only at hw hn ⊢
 have hn4 : n ≤ 4096 := by have := hw.st1; omega
 have hb1 := box_below w (.cells #[.slice A na ca, .int .i64 a.st, .slice M nm cm, .slice E ne ce] 34)
 obtain ⟨w1, hw9⟩ : ∃ w1, w1 = w.alloc (.cells #[.slice A na ca, .int .i64 a.st, .slice M nm cm, .slice E ne ce] 34) := ⟨_, rfl⟩
 have kx : Blk w1 w.heap.size 34 [.slice A na ca, .int .i64 a.st, .slice M nm cm, .slice E ne ce] := by rw [hw9]; exact Blk.new _ _ [_, _, _, _]
 rw [← hw9] at hb1
 have HG0 := Lib.hid (fun (W : World) (hb : Below w1.heap.size w1 W) => Blk.c4 (kx.below hb kx.lt))
 rw [hn] at HG0
 obtain ⟨a0, a1, a2, a3⟩ := HG0.out w1 (Below.refl _ _)
 have HCK := Lib.hid (automaton_Check A na ca M nm cm E ne ce a w1 ((AutR.below hx hb1).more hb1.size))
 rw [hw.chk, hn] at HCK
 have HXK := Lib.hid (fun (W : World) (hb : Below w1.heap.size w1 W) => AutR.more (AutR.below hx (hb1.trans (hb.mono hb1.size))) (hb1.trans (hb.mono hb1.size)).size)
 rw [hn] at hw9 ⊢
 have HN := Lib.hid hn
 have HW9 := Lib.hid hw9; clear hw9
 have HB1 := Lib.hid hb1; clear hb1
 have HWF := Lib.hid hw; clear hw
 have lx := kx.lt
 clear kx hx hn
 go_enter Try.func12, Try.ntmps12
 go_wp2_with fail
 rw [← HW9.out]
 refine HCK.out.mono ?_
 rintro e w2 ⟨rfl, hb2⟩
 have HB2 := Lib.hid hb2; clear hb2
 clear HCK a0 a1 a2 a3
 obtain ⟨a0, a1, a2, a3⟩ := HG0.out w2 HB2.out
 have HNG := Lib.hid (newGraph_ok ⟨A, na, ca, M, nm, cm, E, ne, ce, a⟩ w2 n (HXK.out w2 HB2.out) HWF.out HN.out)
 dsimp only at HNG
 rw [HN.out] at HNG
 obtain ⟨x, hx⟩ : ∃ z : AV, z = ⟨A, na, ca, M, nm, cm, E, ne, ce, a⟩ := ⟨_, rfl⟩
 have hxa : x.a = a := by rw [hx]
 rw [← hx] at HNG
 go_wp2_with fail
 refine HNG.out.mono ?_
 rintro e w3 ⟨ba, rfl, hba, hgr, hb3⟩
 have hgc : grc x ba n = [.slice A na ca, .int .i64 (n : Int), .slice M nm cm, .slice E ne ce, .slice (some ⟨ba, 0, none⟩) (n + 1) (n + 1)] := by unfold grc; rw [hx, ← HN.out]
 have HGC := Lib.hid hgc; clear hgc
 clear hx HNG a0 a1 a2 a3
 have hx1 := box_below w3 (.cells #[.slice A na ca, .int .i64 (n : Int), .slice M nm cm, .slice E ne ce, .slice (some ⟨ba, 0, none⟩) (n + 1) (n + 1)] 98)
 have k10 : Blk (w3.alloc (.cells #[.slice A na ca, .int .i64 (n : Int), .slice M nm cm, .slice E ne ce, .slice (some ⟨ba, 0, none⟩) (n + 1) (n + 1)] 98)) w3.heap.size 98 [.slice A na ca, .int .i64 (n : Int), .slice M nm cm, .slice E ne ce, .slice (some ⟨ba, 0, none⟩) (n + 1) (n + 1)] := Blk.new w3 98 [_, _, _, _, _]
 have har := hgr.arr.below hx1 hgr.arr.lt
 rw [hxa] at har
 have HB31 := Lib.hid (hb3.trans (hx1.mono hb3.size))
 rw [HGC.out]
 have HB4 := Lib.hid ((HB1.out.trans (HB2.out.mono HB1.out.size)).trans (HB31.out.mono (HB1.out.trans (HB2.out.mono HB1.out.size)).size))
 have HB14 := Lib.hid (HB2.out.trans (HB31.out.mono HB2.out.size))
 clear hgr hb3
 go_upto_region 6 with fail
 obtain ⟨bG, hbG⟩ : ∃ b, w3.heap.size = b := ⟨_, rfl⟩
 rw [hbG] at k10 ⊢
 generalize w3.alloc (.cells #[.slice A na ca, .int .i64 (n : Int), .slice M nm cm, .slice E ne ce, .slice (some ⟨ba, 0, none⟩) (n + 1) (n + 1)] 98) = w4 at k10 har HB4 HB14 HB31 ⊢
 clear hbG hx1 hba
 have HG4 := Lib.hid (fun (W : World) (hb : Below w4.heap.size w4 W) => k10.below hb k10.lt)
 have HAR := Lib.hid (fun (W : World) (hb : Below w4.heap.size w4 W) => har.below hb har.lt)
 obtain ⟨a0, a1, a2, a3⟩ := HG0.out w4 HB14.out
 clear k10 har
 go_wp2
 clear a0 a1 a2 a3
 go_loopw [6, 7, 17] (fun s6 s7 s17 wr => ∃ (k m : Nat) (v7 : Value), s17 = .int .i64 k ∧ s7 = v7 ∧ k ≤ n ∧ m ≤ k ∧ Hid (((rngI (k : Int)).filter (fun s => (outL a.ed s).isEmpty)).length = m) ∧ Hid (wr.ownsRow w4.heap.size 3 1 s6 m (iv ((rngI (k : Int)).filter (fun s => (outL a.ed s).isEmpty)))) ∧ Hid (Below w4.heap.size w4 wr)) (fun _ _ s17 _ => n - (intOf s17).toNat)
 case atStart => exact ⟨0, 0, _, rfl, rfl, Nat.zero_le _, Nat.le_refl _, Lib.hid rfl, Lib.hid (World.ownsRow_nil _ _ _ _), Lib.hid (Below.refl _ _)⟩
 case round =>
  obtain ⟨k, m, v7, rfl, rfl, hk, hmk, HM, HO, HBL⟩ := hrel
  by_cases hlt : k < n
  ·obtain ⟨f1, hf1⟩ : ∃ f, fstN a.ed (k : Int) = f := ⟨_, rfl⟩
   obtain ⟨f2, hf2⟩ : ∃ f, fstN a.ed ((k : Int) + 1) = f := ⟨_, rfl⟩
   obtain ⟨q, hq⟩ : ∃ q, (outL a.ed (k : Int)).isEmpty = q := ⟨_, rfl⟩
   have hk1 : (fsts a.ed n)[k]? = some (f1 : Int) := by unfold fsts; rw [List.getElem?_map, List.getElem?_range (by omega)]; simp [hf1]
   have hk2 : (fsts a.ed n)[k + 1]? = some (f2 : Int) := by unfold fsts; rw [List.getElem?_map, List.getElem?_range (by omega)]; simp only [Option.map_some]; rw [show ((k + 1 : Nat) : Int) = (k : Int) + 1 by omega, hf2]
   have c1 : wr.cell? ⟨ba, k, none⟩ = some (.int .i64 (f1 : Int)) := (HAR.out wr HBL.out).cell (by rw [iv_get, hk1]; rfl)
   have c2 : wr.cell? ⟨ba, k + 1, none⟩ = some (.int .i64 (f2 : Int)) := (HAR.out wr HBL.out).cell (by rw [iv_get, hk2]; rfl)
   have c4 : wr.cell? ⟨bG, 4, none⟩ = some (.slice (some ⟨ba, 0, none⟩) (n + 1) (n + 1)) := (HG4.out wr HBL.out).cell (j := 4) rfl
   have h12 : ((f1 : Int) = (f2 : Int)) ↔ q = true := by
    have h9 := fstN_out a.ed (k : Int)
    rw [hf1, hf2] at h9
    rw [← hq, List.isEmpty_iff, ← List.length_eq_zero_iff]
    omega
   have HS := Lib.hid (dead_snoc a k)
   rw [hq] at HS
   have b1 : (k : Int) < (n : Int) := by omega
   have t0 : ¬ (k : Int) < 0 := by omega
   have t1 : (k : Int) < ((n + 1 : Nat) : Int) := by omega
   have t2 : (k : Int) + 1 < ((n + 1 : Nat) : Int) := by omega
   have hsz := HBL.out.size
   clear hk1 hk2 hf1 hf2 hq
   cases q with
   | true =>
    have e12 : ((f1 : Int) == (f2 : Int)) = true := by simpa using h12.2 rfl
    have HS2 := Lib.hid (show (rngI ((k + 1 : Nat) : Int)).filter (fun s => (outL a.ed s).isEmpty) = (rngI (k : Int)).filter (fun s => (outL a.ed s).isEmpty) ++ [(k : Int)] from HS.out)
    clear h12 HS
    go_wp2
    go_quiet (fail)
    have hbd := below_drewN (Below.refl wr.heap.size wr) nq
    have HO2 := Lib.hid (own_drewN HO.out nq)
    have HBL2 := Lib.hid (HBL.out.trans (hbd.mono HBL.out.size))
    have hsz2 := HBL2.out.size
    clear hbd c1 c2 c4
    generalize wr.drewN nq = wq at HO2 HBL2 hsz2 ⊢
    go_wp2_with (first | (at_builtin; refine wpList_push wq (.int .i64 (k : Int)) rfl (.tmp 32) (.tmp 34) 31 rfl w4.heap.size 3 (.int .i64 0) 8 Try.underlying31 int_info rfl _ m _ rfl HO2.out rfl rfl (by omega) (by omega) hsz2 ?_; intro v' w' ho' hg' hb1) | fail)
    go_roundw
    case rel => exact ⟨k + 1, m + 1, _, by go_num, rfl, by omega, by omega, Lib.hid (by rw [HS2.out, List.length_append, HM.out]; rfl), Lib.hid (by rw [HS2.out, iv_append]; exact ho'), Lib.hid (HBL2.out.trans hb1)⟩
    case measure => simp [intOf]; omega
   | false =>
    have e12 : ((f1 : Int) == (f2 : Int)) = false := by rw [beq_eq_false_iff_ne]; exact fun h => (by cases h12.1 h)
    have HS2 := Lib.hid (show (rngI ((k + 1 : Nat) : Int)).filter (fun s => (outL a.ed s).isEmpty) = (rngI (k : Int)).filter (fun s => (outL a.ed s).isEmpty) from HS.out.trans (List.append_nil _))
    clear h12 HS
    go_wp2
    go_quiet (fail)
    have hbd := below_drewN (Below.refl wr.heap.size wr) nq
    have HO2 := Lib.hid (own_drewN HO.out nq)
    have HBL2 := Lib.hid (HBL.out.trans (hbd.mono HBL.out.size))
    clear hbd c1 c2 c4
    generalize wr.drewN nq = wq at HO2 HBL2 ⊢
    go_wp2
    go_roundw
    case rel => exact ⟨k + 1, m, _, by go_num, rfl, by omega, by omega, Lib.hid (by rw [HS2.out]; exact HM.out), Lib.hid (by rw [HS2.out]; exact HO2.out), HBL2⟩
    case measure => simp [intOf]; omega
  ·obtain rfl : k = n := by omega
   have b1 : ¬ (k : Int) < (k : Int) := by omega
   have HD := Lib.hid (show deadL a = (rngI (k : Int)).filter (fun s => (outL a.ed s).isEmpty) by unfold deadL; rw [HN.out])
   go_wp2
   refine bodyPost_ret (v := .tuple #[_, .int .i64 0]) (by simp [results, Try.results12, go_sem]; rfl) rfl ?_
   exact ⟨_, rfl, by rw [HD.out, HM.out]; exact own_base HO.out HB4.out.size, HB4.out.trans (HBL.out.mono HB4.out.size)⟩
/-- a step: the state, is it possible, the error -/
def stpV (a : Aut) (s v : Int) : Int := if 0 ≤ nxt a s v then nxt a s v else 0
set_option maxRecDepth 100000 in
set_option maxHeartbeats 1600000 in
theorem automaton_Step (x : AV) (s v : Int) (w : World) (hx : x.ok w w.heap.size) (hw : WF x.a) (h0 : 0 ≤ s) (h1 : s < x.a.st) :
  Calls Try.prog 110 #[.agg #[.slice x.A x.na x.ca, .int .i64 x.a.st, .slice x.M x.nm x.cm, .slice x.E x.ne x.ce], .int .i64 s, .int .i64 v] w fun e w' => (∃ r, e = .returned (.tuple #[.int .i64 (stpV x.a s v), .bool (decide (0 ≤ nxt x.a s v)), .int .i64 r])) ∧ Below w.heap.size w w' := by
 obtain ⟨A, na, ca, M, nm, cm, E, ne, ce, a⟩ := x
 dsimp only at hw h1 ⊢
 have hla : a.al.length = na := hx.la
 have hac : na ≤ ca := hx.ac
 have hcA : ca ≤ 9223372036854775807 := hx.cA
 have hb1 := box_below w (.cells #[.slice A na ca, .int .i64 a.st, .slice M nm cm, .slice E ne ce] 34)
 obtain ⟨w1, hw9⟩ : ∃ w1, w1 = w.alloc (.cells #[.slice A na ca, .int .i64 a.st, .slice M nm cm, .slice E ne ce] 34) := ⟨_, rfl⟩
 have kx : Blk w1 w.heap.size 34 [.slice A na ca, .int .i64 a.st, .slice M nm cm, .slice E ne ce] := by rw [hw9]; exact Blk.new _ _ [_, _, _, _]
 rw [← hw9] at hb1
 have HG0 := Lib.hid (fun (W : World) (hb : Below w1.heap.size w1 W) => Blk.c4 (kx.below hb kx.lt))
 have HXK := Lib.hid (fun (W : World) (hb : Below w1.heap.size w1 W) => (show AutR W W.heap.size A na ca M nm cm E ne ce a from AutR.more (AutR.below hx (hb1.trans (hb.mono hb1.size))) (hb1.trans (hb.mono hb1.size)).size))
 have HC1 := Lib.hid (automaton_checkState A M E na ca nm cm ne ce a s w1 (HXK.out w1 (Below.refl _ _)) hw h0 h1)
 have HC3 := Lib.hid (fun (W : World) (hb : Below w1.heap.size w1 W) => automaton_next A M E na ca nm cm ne ce a s v W (HXK.out W hb) hw h0 h1)
 have HNO := Lib.hid (show hasB a.al v = false → ¬ 0 ≤ nxt a s v from fun h h9 => by
  have := hasB_mem.2 (nxt_al hw (s := s) (x := v) h9)
  rw [h] at this
  cases this)
 obtain ⟨sv, hsv⟩ : ∃ z, a.st = z := ⟨_, rfl⟩
 rw [hsv] at hw9 HG0 HC1 HC3 ⊢
 obtain ⟨a0, a1, a2, a3⟩ := HG0.out w1 (Below.refl _ _)
 obtain ⟨q, hq⟩ : ∃ q, hasB a.al v = q := ⟨_, rfl⟩
 obtain ⟨nx, hnx⟩ : ∃ z, nxt a s v = z := ⟨_, rfl⟩
 obtain ⟨to9, ht9⟩ : ∃ z, stpV a s v = z := ⟨_, rfl⟩
 obtain ⟨ps9, hp9⟩ : ∃ z, decide (0 ≤ nxt a s v) = z := ⟨_, rfl⟩
 rw [ht9, hp9]
 unfold stpV at ht9
 rw [hnx] at HC3 HNO ht9 hp9
 rw [hq] at HNO
 have HT9 := Lib.hid ht9; clear ht9
 have HP9 := Lib.hid hp9; clear hp9
 have HW9 := Lib.hid hw9; clear hw9
 have HB1 := Lib.hid hb1; clear hb1
 have HQ := Lib.hid hq; clear hq
 have lx := kx.lt
 clear kx hx hsv hnx hw h1
 go_enter Try.func110, Try.ntmps110
 go_wp2_with fail
 rw [← HW9.out]
 refine HC1.out.mono ?_
 rintro e w2 ⟨rfl, hb2⟩
 have HB2 := Lib.hid (HB1.out.trans (hb2.mono HB1.out.size))
 have HB12 := Lib.hid hb2
 clear a0 a1 a2 a3 HC1 hb2
 obtain ⟨a0, a1, a2, a3⟩ := HG0.out w2 HB12.out
 have HCT := Lib.hid (slices_Contains A ca na a.al v q w2 hla HQ.out (HXK.out w2 HB12.out).ra hac hcA)
 go_wp2_with fail
 refine HCT.out.mono ?_
 rintro e w' ⟨rfl, rfl⟩
 clear HCT
 cases q with
 | false =>
  have HE1 := Lib.hid (show to9 = 0 from HT9.out.symm.trans (if_neg (by have := HNO.out rfl; omega)))
  have HE2 := Lib.hid (show ps9 = false from HP9.out.symm.trans (decide_eq_false (by have := HNO.out rfl; omega)))
  clear a0 a1 a2 a3
  go_wp2
  refine bodyPost_ret (v := .tuple #[.int .i64 0, .bool false, .int .i64 9]) (by simp [results, Try.results110, go_sem]) rfl ?_
  exact ⟨⟨9, by rw [HE1.out, HE2.out]⟩, HB2.out⟩
 | true =>
  have HN := Lib.hid (HC3.out w2 HB12.out)
  go_wp2_with fail
  refine HN.out.mono ?_
  rintro e w3 ⟨rfl, hb3⟩
  have HB3 := Lib.hid (HB2.out.trans (hb3.mono HB2.out.size))
  clear a0 a1 a2 a3 hb3 HN HC3
  by_cases hp : 0 ≤ nx
  ·have HE1 := Lib.hid (show to9 = nx from HT9.out.symm.trans (if_pos hp))
   have HE2 := Lib.hid (show ps9 = true from HP9.out.symm.trans (decide_eq_true hp))
   go_wp2
   refine bodyPost_ret (v := .tuple #[.int .i64 nx, .bool true, .int .i64 0]) (by simp [results, Try.results110, go_sem]) rfl ?_
   exact ⟨⟨0, by rw [HE1.out, HE2.out]⟩, HB3.out⟩
  ·have HE1 := Lib.hid (show to9 = 0 from HT9.out.symm.trans (if_neg hp))
   have HE2 := Lib.hid (show ps9 = false from HP9.out.symm.trans (decide_eq_false hp))
   go_wp2
   refine bodyPost_ret (v := .tuple #[.int .i64 0, .bool false, .int .i64 0]) (by simp [results, Try.results110, go_sem]) rfl ?_
   exact ⟨⟨0, by rw [HE1.out, HE2.out]⟩, HB3.out⟩
set_option maxRecDepth 100000 in
set_option maxHeartbeats 1600000 in
theorem dm_step (z : DV) (s v : Int) (w : World) (h : z.ok w w.heap.size) (hw : WF z.x.a) (h0 : 0 ≤ s) (h1 : s < z.x.a.st) :
  Calls Try.prog 73 #[.agg (dvc z).toArray, .int .i64 s, .int .i64 v] w fun e w' => e = .returned (.tuple #[.int .i64 (stpV z.x.a s v), .bool (decide (0 ≤ nxt z.x.a s v))]) ∧ Below w.heap.size w w' := by
 obtain ⟨⟨A, na, ca, M, nm, cm, E, ne, ce, a⟩, V, nv, cv, l⟩ := z
 have hb1 := box_below w (.cells #[.slice A na ca, .int .i64 a.st, .slice M nm cm, .slice E ne ce, .slice V nv cv] 37)
 obtain ⟨w1, hw1⟩ : ∃ w1, w1 = w.alloc (.cells #[.slice A na ca, .int .i64 a.st, .slice M nm cm, .slice E ne ce, .slice V nv cv] 37) := ⟨_, rfl⟩
 have kx : Blk w1 w.heap.size 37 [.slice A na ca, .int .i64 a.st, .slice M nm cm, .slice E ne ce, .slice V nv cv] := by rw [hw1]; exact Blk.new _ _ [_, _, _, _, _]
 rw [← hw1] at hb1
 have HK := Lib.hid (fun (W : World) (hb : Below w1.heap.size w1 W) => kx.below hb kx.lt)
 have HOK := Lib.hid (fun (W : World) (hb : Below w1.heap.size w1 W) => (h.below (hb1.trans (hb.mono hb1.size))).more (hb1.trans (hb.mono hb1.size)).size)
 have lx := kx.lt
 clear kx h
 have HC := Lib.hid (automaton_Step ⟨A, na, ca, M, nm, cm, E, ne, ce, a⟩ s v w1 (HOK.out w1 (Below.refl _ _)).x hw h0 h1)
 dsimp only at HC
 unfold dvc
 dsimp only
 obtain ⟨sv, hsv⟩ : ∃ s, a.st = s := ⟨_, rfl⟩
 rw [hsv] at hw1 HK HC ⊢
 obtain ⟨to9, ht9⟩ : ∃ z, stpV a s v = z := ⟨_, rfl⟩
 obtain ⟨ps9, hp9⟩ : ∃ z, decide (0 ≤ nxt a s v) = z := ⟨_, rfl⟩
 rw [ht9, hp9] at HC ⊢
 have k0 := HK.out w1 (Below.refl _ _)
 have a0 := k0.cell (j := 0) rfl
 have a1 := k0.cell (j := 1) rfl
 have a2 := k0.cell (j := 2) rfl
 have a3 := k0.cell (j := 3) rfl
 clear k0
 have HW1 := Lib.hid hw1; clear hw1
 have HB1 := Lib.hid hb1; clear hb1
 clear hsv hw h1 ht9 hp9
 go_enter Try.func73, Try.ntmps73
 go_wp2_with fail
 rw [← HW1.out]
 refine HC.out.mono ?_
 rintro e w2 ⟨⟨r9, rfl⟩, hb2⟩
 have HB2 := Lib.hid (HB1.out.trans (hb2.mono HB1.out.size))
 clear a0 a1 a2 a3 HC hb2
 go_wp2
 refine bodyPost_ret (v := .tuple #[.int .i64 to9, .bool ps9]) (by simp [results, Try.results73, go_sem]) rfl ?_
 exact ⟨rfl, HB2.out⟩
end Go.Proofs.Ytddhaidimadliaa

/- Walks: the law's goes; reach.Path without states. -/
import Derived.Test.YtddhaidimadliaaKp
import Derived.Test.YtddhaidimadliaaKe
import Derived.Test.YtddhaidimadliaaKs

namespace Go.Proofs.Ytddhaidimadliaa
open Go.RowKit Go

set_option maxRecDepth 100000 in
set_option maxHeartbeats 1600000 in
theorem law_goes (z : DV) (P C : IV) (s : Int) (w : World) (h : z.ok w w.heap.size) (hP : P.ok w w.heap.size) (hC : C.ok w w.heap.size) (h1 : endL z.x.a 0 P.l = s) (h0 : 0 ≤ s) (h2 : endL z.x.a s C.l = s) (hne : C.l ≠ []) (hc : ∀ e ∈ C.l, (0 ≤ e ∧ e < (z.nv : Int)) ∧ z.m.ob e = false) :
  Calls Try.prog 19 #[.agg (dvc z).toArray, .slice P.A P.n P.c, .slice C.A C.n C.c] w fun e w' => e = .returned (.bool true) ∧ Below w.heap.size w w' := by
 have HOB := Lib.hid (fun (j : Nat) (e : Ev) (hj : z.l[j]? = some e) => ob_at hj)
 have HC := Lib.hid hc
 obtain ⟨m, hm⟩ : ∃ m, z.m = m := ⟨_, rfl⟩
 rw [hm] at HOB HC
 clear hm hc
 obtain ⟨⟨A, na, ca, M, nm, cm, E, ne, ce, a⟩, V, nv, cv, l⟩ := z
 have hb1 := box_below w (.cells #[.slice A na ca, .int .i64 a.st, .slice M nm cm, .slice E ne ce, .slice V nv cv] 37)
 obtain ⟨w1, hw1⟩ : ∃ w1, w1 = w.alloc (.cells #[.slice A na ca, .int .i64 a.st, .slice M nm cm, .slice E ne ce, .slice V nv cv] 37) := ⟨_, rfl⟩
 have kx : Blk w1 w.heap.size 37 [.slice A na ca, .int .i64 a.st, .slice M nm cm, .slice E ne ce, .slice V nv cv] := by rw [hw1]; exact Blk.new _ _ [_, _, _, _, _]
 rw [← hw1] at hb1
 have HK := Lib.hid (fun (W : World) (hb : Below w1.heap.size w1 W) => kx.below hb kx.lt)
 have HOK := Lib.hid (fun (W : World) (hb : Below w1.heap.size w1 W) => (h.below (hb1.trans (hb.mono hb1.size))).more (hb1.trans (hb.mono hb1.size)).size)
 have HBL := Lib.hid (fun (W : World) (hb : Below w1.heap.size w1 W) => hb1.trans (hb.mono hb1.size))
 have hs1 := hb1.size
 have lx := kx.lt
 have HRL := Lib.hid (fun (W : World) (hb : Below w1.heap.size w1 W) => (h.rl.below (hb1.trans (hb.mono hb1.size))).more hb1.size)
 have HLL := Lib.hid h.ll
 have HST := Lib.hid (fun (W : World) (hb : Below w1.heap.size w1 W) (s v : Int) => law_step A na ca M nm cm E ne ce a s v W (HOK.out W hb).x)
 have HRP := Lib.hid (fun (W : World) (hb : Below w1.heap.size w1 W) => (hP.below (hb1.trans (hb.mono hb1.size))).ra)
 have HRC := Lib.hid (fun (W : World) (hb : Below w1.heap.size w1 W) => (hC.below (hb1.trans (hb.mono hb1.size))).ra)
 have HPL := Lib.hid hP.la
 have HCL := Lib.hid hC.la
 have hpc1 := hP.ac
 have hpc2 := hP.cA
 have hcc1 := hC.ac
 have hcc2 := hC.cA
 obtain ⟨PA, pn, pc, pl⟩ := P
 obtain ⟨CA, cn, cc, cl⟩ := C
 unfold dvc
 dsimp only at HOB HC HRL HLL HST HRP HRC HPL HCL hpc1 hpc2 hcc1 hcc2 h1 h2 hne ⊢
 have hcn : 0 < cn := by
  have := HCL.out
  rcases Nat.eq_zero_or_pos cn with h9 | h9
  ·rw [h9] at this; exact absurd (List.length_eq_zero_iff.1 this) hne
  ·exact h9
 have b0 : (0 : Int) < (cn : Int) := by omega
 obtain ⟨sv, hsv⟩ : ∃ s, a.st = s := ⟨_, rfl⟩
 rw [hsv] at hw1 HK HST ⊢
 have HW1 := Lib.hid hw1; clear hw1
 have HS1 := Lib.hid (show endL a 0 (pl.drop 0) = s from h1)
 have HS2 := Lib.hid (show endL a s (cl.drop 0) = s from h2)
 clear hsv kx hb1 h hP hC h1 h2 hne
 go_enter Try.func19, Try.ntmps19
 go_upto_region 1 with fail
 rw [← HW1.out]
 go_wp2
 go_loopw [7, 10, 19] (fun s7 s10 s19 wr => ∃ (k : Nat) (t : Int) (v10 : Value), s7 = .int .i64 t ∧ s10 = v10 ∧ s19 = .int .i64 k ∧ k ≤ pn ∧ Hid (endL a t (pl.drop k) = s) ∧ Hid (Below w1.heap.size w1 wr)) (fun _ _ s19 _ => pn - (intOf s19).toNat)
 case atStart => exact ⟨0, 0, _, rfl, rfl, rfl, Nat.zero_le _, HS1, Lib.hid (Below.refl _ _)⟩
 case round =>
  clear HS1
  obtain ⟨k, t, v10, rfl, rfl, rfl, hk, HS, HB⟩ := hrel
  by_cases hlt : k < pn
  ·obtain ⟨x, hx⟩ : ∃ x, pl[k]? = some x := ⟨_, List.getElem?_eq_getElem (by have := HPL.out; omega)⟩
   obtain ⟨ad, rfl, hab, hcx⟩ := (HRP.out wr HB.out) k (.int .i64 x) (by simp [iv, hx])
   have b1 : (k : Int) < (pn : Int) := by omega
   have hr := HS.out
   rw [endL_one hx] at hr
   have HC9 := Lib.hid (HST.out wr HB.out t x)
   obtain ⟨nx, hnx⟩ : ∃ z, nxt a t x = z := ⟨_, rfl⟩
   rw [hnx] at HC9 hr
   have hn : ¬ nx < 0 := by
    intro h9
    rw [if_pos h9] at hr
    omega
   rw [if_neg hn] at hr
   have HS2' := Lib.hid hr
   obtain ⟨a0, a1, a2, a3, a4⟩ := Blk.c5 (HK.out wr HB.out)
   clear hx HS hab hnx hr
   go_wp2_with fail
   refine HC9.out.mono ?_
   rintro _ w2 ⟨rfl, hb2⟩
   have HB2 := Lib.hid (HB.out.trans (hb2.mono HB.out.size))
   clear HC9 hcx a0 a1 a2 a3 a4 hb2
   go_wp2
   go_roundw
   case rel => exact ⟨k + 1, nx, _, rfl, rfl, by go_num, by omega, HS2', HB2⟩
   case measure => simp [intOf]; omega
  obtain rfl : k = pn := by omega
  have b1 : ¬ (k : Int) < (k : Int) := by omega
  have HTS := Lib.hid (show t = s by
   have := HS.out
   rw [List.drop_of_length_le (by have := HPL.out; omega)] at this
   exact this)
  clear HS
  obtain rfl : t = s := HTS.out
  go_wp2
  go_loopw [7, 13, 34] (fun s7 s13 s34 wr => ∃ (k : Nat) (u : Int) (v13 : Value), s7 = .int .i64 u ∧ s13 = v13 ∧ s34 = .int .i64 k ∧ k ≤ cn ∧ Hid (endL a u (cl.drop k) = t) ∧ Hid (Below w1.heap.size w1 wr)) (fun _ _ s34 _ => cn - (intOf s34).toNat)
  case atStart => exact ⟨0, t, _, rfl, rfl, rfl, Nat.zero_le _, HS2, HB⟩
  case round =>
   clear HS2 HB
   obtain ⟨q, u, v13, rfl, rfl, rfl, hq, HS, HB⟩ := hrel
   by_cases hlt2 : q < cn
   ·obtain ⟨x, hx⟩ : ∃ x, cl[q]? = some x := ⟨_, List.getElem?_eq_getElem (by have := HCL.out; omega)⟩
    obtain ⟨ad, rfl, hab, hcx⟩ := (HRC.out wr HB.out) q (.int .i64 x) (by simp [iv, hx])
    have b2 : (q : Int) < (cn : Int) := by omega
    obtain ⟨hxr, hxo⟩ := HC.out x (List.mem_of_getElem? hx)
    obtain ⟨jx, rfl⟩ : ∃ j : Nat, x = (j : Int) := ⟨x.toNat, by omega⟩
    have hr := HS.out
    rw [endL_one hx] at hr
    have HC9 := Lib.hid (fun (W : World) (hb : Below w1.heap.size w1 W) => HST.out W hb u (jx : Int))
    obtain ⟨nx, hnx⟩ : ∃ z, nxt a u (jx : Int) = z := ⟨_, rfl⟩
    rw [hnx] at HC9 hr
    have hn : ¬ nx < 0 := by
     intro h9
     rw [if_pos h9] at hr
     omega
    rw [if_neg hn] at hr
    have HS2' := Lib.hid hr
    obtain ⟨a0, a1, a2, a3, a4⟩ := Blk.c5 (HK.out wr HB.out)
    obtain ⟨ev, e, rfl, hvb, hje, hes, q0, q1, q2, q3, q4⟩ := (HRL.out wr HB.out).at_ (k := jx) (by have h9 := HLL.out; omega)
    have p2' := ev_cells (j := 1) q2
    have ho := HOB.out jx e hje
    rw [hxo] at ho
    rw [← ho] at p2'
    have b3 : ¬ (jx : Int) < 0 := by omega
    have b4 : ¬ (nv : Int) ≤ (jx : Int) := by omega
    have b5 : (jx : Int) < (nv : Int) := by omega
    have HC8 := Lib.hid (HC9.out wr HB.out)
    clear hx HS hab hnx hr q0 q1 q2 q3 q4 hes hje hvb ho hxo
    go_wp2_with fail
    refine HC8.out.mono ?_
    rintro _ w2 ⟨rfl, hb2⟩
    have HB2 := Lib.hid (HB.out.trans (hb2.mono HB.out.size))
    clear HC9 HC8 hcx a0 a1 a2 a3 a4 hb2 p2'
    go_wp2
    go_roundw
    case rel => exact ⟨q + 1, nx, _, rfl, rfl, by go_num, by omega, HS2', HB2⟩
    case measure => simp [intOf]; omega
   obtain rfl : q = cn := by omega
   have b2 : ¬ (q : Int) < (q : Int) := by omega
   have HUS := Lib.hid (show u = t by
    have := HS.out
    rw [List.drop_of_length_le (by have := HCL.out; omega)] at this
    exact this)
   clear HS
   obtain rfl : u = t := HUS.out
   go_wp2
   go_ret
   exact ⟨rfl, HBL.out _ HB.out⟩
set_option maxRecDepth 100000 in
set_option maxHeartbeats 1600000 in
theorem reach_Path_zero (x : AV) (w : World) (hx : x.ok w w.heap.size) (hw : WF x.a) (hn : x.a.st = 0) (T U : Value) :
  Calls Try.prog 13 #[.agg #[.slice x.A x.na x.ca, .int .i64 x.a.st, .slice x.M x.nm x.cm, .slice x.E x.ne x.ce], .int .i64 0, T, U] w fun e w' => e = .returned (.tuple #[.slice none 0 0, .bool false, .int .i64 2]) ∧ Below w.heap.size w w' := by
 obtain ⟨A, na, ca, M, nm, cm, E, ne, ce, a⟩ := x
 dsimp only at hw hn ⊢
 have hb1 := box_below w (.cells #[.slice A na ca, .int .i64 a.st, .slice M nm cm, .slice E ne ce] 34)
 obtain ⟨w1, hw9⟩ : ∃ w1, w1 = w.alloc (.cells #[.slice A na ca, .int .i64 a.st, .slice M nm cm, .slice E ne ce] 34) := ⟨_, rfl⟩
 have kx : Blk w1 w.heap.size 34 [.slice A na ca, .int .i64 a.st, .slice M nm cm, .slice E ne ce] := by rw [hw9]; exact Blk.new _ _ [_, _, _, _]
 rw [← hw9] at hb1
 have HG0 := Lib.hid (fun (W : World) (hb : Below w1.heap.size w1 W) => Blk.c4 (kx.below hb kx.lt))
 rw [hn] at HG0
 obtain ⟨a0, a1, a2, a3⟩ := HG0.out w1 (Below.refl _ _)
 have HCK := Lib.hid (automaton_Check A na ca M nm cm E ne ce a w1 ((AutR.below hx hb1).more hb1.size))
 rw [hw.chk, hn] at HCK
 rw [hn] at hw9 ⊢
 have HW9 := Lib.hid hw9; clear hw9
 have HB1 := Lib.hid hb1; clear hb1
 have lx := kx.lt
 clear kx hx hn hw
 go_enter Try.func13, Try.ntmps13
 go_wp2_with fail
 rw [← HW9.out]
 refine HCK.out.mono ?_
 rintro e w2 ⟨rfl, hb2⟩
 have HB2 := Lib.hid (HB1.out.trans (hb2.mono HB1.out.size))
 obtain ⟨a0', a1', a2', a3'⟩ := HG0.out w2 hb2
 clear HCK a0 a1 a2 a3 hb2
 go_wp2
 refine bodyPost_ret (v := .tuple #[.slice none 0 0, .bool false, .int .i64 2]) (by simp [results, Try.results13, go_sem]) rfl ?_
 exact ⟨rfl, HB2.out⟩
end Go.Proofs.Ytddhaidimadliaa
/- Walks: the error paths of diagnosability.Live, Quiet, Twin, Excuse. -/
namespace Go.Proofs.Ytddhaidimadliaa
open Go.RowKit Go

set_option maxRecDepth 100000 in
set_option maxHeartbeats 3200000 in
theorem dm_Live_err (z : DV) (r : Int) (w : World) (h : z.ok w w.heap.size) (hr : dmE z = r) (h0 : r ≠ 0) :
  Calls Try.prog 11 #[.agg (dvc z).toArray] w fun e w' => e = .returned (.tuple #[.slice none 0 0, .bool false, .int .i64 r]) ∧ Below w.heap.size w w' := by
 obtain ⟨⟨A, na, ca, M, nm, cm, E, ne, ce, a⟩, V, nv, cv, l⟩ := z
 have hb1 := box_below w (.cells #[.slice A na ca, .int .i64 a.st, .slice M nm cm, .slice E ne ce, .slice V nv cv] 37)
 obtain ⟨w1, hw1⟩ : ∃ w1, w1 = w.alloc (.cells #[.slice A na ca, .int .i64 a.st, .slice M nm cm, .slice E ne ce, .slice V nv cv] 37) := ⟨_, rfl⟩
 have kx : Blk w1 w.heap.size 37 [.slice A na ca, .int .i64 a.st, .slice M nm cm, .slice E ne ce, .slice V nv cv] := by rw [hw1]; exact Blk.new _ _ [_, _, _, _, _]
 rw [← hw1] at hb1
 have hok1 := (h.below hb1).more hb1.size
 have HC := Lib.hid (dm_Check _ r w1 hok1 hr)
 unfold dvc at HC ⊢
 dsimp only at HC ⊢
 obtain ⟨sv, hsv⟩ : ∃ s, a.st = s := ⟨_, rfl⟩
 rw [hsv] at hw1 HC kx ⊢
 have a0 := kx.cell (j := 0) rfl
 have a1 := kx.cell (j := 1) rfl
 have a2 := kx.cell (j := 2) rfl
 have a3 := kx.cell (j := 3) rfl
 have a4 := kx.cell (j := 4) rfl
 have b0 : (r != 0) = true := by simpa using h0
 have HW1 := Lib.hid hw1; clear hw1
 have HB1 := Lib.hid hb1; clear hb1
 clear hsv hr h0 h kx hok1
 go_enter Try.func11, Try.ntmps11
 go_wp2_with fail
 rw [← HW1.out]
 refine HC.out.mono ?_
 rintro e w2 ⟨rfl, hb2⟩
 have HB2 := Lib.hid (HB1.out.trans (hb2.mono HB1.out.size))
 clear a0 a1 a2 a3 a4 HC hb2
 go_wp2
 refine bodyPost_ret (v := .tuple #[.slice none 0 0, .bool false, .int .i64 r]) (by simp [results, Try.results11, go_sem]) rfl ?_
 exact ⟨rfl, HB2.out⟩
set_option maxRecDepth 100000 in
set_option maxHeartbeats 3200000 in
theorem dm_Quiet_err (z : DV) (r : Int) (w : World) (h : z.ok w w.heap.size) (hr : dmE z = r) (h0 : r ≠ 0) :
  Calls Try.prog 17 #[.agg (dvc z).toArray] w fun e w' => e = .returned (.tuple #[.slice none 0 0, .slice none 0 0, .bool false, .int .i64 r]) ∧ Below w.heap.size w w' := by
 obtain ⟨⟨A, na, ca, M, nm, cm, E, ne, ce, a⟩, V, nv, cv, l⟩ := z
 have hb1 := box_below w (.cells #[.slice A na ca, .int .i64 a.st, .slice M nm cm, .slice E ne ce, .slice V nv cv] 37)
 obtain ⟨w1, hw1⟩ : ∃ w1, w1 = w.alloc (.cells #[.slice A na ca, .int .i64 a.st, .slice M nm cm, .slice E ne ce, .slice V nv cv] 37) := ⟨_, rfl⟩
 have kx : Blk w1 w.heap.size 37 [.slice A na ca, .int .i64 a.st, .slice M nm cm, .slice E ne ce, .slice V nv cv] := by rw [hw1]; exact Blk.new _ _ [_, _, _, _, _]
 rw [← hw1] at hb1
 have hok1 := (h.below hb1).more hb1.size
 have HC := Lib.hid (dm_Check _ r w1 hok1 hr)
 unfold dvc at HC ⊢
 dsimp only at HC ⊢
 obtain ⟨sv, hsv⟩ : ∃ s, a.st = s := ⟨_, rfl⟩
 rw [hsv] at hw1 HC kx ⊢
 have a0 := kx.cell (j := 0) rfl
 have a1 := kx.cell (j := 1) rfl
 have a2 := kx.cell (j := 2) rfl
 have a3 := kx.cell (j := 3) rfl
 have a4 := kx.cell (j := 4) rfl
 have b0 : (r != 0) = true := by simpa using h0
 have HW1 := Lib.hid hw1; clear hw1
 have HB1 := Lib.hid hb1; clear hb1
 clear hsv hr h0 h kx hok1
 go_enter Try.func17, Try.ntmps17
 go_wp2_with fail
 rw [← HW1.out]
 refine HC.out.mono ?_
 rintro e w2 ⟨rfl, hb2⟩
 have HB2 := Lib.hid (HB1.out.trans (hb2.mono HB1.out.size))
 clear a0 a1 a2 a3 a4 HC hb2
 go_wp2
 refine bodyPost_ret (v := .tuple #[.slice none 0 0, .slice none 0 0, .bool false, .int .i64 r]) (by simp [results, Try.results17, go_sem]) rfl ?_
 exact ⟨rfl, HB2.out⟩
set_option maxRecDepth 100000 in
set_option maxHeartbeats 3200000 in
theorem dm_Twin_err (z : DV) (c : Int) (r : Int) (w : World) (h : z.ok w w.heap.size) (hr : clsE z c = r) (h0 : r ≠ 0) :
  Calls Try.prog 20 #[.agg (dvc z).toArray, .int .i64 c] w fun e w' => e = .returned (.tuple #[.slice none 0 0, .slice none 0 0, .int .i64 r]) ∧ Below w.heap.size w w' := by
 obtain ⟨⟨A, na, ca, M, nm, cm, E, ne, ce, a⟩, V, nv, cv, l⟩ := z
 have hb1 := box_below w (.cells #[.slice A na ca, .int .i64 a.st, .slice M nm cm, .slice E ne ce, .slice V nv cv] 37)
 obtain ⟨w1, hw1⟩ : ∃ w1, w1 = w.alloc (.cells #[.slice A na ca, .int .i64 a.st, .slice M nm cm, .slice E ne ce, .slice V nv cv] 37) := ⟨_, rfl⟩
 have kx : Blk w1 w.heap.size 37 [.slice A na ca, .int .i64 a.st, .slice M nm cm, .slice E ne ce, .slice V nv cv] := by rw [hw1]; exact Blk.new _ _ [_, _, _, _, _]
 rw [← hw1] at hb1
 have hok1 := (h.below hb1).more hb1.size
 have HC := Lib.hid (dm_classed _ c r w1 hok1 hr)
 unfold dvc at HC ⊢
 dsimp only at HC ⊢
 obtain ⟨sv, hsv⟩ : ∃ s, a.st = s := ⟨_, rfl⟩
 rw [hsv] at hw1 HC kx ⊢
 have a0 := kx.cell (j := 0) rfl
 have a1 := kx.cell (j := 1) rfl
 have a2 := kx.cell (j := 2) rfl
 have a3 := kx.cell (j := 3) rfl
 have a4 := kx.cell (j := 4) rfl
 have b0 : (r != 0) = true := by simpa using h0
 have HW1 := Lib.hid hw1; clear hw1
 have HB1 := Lib.hid hb1; clear hb1
 clear hsv hr h0 h kx hok1
 go_enter Try.func20, Try.ntmps20
 go_wp2_with fail
 rw [← HW1.out]
 refine HC.out.mono ?_
 rintro e w2 ⟨rfl, hb2⟩
 have HB2 := Lib.hid (HB1.out.trans (hb2.mono HB1.out.size))
 clear a0 a1 a2 a3 a4 HC hb2
 go_wp2
 refine bodyPost_ret (v := .tuple #[.slice none 0 0, .slice none 0 0, .int .i64 r]) (by simp [results, Try.results20, go_sem]) rfl ?_
 exact ⟨rfl, HB2.out⟩
set_option maxRecDepth 100000 in
set_option maxHeartbeats 3200000 in
theorem dm_Excuse_err (z : DV) (c : Int) (y : IV) (r : Int) (w : World) (h : z.ok w w.heap.size) (hr : clsE z c = r) (h0 : r ≠ 0) :
  Calls Try.prog 28 #[.agg (dvc z).toArray, .int .i64 c, y.v] w fun e w' => e = .returned (.tuple #[.slice none 0 0, .bool false, .int .i64 r]) ∧ Below w.heap.size w w' := by
 obtain ⟨⟨A, na, ca, M, nm, cm, E, ne, ce, a⟩, V, nv, cv, l⟩ := z
 have hb1 := box_below w (.cells #[.slice A na ca, .int .i64 a.st, .slice M nm cm, .slice E ne ce, .slice V nv cv] 37)
 obtain ⟨w1, hw1⟩ : ∃ w1, w1 = w.alloc (.cells #[.slice A na ca, .int .i64 a.st, .slice M nm cm, .slice E ne ce, .slice V nv cv] 37) := ⟨_, rfl⟩
 have kx : Blk w1 w.heap.size 37 [.slice A na ca, .int .i64 a.st, .slice M nm cm, .slice E ne ce, .slice V nv cv] := by rw [hw1]; exact Blk.new _ _ [_, _, _, _, _]
 rw [← hw1] at hb1
 have hok1 := (h.below hb1).more hb1.size
 have HC := Lib.hid (dm_classed _ c r w1 hok1 hr)
 unfold dvc at HC ⊢
 dsimp only [IV.v] at HC ⊢
 obtain ⟨sv, hsv⟩ : ∃ s, a.st = s := ⟨_, rfl⟩
 rw [hsv] at hw1 HC kx ⊢
 have a0 := kx.cell (j := 0) rfl
 have a1 := kx.cell (j := 1) rfl
 have a2 := kx.cell (j := 2) rfl
 have a3 := kx.cell (j := 3) rfl
 have a4 := kx.cell (j := 4) rfl
 have b0 : (r != 0) = true := by simpa using h0
 have HW1 := Lib.hid hw1; clear hw1
 have HB1 := Lib.hid hb1; clear hb1
 clear hsv hr h0 h kx hok1
 go_enter Try.func28, Try.ntmps28
 go_wp2_with fail
 rw [← HW1.out]
 refine HC.out.mono ?_
 rintro e w2 ⟨rfl, hb2⟩
 have HB2 := Lib.hid (HB1.out.trans (hb2.mono HB1.out.size))
 clear a0 a1 a2 a3 a4 HC hb2
 go_wp2
 refine bodyPost_ret (v := .tuple #[.slice none 0 0, .bool false, .int .i64 r]) (by simp [results, Try.results28, go_sem]) rfl ?_
 exact ⟨rfl, HB2.out⟩
end Go.Proofs.Ytddhaidimadliaa

/- The statement DiagnosabilityTwins: the walk. -/
namespace Go.Proofs.Ytddhaidimadliaa
open Go.RowKit Go

theorem wk_in {ed : List Ed} {perm : Ed → Bool} {s t : Int} {ws : List Int} (h : Wk ed perm s ws t) : ∀ v ∈ ws, ∃ x ∈ ed, perm x = true ∧ x.e = v := by
 induction h with
 | nil => intro v hv; cases hv
 | snoc _ h1 h2 _ ih =>
  intro v hv
  rcases List.mem_append.1 hv with h4 | h4
  ·exact ih v h4
  ·exact ⟨_, h1, h2, (List.mem_singleton.1 h4).symm⟩
theorem cycG_none {a : Aut} {perm : Ed → Bool} {N : List Bool} : ∀ (g s : Nat), (cycG a perm N g s).2 = false → (cycG a perm N g s).1 = ([], [])
 | 0, _, _ => rfl
 | g + 1, s, e => by
  unfold cycG at e ⊢
  by_cases hc : fl N (s : Int) = true ∧ (rndF a (s : Int) perm).2 = true
  ·rw [if_pos hc] at e; cases e
  ·rw [if_neg hc] at e ⊢; exact cycG_none g (s + 1) e
theorem quiet_goes {z : DV} (hd : dmE z = 0) (hl : z.l.length = z.nv) (hq : (cycF z.x.a (kndL z 4)).2 = true) :
  ∃ s, endL z.x.a 0 (cycF z.x.a (kndL z 4)).1.1 = s ∧ 0 ≤ s ∧ endL z.x.a s (cycF z.x.a (kndL z 4)).1.2 = s ∧ (cycF z.x.a (kndL z 4)).1.2 ≠ [] ∧ ∀ e ∈ (cycF z.x.a (kndL z 4)).1.2, (0 ≤ e ∧ e < (z.nv : Int)) ∧ z.m.ob e = false := by
 have hw := dmE_wf hd
 have h32 : z.nv ≤ 32 := by have := chkE_len (dmE_ev hd); rw [hl] at this; exact this
 have hmem : ∀ v ∈ kndL z 4, (0 ≤ v ∧ v < (z.nv : Int)) ∧ z.m.ob v = false := by
  intro v hv
  rw [kndL_hid hl] at hv
  unfold hidL at hv
  rw [List.mem_filter, rngI_mem] at hv
  exact ⟨hv.1, by simpa using hv.2⟩
 obtain ⟨t, w1, hne, w2⟩ := (cycF_spec hw (evs := kndL z 4) (fun v hv => by have := (hmem v hv).1; omega)).2 hq
 have h0 := ((quiet_of hd hl).1 hq).1
 have hrg := w1.rc.rng (n := z.x.a.st) (fun x hx => ⟨(hw.ev_rng hx).2.2.1, (hw.ev_rng hx).2.2.2.1⟩) ⟨Int.le_refl 0, h0⟩
 refine ⟨t, (endL_iff hw (Int.le_refl 0) hrg.1).2 (w1.run hw), hrg.1, (endL_iff hw hrg.1 hrg.1).2 (w2.run hw), hne, fun e he => ?_⟩
 obtain ⟨x, _, hp, rfl⟩ := wk_in w2 e he
 exact hmem _ (hasB_mem.1 hp)
/-- what Live tells of the path to a dead state -/
def prL (a : Aut) : Option (List Int) := if a.st = 0 then none else pathS a 0 (fl (inF a.st.toNat (deadL a))) anyE
theorem live_prL {a : Aut} (hw : WF a) : liveR a = livM (prL a) := by
 have hst := hw.st0
 unfold liveR prL
 by_cases h0 : a.st = 0
 ·have : deadL a = [] := by unfold deadL; rw [h0]; rfl
  rw [if_pos this, if_pos h0]
  rfl
 ·rw [if_neg h0]
  by_cases hd : deadL a = []
  ·rw [if_pos hd, hd, path_nil hw (by omega)]
   rfl
  ·rw [if_neg hd]
   cases pathS a 0 (fl (inF a.st.toNat (deadL a))) anyE <;> rfl

set_option maxRecDepth 100000 in
set_option maxHeartbeats 12800000 in
theorem twins_walk (x : S4) (c : Int) (w : World) (hx : x.ok) :
  Calls Try.prog 3 #[.agg (s4c x).toArray, .int .i64 c] w fun e w' => e = .returned (.bool true) ∧ Below w.heap.size w w' := by
 obtain ⟨w1, hw1⟩ : ∃ w1, w1 = w.alloc (.cells (s4c x).toArray 29) := ⟨_, rfl⟩
 have hb1 := box_below w (.cells (s4c x).toArray 29)
 have kx : Blk w1 w.heap.size 29 (s4c x) := by rw [hw1]; exact Blk.new _ _ _
 rw [← hw1] at hb1
 have HK := Lib.hid (fun (W : World) (hb : Below w1.heap.size w1 W) => kx.below hb kx.lt)
 have HBL := Lib.hid (fun (W : World) (hb : Below w1.heap.size w1 W) => hb1.trans (hb.mono hb1.size))
 have HX := Lib.hid hx
 have HSL := Lib.hid (s4_len hx)
 have HW1 := Lib.hid hw1; clear hw1
 clear hx kx hb1
 have HC := Lib.hid (known41 w1)
 go_enter Try.func3, Try.ntmps3
 go_upto_region 1 with fail
 rw [← HW1.out]
 go_wp2_with fail
 refine HC.out.mono ?_
 rintro _ w3 ⟨rfl, hb3⟩
 have HB3 := Lib.hid hb3
 clear hb3 HC
 have hrg : w3.rangeAt w.heap.size 0 (s4c x) := fun j v hv => by rw [Nat.zero_add]; exact (HK.out w3 HB3.out).cell hv
 go_upto_region 3 with fail
 go_wp2_with (first
  | (refine wpList_load_mid rfl 29 (.tmp 2) rfl w.heap.size 0 rfl (s4c x) _ hrg Try.underlying29 rfl (by rw [HSL.out]; kernel_rfl) ?_)
  | fail)
 refine (law_Make41 x w3 HX.out).mono ?_
 rintro _ w4 ⟨z, rfl, hz, his, hb4⟩
 have HDM := Lib.hid (his.dm HX.out)
 have HST := Lib.hid (show z.x.a.st ≤ 40 by rw [his.a]; have := S4.st_le HX.out; omega)
 have HZ := Lib.hid hz
 have HB4 := Lib.hid (HB3.out.trans (hb4.mono HB3.out.size))
 clear hb4 his hz hrg HK
 have HWF := Lib.hid (dmE_wf HDM.out)
 have hst0 := HWF.out.st0
 obtain ⟨n, hn⟩ : ∃ n : Nat, z.x.a.st = (n : Int) := ⟨z.x.a.st.toNat, by omega⟩
 have hn40 : n ≤ 40 := by have := HST.out; omega
 have HLL := Lib.hid HZ.out.ll
 have HLV := Lib.hid (live_prL HWF.out)
 obtain ⟨PR, hPR⟩ : ∃ r, prL z.x.a = r := ⟨_, rfl⟩
 rw [hPR] at HLV
 have HLIVE := Lib.hid (fun (W : World) (hzz : z.ok W W.heap.size) => dm_Live z W hzz HDM.out)
 have HLAWL := Lib.hid (fun (W : World) (hzz : z.ok W W.heap.size) => law_live41 z W hzz HWF.out)
 rw [HLV.out] at HLIVE HLAWL
 have HDEAD := Lib.hid (fun (W : World) (hzz : z.ok W W.heap.size) => reach_Dead z.x n W hzz.x HWF.out hn)
 obtain ⟨dL, hdL⟩ : ∃ l, deadL z.x.a = l := ⟨_, rfl⟩
 rw [hdL] at HDEAD
 have HDMM := Lib.hid (show Inc dL ∧ ∀ v ∈ dL, 0 ≤ v ∧ v < (n : Int) from by
  rw [← hdL, ← hn]
  exact ⟨List.Pairwise.filter _ (rng_inc _), fun v hv => (deadL_mem.1 hv).1⟩)
 have HPT := Lib.hid (fun (W : World) (hzz : z.ok W W.heap.size) => (show ∀ (TA : Option Addr) (ct : Nat) (WA : Option Addr) (cw : Nat), 0 < n → RdI W W.heap.size TA dL → dL.length ≤ ct → ct ≤ 9223372036854775807 → RdI W W.heap.size WA (rngI (n : Int)) → n ≤ cw → cw ≤ 9223372036854775807 →
   Calls Try.prog 13 #[.agg #[.slice z.x.A z.x.na z.x.ca, .int .i64 z.x.a.st, .slice z.x.M z.x.nm z.x.cm, .slice z.x.E z.x.ne z.x.ce], .int .i64 0, .slice TA dL.length ct, .slice WA n cw] W (RetPath PR W) from fun TA ct WA cw h0 hT h1 h2 hW h3 h4 =>
   reach_Path z.x W n 0 hzz.x HWF.out hn h0 TA dL.length ct dL WA n cw (rngI (n : Int)) rfl hT h1 h2 (setErr_mk HDMM.out.1 HDMM.out.2) HDMM.out.2 (by rw [rngI_len, Int.toNat_natCast]) hW h3 h4 (setErr_mk (rng_inc _) (fun v hv => rngI_mem.1 hv)) (fun v hv => rngI_mem.1 hv)
    ((inF_fl (fun v hv => rngI_mem.1 hv) (Int.le_refl 0)).2 (rngI_mem.2 (by omega))) anyE (fun e he => by
     have hg := HWF.out.ev_rng he
     exact (inF_fl (fun v hv => rngI_mem.1 hv) hg.2.2.1).2 (rngI_mem.2 (by omega))) _ (by
     rw [← hPR]
     unfold prL
     rw [if_neg (by omega), hdL, hn, Int.toNat_natCast]
     rfl)))
 have HPZ := Lib.hid (fun (h0 : n = 0) (W : World) (hzz : z.ok W W.heap.size) (T U : Value) => reach_Path_zero z.x W hzz.x HWF.out (by rw [hn, h0]; rfl) T U)
 have HPR0 := Lib.hid (show n = 0 → PR = none from fun h0 => by rw [← hPR]; unfold prL; rw [if_pos (by rw [hn, h0]; rfl)])
 have HQT := Lib.hid (fun (W : World) (hzz : z.ok W W.heap.size) => dm_Quiet z W hzz HDM.out)
 have HLAWQ := Lib.hid (fun (W : World) (hzz : z.ok W W.heap.size) => law_quiet41 z W hzz HDM.out)
 have HGO := Lib.hid (fun (hq : (cycF z.x.a (kndL z 4)).2 = true) (W : World) (hzz : z.ok W W.heap.size) (P C : IV) (hP : P.ok W W.heap.size) (hC : C.ok W W.heap.size) (e1 : P.l = (cycF z.x.a (kndL z 4)).1.1) (e2 : C.l = (cycF z.x.a (kndL z 4)).1.2) => by
  obtain ⟨s, g1, g2, g3, g4, g5⟩ := quiet_goes HDM.out HLL.out hq
  exact law_goes z P C s W hzz hP hC (by rw [e1]; exact g1) g2 (by rw [e2]; exact g3) (by rw [e2]; exact g4) (by rw [e2]; exact g5))
 have HQN := Lib.hid (fun (h : (cycF z.x.a (kndL z 4)).2 = false) => (show (cycF z.x.a (kndL z 4)).1 = ([], []) from cycG_none _ _ h))
 obtain ⟨Y, hY⟩ : ∃ r, cycF z.x.a (kndL z 4) = r := ⟨_, rfl⟩
 rw [hY] at HQT HLAWQ HGO HQN
 obtain ⟨RT, hRT, hRE⟩ := twin_any (m := z.m) HWF.out HST.out c
 have HTW := Lib.hid (fun (h1 : 1 ≤ c ∧ c ≤ 4) (W : World) (hzz : z.ok W W.heap.size) => dm_Twin z c W hzz (clsE_zero HDM.out h1.1 h1.2) HST.out RT hRT)
 have HTE := Lib.hid (fun (h1 : c < 1 ∨ 4 < c) (W : World) (hzz : z.ok W W.heap.size) => dm_Twin_err z c 2 W hzz (by unfold clsE; rw [if_neg (by rw [HDM.out]; simp), if_pos h1]) (by decide))
 have HLT := Lib.hid (fun (W : World) (hzz : z.ok W W.heap.size) => law_twin41 z c W hzz HDM.out HST.out RT hRT)
 clear hPR hdL hY hRT hRE hst0 HDM HWF HLL HST HLV
 obtain ⟨⟨A, na, ca, M, nm, cm, E, ne, ce, a⟩, V, nv, cv, l⟩ := z
 unfold dvc at HLIVE HLAWL HQT HLAWQ HGO HTW HTE HLT ⊢
 dsimp only at HLIVE HLAWL HDEAD HPT HPZ HQT HLAWQ HGO HTW HTE HLT hn ⊢
 rw [hn] at HLIVE HLAWL HDEAD HPT HPZ HQT HLAWQ HGO HTW HTE HLT ⊢
 clear hn
 have hbx := box_below w4 (.cells #[.slice A na ca, .int .i64 (n : Int), .slice M nm cm, .slice E ne ce, .slice V nv cv] 37)
 have kb : Blk (w4.alloc (.cells #[.slice A na ca, .int .i64 (n : Int), .slice M nm cm, .slice E ne ce, .slice V nv cv] 37)) w4.heap.size 37 [.slice A na ca, .int .i64 (n : Int), .slice M nm cm, .slice E ne ce, .slice V nv cv] := Blk.new _ _ [_, _, _, _, _]
 have HB5 := Lib.hid (HB4.out.trans (hbx.mono HB4.out.size))
 have HZ5 := Lib.hid ((HZ.out.below hbx).more hbx.size)
 have HK5 := Lib.hid kb
 clear hbx HZ HB4 kb
 go_upto_region 4 with fail
 generalize w4.heap.size = bx at HK5 ⊢
 generalize w4.alloc (.cells #[.slice A na ca, .int .i64 (n : Int), .slice M nm cm, .slice E ne ce, .slice V nv cv] 37) = w5 at HK5 HB5 HZ5 ⊢
 obtain ⟨a0, a1, a2, a3, a4⟩ := Blk.c5 HK5.out
 have HC := Lib.hid (HLIVE.out w5 HZ5.out)
 clear HLIVE
 go_wp2_with fail
 refine HC.out.mono ?_
 rintro _ w6 ⟨v6, rfl, ho6, hb6⟩
 have HB6 := Lib.hid (HB5.out.trans (hb6.mono HB5.out.size))
 have HZ6 := Lib.hid ((HZ5.out.below hb6).more hb6.size)
 have HK6 := Lib.hid (HK5.out.below hb6 HK5.out.lt)
 obtain ⟨A6, c6, rfl, u1, u2, hr6⟩ := own_slI ho6
 have HR6 := Lib.hid hr6
 clear a0 a1 a2 a3 a4 HC ho6 hr6 HB5 HZ5 HK5
 obtain ⟨a0, a1, a2, a3, a4⟩ := Blk.c5 HK6.out
 have HC := Lib.hid (HDEAD.out w6 HZ6.out)
 clear HDEAD
 go_wp2_with fail
 refine HC.out.mono ?_
 rintro _ w7 ⟨v7, rfl, ho7, hb7⟩
 have HB7 := Lib.hid (HB6.out.trans (hb7.mono HB6.out.size))
 have HZ7 := Lib.hid ((HZ6.out.below hb7).more hb7.size)
 have HK7 := Lib.hid (HK6.out.below hb7 HK6.out.lt)
 obtain ⟨A7, c7, rfl, d1, d2, hr7⟩ := own_slI ho7
 have HR7 := Lib.hid hr7
 have HR67 := Lib.hid ((HR6.out.below hb7).more hb7.size)
 clear a0 a1 a2 a3 a4 HC ho7 hr7 hb7 hb6 HB6 HZ6 HK6 HR6
 have HPT0 := Lib.hid (fun (W : World) (hzz : DV.ok W W.heap.size ⟨⟨A, na, ca, M, nm, cm, E, ne, ce, a⟩, V, nv, cv, l⟩) (WA : Option Addr) (cw : Nat) (hR : RdI W W.heap.size A7 dL) (hW : RdI W W.heap.size WA (rngI (n : Int))) (h3 : n ≤ cw) (h4 : cw ≤ 9223372036854775807) =>
  (show Calls Try.prog 13 #[.agg #[.slice A na ca, .int .i64 (n : Int), .slice M nm cm, .slice E ne ce], .int .i64 0, .slice A7 dL.length c7, .slice WA n cw] W (fun e w' => ∃ (v : Value) (f : Bool) (er : Int), e = .returned (.tuple #[v, .bool f, .int .i64 er]) ∧ (n ≠ 0 → f = PR.isSome ∧ er = 0 ∧ w'.ownsRow W.heap.size 3 1 v (PR.getD []).length (iv (PR.getD []))) ∧ Below W.heap.size W w') from by
   rcases Nat.eq_zero_or_pos n with h0 | h0
   ·subst h0
    refine (HPZ.out rfl W hzz _ _).mono ?_
    rintro _ w' ⟨rfl, hb⟩
    exact ⟨_, _, _, rfl, fun h9 => absurd rfl h9, hb⟩
   ·refine (HPT.out W hzz A7 c7 WA cw h0 hR d1 d2 hW h3 h4).mono ?_
    intro e w' hp
    unfold RetPath at hp
    cases PR with
    | none =>
     obtain ⟨rfl, hb⟩ := hp
     exact ⟨_, _, _, rfl, fun _ => ⟨rfl, rfl, World.ownsRow_nil _ _ _ _⟩, hb⟩
    | some ws =>
     obtain ⟨v, rfl, ho, hb⟩ := hp
     exact ⟨_, _, _, rfl, fun _ => ⟨rfl, rfl, ho⟩, hb⟩))
 clear HPT HPZ
 generalize dL.length = ndL at d1 d2 HPT0 ⊢
 go_upto_region 6 with fail
 go_cut [11, 12, 13] from 40 (fun s11 s12 s13 wx => ∃ (v : Value) (f : Bool) (er : Int), s11 = v ∧ s12 = .bool f ∧ s13 = .int .i64 er ∧ Hid (n ≠ 0 → f = PR.isSome ∧ er = 0 ∧ wx.ownsRow w7.heap.size 3 1 v (PR.getD []).length (iv (PR.getD []))) ∧ Hid (Below w7.heap.size w7 wx))
 case first =>
  have HAW := Lib.hid (fun (W : World) (hb : Below w7.heap.size w7 W) => (show W.cell? ⟨bx, 0, none⟩ = some (.slice A na ca) ∧ W.cell? ⟨bx, 1, none⟩ = some (.int .i64 (n : Int)) ∧ W.cell? ⟨bx, 2, none⟩ = some (.slice M nm cm) ∧ W.cell? ⟨bx, 3, none⟩ = some (.slice E ne ce) from by
   obtain ⟨a0, a1, a2, a3, _⟩ := Blk.c5 (HK7.out.below hb HK7.out.lt)
   exact ⟨a0, a1, a2, a3⟩))
  refine wp_region_U (fun W => W.cell? ⟨bx, 0, none⟩ = some (.slice A na ca) ∧ W.cell? ⟨bx, 1, none⟩ = some (.int .i64 (n : Int)) ∧ W.cell? ⟨bx, 2, none⟩ = some (.slice M nm cm) ∧ W.cell? ⟨bx, 3, none⟩ = some (.slice E ne ce)) (fun _ => True) 7 (by kernel_rfl) ?_
  change anyU _ _ _ _ _ _ _ 15 _ _ _
  have hB0 : True := trivial
  have HBD := Lib.hid (below_dr w7)
  generalize w7.drew = wd at HBD ⊢
  have hA0 := HAW.out wd HBD.out
  have HC := Lib.hid (law_all n wd (by omega))
  (refine uA 0 ?_ rfl hA0 hB0 (fun W hA => ?_) ?_; rotate_left; (· (go_simp; try with_reducible rfl)); (try simp only [Act.put, List.setIfInBounds_toArray, List.set_cons_zero, List.set_cons_succ]))
  (refine uA 1 ?_ rfl hA0 hB0 (fun W hA => ?_) ?_; rotate_left; (· (obtain ⟨a0, a1, a2, a3⟩ := hA; go_simp; try with_reducible rfl)); (try simp only [Act.put, List.setIfInBounds_toArray, List.set_cons_zero, List.set_cons_succ]))
  (refine uA 2 ?_ rfl hA0 hB0 (fun W hA => ?_) ?_; rotate_left; (· (go_simp; try with_reducible rfl)); refine uA 3 ?_ rfl hA0 hB0 (fun W hA => ?_) ?_; rotate_left; (· (go_simp; try with_reducible rfl)); refine uA 4 ?_ rfl hA0 hB0 (fun W hA => ?_) ?_; rotate_left; (· (go_simp; try with_reducible rfl)); (try simp only [Act.put, List.setIfInBounds_toArray, List.set_cons_zero, List.set_cons_succ]))
  (refine uA 5 ?_ rfl hA0 hB0 (fun W hA => ?_) ?_; rotate_left; (· (obtain ⟨a0, a1, a2, a3⟩ := hA; go_simp; try with_reducible rfl)); (try simp only [Act.put, List.setIfInBounds_toArray, List.set_cons_zero, List.set_cons_succ]))
  clear hA0
  refine uOne (i := 6) rfl (by kernel_rfl) (fun K hK => ?_)
  go_simp
  go_at_call 14
  refine HC.out.mono ?_
  rintro _ w8 ⟨v8, rfl, ho8, hb8⟩
  have hrl : (rngI (n : Int)).length = n := by rw [rngI_len, Int.toNat_natCast]
  obtain ⟨A8, c8, rfl, e1, e2, hr8⟩ := own_slI ho8
  rw [hrl] at e1 ⊢
  have HB8 := Lib.hid (HBD.out.trans (hb8.mono HBD.out.size))
  have hA0 := HAW.out w8 HB8.out
  go_simp
  (refine hK _ _ ⟨hA0, fun _ => hB0⟩ ?_; clear hK K; (try simp only [Act.put, List.setIfInBounds_toArray, List.set_cons_zero, List.set_cons_succ]))
  have HC2 := Lib.hid (HPT0.out w8 ((HZ7.out.below HB8.out).more HB8.out.size) A8 c8 ((HR7.out.below HB8.out).more HB8.out.size) hr8 e1 e2)
  clear hA0 ho8 hr8 HC hb8
  refine uOne (i := 7) rfl (by kernel_rfl) (fun K hK => ?_)
  go_simp
  go_at_call 13
  refine HC2.out.mono ?_
  rintro _ w9 ⟨v9, f9, er9, rfl, hp9, hb9⟩
  have HB9 := Lib.hid (HB8.out.trans (hb9.mono HB8.out.size))
  have hA0 := HAW.out w9 HB9.out
  have HP9 := Lib.hid (show n ≠ 0 → f9 = PR.isSome ∧ er9 = 0 ∧ w9.ownsRow w7.heap.size 3 1 v9 (PR.getD []).length (iv (PR.getD [])) from fun h9 => ⟨(hp9 h9).1, (hp9 h9).2.1, own_base (hp9 h9).2.2 HB8.out.size⟩)
  clear hp9 hb9 HC2
  go_simp
  (refine hK _ _ ⟨hA0, fun _ => hB0⟩ ?_; clear hK K; (try simp only [Act.put, List.setIfInBounds_toArray, List.set_cons_zero, List.set_cons_succ]))
  (refine uA 8 ?_ rfl hA0 hB0 (fun W hA => ?_) ?_; rotate_left; (· (go_simp; try with_reducible rfl)); refine uA 9 ?_ rfl hA0 hB0 (fun W hA => ?_) ?_; rotate_left; (· (go_simp; try with_reducible rfl)); refine uA 10 ?_ rfl hA0 hB0 (fun W hA => ?_) ?_; rotate_left; (· (go_simp; try with_reducible rfl)); (try simp only [Act.put, List.setIfInBounds_toArray, List.set_cons_zero, List.set_cons_succ]))
  (refine uA 11 ?_ rfl hA0 hB0 (fun W hA => ?_) ?_; rotate_left; (· (go_simp; try with_reducible rfl)); refine uA 12 ?_ rfl hA0 hB0 (fun W hA => ?_) ?_; rotate_left; (· (go_simp; try with_reducible rfl)); refine uA 13 ?_ rfl hA0 hB0 (fun W hA => ?_) ?_; rotate_left; (· (go_simp; try with_reducible rfl)); refine uA 14 ?_ rfl hA0 hB0 (fun W hA => ?_) ?_; rotate_left; (· (go_simp; try with_reducible rfl)); (try simp only [Act.put, List.setIfInBounds_toArray, List.set_cons_zero, List.set_cons_succ]))
  refine anyU_done (by kernel_rfl) ?_ _
  go_wp2_with fail
  go_meet
  case rel => exact ⟨v9, f9, er9, rfl, rfl, rfl, HP9, HB9⟩
 case rest =>
  obtain ⟨v9, f9, er9, rfl, rfl, rfl, HP9, HB97⟩ := hcut
  clear HPT0 HR7 HDMM d1 d2
  have hb9 := HB97.out
  generalize wc = w9 at HP9 HB97 hb9 ⊢
  have HB9 := Lib.hid (HB7.out.trans (hb9.mono HB7.out.size))
  have HZ9 := Lib.hid ((HZ7.out.below hb9).more hb9.size)
  have HK9 := Lib.hid (HK7.out.below hb9 HK7.out.lt)
  have HR9 := Lib.hid ((HR67.out.below hb9).more hb9.size)
  clear hb9 HB97 HR67 HB7 HZ7 HK7
  obtain ⟨a0, a1, a2, a3, a4⟩ := Blk.c5 HK9.out
  have hcase : (n = 0 ∧ PR = none) ∨ (n ≠ 0 ∧ PR = none) ∨ (n ≠ 0 ∧ ∃ ws, PR = some ws) := by
   by_cases h0 : n = 0
   ·exact .inl ⟨h0, HPR0.out h0⟩
   ·cases hP : PR with
    | none => exact .inr (.inl ⟨h0, rfl⟩)
    | some ws => exact .inr (.inr ⟨h0, ws, rfl⟩)
  clear HPR0
  obtain ⟨nz, hnz⟩ : ∃ z : Int, (n : Int) = z := ⟨_, rfl⟩
  rw [hnz] at a1
  have HNZ := Lib.hid hnz
  clear hnz
  rcases hcase with ⟨h0, rfl⟩ | ⟨h0, rfl⟩ | ⟨h0, ws, rfl⟩
  case' inl =>
   have b0 : (nz == 0) = true := by rw [← HNZ.out, h0]; rfl
   have HH0 := Lib.hid h0
   clear h0
   clear HP9
   dsimp only [livM] at u1 HR9 HLAWL ⊢
   go_upto_region 9 with fail
   have hr9 : RdI w9 w9.heap.size none ([] : List Int) := RdV.nil
   have HE9 := Lib.hid (fun (W : World) (hb : Below w9.heap.size w9 W) => slices_Equal_n A6 none c6 0 ([] : List Int).length ([] : List Int).length [] [] true W rfl rfl (eqB_of rfl) ((HR9.out.below hb).more hb.size) u1 u2 ((hr9.below hb).more hb.size))
   rw [← HNZ.out] at a1
   clear hr9 b0
   have HC := Lib.hid (HLAWL.out w9 HZ9.out)
   try simp only [List.length_nil] at HE9 ⊢
   go_wp2_with fail
   refine HC.out.mono ?_
   rintro _ w10 ⟨rfl, hb10⟩
   have HB10 := Lib.hid (HB9.out.trans (hb10.mono HB9.out.size))
   have HZ10 := Lib.hid ((HZ9.out.below hb10).more hb10.size)
   have HK10 := Lib.hid (HK9.out.below hb10 HK9.out.lt)
   have HE := Lib.hid (HE9.out w10 hb10)
   clear a0 a1 a2 a3 a4 HC HE9 hb10
   go_wp2_with fail
   refine HE.out.mono ?_
   rintro _ w11 ⟨rfl, n11, rfl⟩
   have hb11 : Below w10.heap.size w10 (w10.drewN n11) := below_drewN (Below.refl _ _) _
   generalize w10.drewN n11 = w11 at hb11 ⊢
   go_upto_region 11 with fail
  case' inr.inl =>
   have b0 : (nz == 0) = false := by rw [← HNZ.out]; simpa using h0
   dsimp only [livM] at u1 HR9 HLAWL ⊢
   obtain ⟨rfl, rfl, ho9⟩ := HP9.out h0
   obtain ⟨A9, c9, rfl, k1, k2, hr9⟩ := own_slI ho9
   dsimp only [Option.getD_none, Option.getD_some, Option.isSome_none, Option.isSome_some] at k1 hr9 ⊢
   clear HP9 ho9
   go_upto_region 9 with fail
   have HE9 := Lib.hid (fun (W : World) (hb : Below w9.heap.size w9 W) => slices_Equal_n A6 A9 c6 c9 ([] : List Int).length ([] : List Int).length [] [] true W rfl rfl (eqB_of rfl) ((HR9.out.below hb).more hb.size) u1 u2 ((hr9.below hb).more hb.size))
   rw [← HNZ.out] at a1
   clear hr9 b0
   have HC := Lib.hid (HLAWL.out w9 HZ9.out)
   try simp only [List.length_nil] at HE9 ⊢
   go_wp2_with fail
   refine HC.out.mono ?_
   rintro _ w10 ⟨rfl, hb10⟩
   have HB10 := Lib.hid (HB9.out.trans (hb10.mono HB9.out.size))
   have HZ10 := Lib.hid ((HZ9.out.below hb10).more hb10.size)
   have HK10 := Lib.hid (HK9.out.below hb10 HK9.out.lt)
   have HE := Lib.hid (HE9.out w10 hb10)
   clear a0 a1 a2 a3 a4 HC HE9 hb10
   go_wp2_with fail
   refine HE.out.mono ?_
   rintro _ w11 ⟨rfl, n11, rfl⟩
   have hb11 : Below w10.heap.size w10 (w10.drewN n11) := below_drewN (Below.refl _ _) _
   generalize w10.drewN n11 = w11 at hb11 ⊢
   go_upto_region 11 with fail
  case' inr.inr =>
   have b0 : (nz == 0) = false := by rw [← HNZ.out]; simpa using h0
   dsimp only [livM] at u1 HR9 HLAWL ⊢
   obtain ⟨rfl, rfl, ho9⟩ := HP9.out h0
   obtain ⟨A9, c9, rfl, k1, k2, hr9⟩ := own_slI ho9
   dsimp only [Option.getD_none, Option.getD_some, Option.isSome_none, Option.isSome_some] at k1 hr9 ⊢
   clear HP9 ho9
   go_upto_region 9 with fail
   have HE9 := Lib.hid (fun (W : World) (hb : Below w9.heap.size w9 W) => slices_Equal_n A6 A9 c6 c9 (ws : List Int).length (ws : List Int).length ws ws true W rfl rfl (eqB_of rfl) ((HR9.out.below hb).more hb.size) u1 u2 ((hr9.below hb).more hb.size))
   rw [← HNZ.out] at a1
   clear hr9 b0
   have HC := Lib.hid (HLAWL.out w9 HZ9.out)
   try simp only [List.length_nil] at HE9 ⊢
   generalize ws.length = nws at HE9 u1 k1 ⊢
   go_wp2_with fail
   refine HC.out.mono ?_
   rintro _ w10 ⟨rfl, hb10⟩
   have HB10 := Lib.hid (HB9.out.trans (hb10.mono HB9.out.size))
   have HZ10 := Lib.hid ((HZ9.out.below hb10).more hb10.size)
   have HK10 := Lib.hid (HK9.out.below hb10 HK9.out.lt)
   have HE := Lib.hid (HE9.out w10 hb10)
   clear a0 a1 a2 a3 a4 HC HE9 hb10
   go_wp2_with fail
   refine HE.out.mono ?_
   rintro _ w11 ⟨rfl, n11, rfl⟩
   have hb11 : Below w10.heap.size w10 (w10.drewN n11) := below_drewN (Below.refl _ _) _
   generalize w10.drewN n11 = w11 at hb11 ⊢
   go_upto_region 11 with fail
  all_goals
   have HB11 := Lib.hid (HB10.out.trans (hb11.mono HB10.out.size))
   have HZ11 := Lib.hid ((HZ10.out.below hb11).more hb11.size)
   have HK11 := Lib.hid (HK10.out.below hb11 HK10.out.lt)
   clear hb11 HE HB10 HZ10 HK10 HR9 u1 u2 HLAWL
   obtain ⟨a0, a1, a2, a3, a4⟩ := Blk.c5 HK11.out
   have HC := Lib.hid (HQT.out w11 HZ11.out)
   clear HQT
   go_wp2_with fail
   refine HC.out.mono ?_
   rintro _ w12 ⟨vp, vq, rfl, hop, hoq, hb12⟩
   have HB12 := Lib.hid (HB11.out.trans (hb12.mono HB11.out.size))
   have HZ12 := Lib.hid ((HZ11.out.below hb12).more hb12.size)
   have HK12 := Lib.hid (HK11.out.below hb12 HK11.out.lt)
   obtain ⟨PA, pc, rfl, p1, p2, hrp⟩ := own_slI hop
   obtain ⟨CA, cc, rfl, q1, q2, hrq⟩ := own_slI hoq
   obtain ⟨⟨Y1, Y2⟩, Yb⟩ := Y
   clear a0 a1 a2 a3 a4 HC hop hoq hb12
   obtain ⟨a0, a1, a2, a3, a4⟩ := Blk.c5 HK12.out
   have HC := Lib.hid (HLAWQ.out w12 HZ12.out)
   clear HLAWQ
   dsimp only at p1 q1 hrp hrq HC HGO HQN ⊢
   cases Yb
   case' true =>
    have HG9 := Lib.hid (fun (W : World) (hzz : DV.ok W W.heap.size ⟨⟨A, na, ca, M, nm, cm, E, ne, ce, a⟩, V, nv, cv, l⟩) (hb : Below w12.heap.size w12 W) => HGO.out rfl W hzz ⟨PA, Y1.length, pc, Y1⟩ ⟨CA, Y2.length, cc, Y2⟩ ⟨rfl, p1, p2, (hrp.below hb).more hb.size⟩ ⟨rfl, q1, q2, (hrq.below hb).more hb.size⟩ rfl rfl)
    dsimp only at HG9
    generalize Y1.length = y1 at p1 HG9 ⊢
    generalize Y2.length = y2 at q1 HG9 ⊢
    clear hrp hrq HGO HQN
    go_wp2_with fail
    refine HC.out.mono ?_
    rintro _ w13 ⟨rfl, hb13⟩
    have HG13 := Lib.hid (HG9.out w13 ((HZ12.out.below hb13).more hb13.size) hb13)
    have HB13 := Lib.hid (HB12.out.trans (hb13.mono HB12.out.size))
    have HZ13 := Lib.hid ((HZ12.out.below hb13).more hb13.size)
    have HK13 := Lib.hid (HK12.out.below hb13 HK12.out.lt)
    clear a0 a1 a2 a3 a4 HC HG9 hb13
    obtain ⟨a0, a1, a2, a3, a4⟩ := Blk.c5 HK13.out
    go_wp2_with fail
    refine HG13.out.mono ?_
    rintro _ w14 ⟨rfl, hb14⟩
    have HB14 := Lib.hid (HB13.out.trans (hb14.mono HB13.out.size))
    have HZ14 := Lib.hid ((HZ13.out.below hb14).more hb14.size)
    have HK14 := Lib.hid (HK13.out.below hb14 HK13.out.lt)
    clear a0 a1 a2 a3 a4 HG13 hb14
    go_upto_region 14 with fail
   case' false =>
    have hyy := HQN.out rfl
    injection hyy with e1 e2
    subst e1 e2
    try simp only [List.length_nil] at p1 q1 ⊢
    clear hrp hrq HGO HQN
    go_wp2_with fail
    refine HC.out.mono ?_
    rintro _ w14 ⟨rfl, hb14⟩
    have HB14 := Lib.hid (HB12.out.trans (hb14.mono HB12.out.size))
    have HZ14 := Lib.hid ((HZ12.out.below hb14).more hb14.size)
    have HK14 := Lib.hid (HK12.out.below hb14 HK12.out.lt)
    clear a0 a1 a2 a3 a4 HC hb14
    go_upto_region 14 with fail
  all_goals
   obtain ⟨a0, a1, a2, a3, a4⟩ := Blk.c5 HK14.out
   by_cases hc1 : c < 1
   ·have HC := Lib.hid (HTE.out (.inl hc1) w14 HZ14.out)
    clear HTE HTW HLT
    go_wp2_with fail
    refine HC.out.mono ?_
    rintro _ w15 ⟨rfl, hb15⟩
    have HB15 := Lib.hid (HB14.out.trans (hb15.mono HB14.out.size))
    have HZ15 := Lib.hid ((HZ14.out.below hb15).more hb15.size)
    have HK15 := Lib.hid (HK14.out.below hb15 HK14.out.lt)
    clear a0 a1 a2 a3 a4 HC hb15
    go_wp2
    go_ret
    exact ⟨rfl, HBL.out _ HB15.out⟩
   by_cases hc4 : 4 < c
   ·have HC := Lib.hid (HTE.out (.inr hc4) w14 HZ14.out)
    clear HTE HTW HLT
    go_wp2_with fail
    refine HC.out.mono ?_
    rintro _ w15 ⟨rfl, hb15⟩
    have HB15 := Lib.hid (HB14.out.trans (hb15.mono HB14.out.size))
    have HZ15 := Lib.hid ((HZ14.out.below hb15).more hb15.size)
    have HK15 := Lib.hid (HK14.out.below hb15 HK14.out.lt)
    clear a0 a1 a2 a3 a4 HC hb15
    go_wp2
    go_ret
    exact ⟨rfl, HBL.out _ HB15.out⟩
   have HC := Lib.hid (HTW.out ⟨by omega, by omega⟩ w14 HZ14.out)
   clear HTE HTW
   go_wp2_with fail
   refine HC.out.mono ?_
   rintro _ w15 ⟨A1, A2, n1, c1, n2, c2, rfl, e1, e2, l1, l2, o1, o2, hb15⟩
   have HB15 := Lib.hid (HB14.out.trans (hb15.mono HB14.out.size))
   have HZ15 := Lib.hid ((HZ14.out.below hb15).more hb15.size)
   have HK15 := Lib.hid (HK14.out.below hb15 HK14.out.lt)
   have hr1 : RdR 3 prC w15 w15.heap.size A1 RT.ts := RdR.of_own (f := prC) (by omega) (fun _ _ => rfl) o1
   have hr2 : RdR 4 mvc w15 w15.heap.size A2 RT.es := RdR.of_own (f := mvc) (by omega) (fun _ _ => rfl) o2
   clear a0 a1 a2 a3 a4 HC hb15 o1 o2
   obtain ⟨a0, a1, a2, a3, a4⟩ := Blk.c5 HK15.out
   have HC := Lib.hid (HLT.out w15 HZ15.out)
   clear HLT
   have HRA := Lib.hid (fun (W : World) (hb : Below w15.heap.size w15 W) => (show RdR 3 prC W W.heap.size A1 RT.ts ∧ RdR 4 mvc W W.heap.size A2 RT.es from ⟨(hr1.below hb).more hb.size, (hr2.below hb).more hb.size⟩))
   clear hr1 hr2
   have HE1 := Lib.hid e1
   have HE2 := Lib.hid e2
   clear e1 e2
   go_wp2_with fail
   refine HC.out.mono ?_
   rintro _ w16 ⟨B1, B2, m1, d1, m2, d2, rfl, e1, e2, l3, l4, o1, o2, hb16⟩
   obtain rfl : m1 = n1 := by rw [← e1, HE1.out]
   obtain rfl : m2 = n2 := by rw [← e2, HE2.out]
   have HB16 := Lib.hid (HB15.out.trans (hb16.mono HB15.out.size))
   have HZ16 := Lib.hid ((HZ15.out.below hb16).more hb16.size)
   have HK16 := Lib.hid (HK15.out.below hb16 HK15.out.lt)
   have hr1 : RdR 3 prC w16 w16.heap.size B1 RT.ts := RdR.of_own (f := prC) (by omega) (fun _ _ => rfl) o1
   have hr2 : RdR 4 mvc w16 w16.heap.size B2 RT.es := RdR.of_own (f := mvc) (by omega) (fun _ _ => rfl) o2
   have HP1 := Lib.hid (slices_EqualP A1 B1 c1 d1 m1 RT.ts w16 HE1.out (HRA.out w16 hb16).1 hr1 (by omega))
   have HP2 := Lib.hid (fun (W : World) (hb : Below w16.heap.size w16 W) => slices_EqualM A2 B2 c2 d2 m2 RT.es W HE2.out (HRA.out W (hb16.trans (hb.mono hb16.size))).2 ((hr2.below hb).more hb.size) (by omega))
   clear a0 a1 a2 a3 a4 HC hb16 o1 o2 hr1 hr2 e1 e2 HRA
   go_wp2_with fail
   refine HP1.out.mono ?_
   rintro _ w17 ⟨rfl, hb17⟩
   have HB17 := Lib.hid (HB16.out.trans (hb17.mono HB16.out.size))
   have HP3 := Lib.hid (HP2.out w17 hb17)
   clear HP1 HP2 hb17
   go_wp2_with fail
   refine HP3.out.mono ?_
   rintro _ w18 ⟨rfl, hb18⟩
   have HB18 := Lib.hid (HB17.out.trans (hb18.mono HB17.out.size))
   clear HP3 hb18
   go_wp2
   go_ret
   exact ⟨rfl, HBL.out _ HB18.out⟩
end Go.Proofs.Ytddhaidimadliaa

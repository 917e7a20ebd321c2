/- The statement DiagnosabilityRefuses: the walk. -/
import Derived.Test.YtddhaidimadliaaKm
import Derived.Test.YtddhaidimadliaaKi
import Derived.Test.YtddhaidimadliaaKe
import Derived.Test.YtddhaidimadliaaJt
import Derived.Test.YtddhaidimadliaaJv
import Derived.Test.YtddhaidimadliaaKj
namespace Go.Proofs.Ytddhaidimadliaa
open Go.RowKit Go

theorem lcheck1_ok (b : Nat) (V : Option Addr) (nv cv : Nat) (x : Int) (w : World) (hc : w.cell? ⟨b, 4, none⟩ = some (.slice V nv cv)) :
  Calls Try.prog 82 #[.int .i64 x, .pointer (some ⟨b, 0, none⟩)] w fun e w' => e = .returned (.bool (decide ((nv : Int) ≤ x))) ∧ w = w' := by
 go_enter Try.func82, Try.ntmps82
 go_wp2
 go_ret
 exact ⟨rfl, rfl⟩
set_option maxRecDepth 100000 in
set_option maxHeartbeats 1600000 in
theorem law_check41 (z : DV) (r : Int) (w : World) (h : z.ok w w.heap.size) (hr : dmE z = r) :
  Calls Try.prog 38 #[.agg (dvc z).toArray] w fun e w' => e = .returned (.int .i64 r) ∧ Below w.heap.size w w' := by
 obtain ⟨⟨A, na, ca, M, nm, cm, E, ne, ce, a⟩, V, nv, cv, l⟩ := z
 unfold dmE at hr
 dsimp only at hr
 have hla := h.x.la
 have hac := h.x.ac
 have hcA := h.x.cA
 dsimp only at hla hac hcA
 have hb1 := box_below w (.cells #[.slice A na ca, .int .i64 a.st, .slice M nm cm, .slice E ne ce, .slice V nv cv] 37)
 obtain ⟨w1, hw1⟩ : ∃ w1, w1 = w.alloc (.cells #[.slice A na ca, .int .i64 a.st, .slice M nm cm, .slice E ne ce, .slice V nv cv] 37) := ⟨_, rfl⟩
 have kx : Blk w1 w.heap.size 37 [.slice A na ca, .int .i64 a.st, .slice M nm cm, .slice E ne ce, .slice V nv cv] := by rw [hw1]; exact Blk.new _ _ [_, _, _, _, _]
 rw [← hw1] at hb1
 have HK := Lib.hid (fun (W : World) (hb : Below w1.heap.size w1 W) => kx.below hb kx.lt)
 have HOK := Lib.hid (fun (W : World) (hb : Below w1.heap.size w1 W) => (h.below (hb1.trans (hb.mono hb1.size))).more (hb1.trans (hb.mono hb1.size)).size)
 have HC1 := Lib.hid (alphabet_Check V cv nv l w1 h.ll (HOK.out w1 (Below.refl _ _)).rl)
 have HA := Lib.hid (fun (W : World) (hb : Below w1.heap.size w1 W) => automaton_Check A na ca M nm cm E ne ce a W (HOK.out W hb).x)
 have HRA := Lib.hid (fun (W : World) (hb : Below w1.heap.size w1 W) => (HOK.out W hb).x.ra)
 clear h
 obtain ⟨sv, hsv⟩ : ∃ s, a.st = s := ⟨_, rfl⟩
 unfold dvc
 dsimp only
 rw [hsv] at hw1 HK HA ⊢
 have a4 : w1.cell? ⟨w.heap.size, 4, none⟩ = some (.slice V nv cv) := (HK.out w1 (Below.refl _ _)).cell (j := 4) rfl
 obtain ⟨re, hre⟩ : ∃ r, chkE l = r := ⟨_, rfl⟩
 rw [hre] at HC1 hr
 obtain ⟨ra, hra⟩ : ∃ r, chkA a = r := ⟨_, rfl⟩
 rw [hra] at HA hr
 have HW1 := Lib.hid hw1; clear hw1
 have HB1 := Lib.hid hb1; clear hb1
 have HR := Lib.hid hr; clear hr
 have lx := kx.lt
 clear kx hsv hre hra
 go_enter Try.func38, Try.ntmps38
 go_wp2_with fail
 rw [← HW1.out]
 refine HC1.out.mono ?_
 rintro e w2 ⟨rfl, hb2⟩
 have HB2 := Lib.hid (HB1.out.trans (hb2.mono HB1.out.size))
 by_cases h1 : re = 0
 ·subst h1
  have k2 := HK.out w2 hb2
  have a0 := k2.cell (j := 0) rfl
  have a1 := k2.cell (j := 1) rfl
  have a2 := k2.cell (j := 2) rfl
  have a3 := k2.cell (j := 3) rfl
  have HA2 := Lib.hid (HA.out w2 hb2)
  have HB12 := Lib.hid hb2
  clear a4 k2 HC1 hb2
  go_wp2_with fail
  refine HA2.out.mono ?_
  rintro e w3 ⟨rfl, hb3⟩
  have HB3 := Lib.hid (HB2.out.trans (hb3.mono HB2.out.size))
  have HB13 := Lib.hid (HB12.out.trans (hb3.mono HB12.out.size))
  clear a0 a1 a2 a3 HA2 hb3
  by_cases h2 : ra = 0
  ·subst h2
   have k3 := HK.out w3 HB13.out
   have a0 := k3.cell (j := 0) rfl
   obtain ⟨q, hq⟩ : ∃ q, a.al.any (fun v => decide ((nv : Int) ≤ v)) = q := ⟨_, rfl⟩
   have HCF := Lib.hid (ints_ContainsFunc A ca na a.al 82 (.pointer (some ⟨w.heap.size, 0, none⟩)) (fun v => decide ((nv : Int) ≤ v)) q w3 hla (HRA.out w3 HB13.out) (by omega) (fun _ _ => rfl) (fun x => lcheck1_ok w.heap.size V nv cv x w3 (k3.cell (j := 4) rfl)) hq)
   rw [hq] at HR
   clear k3 hq
   go_wp2_with fail
   refine HCF.out.mono ?_
   rintro e w' ⟨rfl, rfl⟩
   clear a0 HCF
   cases q with
   | true =>
    have HR2 := Lib.hid (show r = 2 from HR.out.symm.trans (by simp))
    go_wp2
    go_ret
    exact ⟨ret_int HR2.out.symm, HB3.out⟩
   | false =>
    have HR2 := Lib.hid (show r = 0 from HR.out.symm.trans (by simp))
    go_wp2
    go_ret
    exact ⟨ret_int HR2.out.symm, HB3.out⟩
  ·have e1 : (ra != 0) = true := by simpa using h2
   have HR2 := Lib.hid (show ra = r by have h9 := HR.out; rw [if_neg (by simp), if_pos h2] at h9; exact h9)
   clear h2
   go_wp2
   go_ret
   exact ⟨ret_int HR2.out, HB3.out⟩
 ·have e1 : (re != 0) = true := by simpa using h1
  have HR2 := Lib.hid (show re = r by have h9 := HR.out; rw [if_pos h1] at h9; exact h9)
  clear a4 hb2 h1
  go_wp2
  go_ret
  exact ⟨ret_int HR2.out, HB2.out⟩

theorem few1_ok (e : Ev) (w : World) : Calls Try.prog 80 #[.agg #[.string e.nm, .bool e.c, .bool e.o, .bool e.f, .int .i64 e.fault]] w fun r w' => r = .returned (.bool (decide (50 < (e.nm.size : Int)))) ∧ Below w.heap.size w w' := by
 have hbx := box_below w (.cells #[.string e.nm, .bool e.c, .bool e.o, .bool e.f, .int .i64 e.fault] 67)
 obtain ⟨w1, hw1⟩ : ∃ w1, w1 = w.alloc (.cells #[.string e.nm, .bool e.c, .bool e.o, .bool e.f, .int .i64 e.fault] 67) := ⟨_, rfl⟩
 have kx : Blk w1 w.heap.size 67 [.string e.nm, .bool e.c, .bool e.o, .bool e.f, .int .i64 e.fault] := by rw [hw1]; exact Blk.new _ _ [_, _, _, _, _]
 rw [← hw1] at hbx
 have c0 := kx.cell (j := 0) rfl
 have HW1 := Lib.hid hw1; clear hw1
 have HB1 := Lib.hid hbx; clear hbx
 clear kx
 go_enter Try.func80, Try.ntmps80
 go_upto_region 1 with fail
 rw [← HW1.out]
 go_wp2
 go_ret
 exact ⟨rfl, HB1.out⟩
/-- some answer -/
def RetB (w : World) (e : Ending) (w' : World) : Prop := ∃ b : Bool, e = .returned (.bool b) ∧ Below w.heap.size w w'
set_option maxRecDepth 100000 in
set_option maxHeartbeats 3200000 in
theorem law_few41 (z : DV) (w : World) (h : z.ok w w.heap.size) : Calls Try.prog 37 #[.agg (dvc z).toArray] w (RetB w) := by
 obtain ⟨⟨A, na, ca, M, nm, cm, E, ne, ce, a⟩, V, nv, cv, l⟩ := z
 have hb1 := box_below w (.cells #[.slice A na ca, .int .i64 a.st, .slice M nm cm, .slice E ne ce, .slice V nv cv] 37)
 obtain ⟨w1, hw1⟩ : ∃ w1, w1 = w.alloc (.cells #[.slice A na ca, .int .i64 a.st, .slice M nm cm, .slice E ne ce, .slice V nv cv] 37) := ⟨_, rfl⟩
 have kx : Blk w1 w.heap.size 37 [.slice A na ca, .int .i64 a.st, .slice M nm cm, .slice E ne ce, .slice V nv cv] := by rw [hw1]; exact Blk.new _ _ [_, _, _, _, _]
 rw [← hw1] at hb1
 have HK := Lib.hid (fun (W : World) (hb : Below w1.heap.size w1 W) => kx.below hb kx.lt)
 have HOK := Lib.hid (fun (W : World) (hb : Below w1.heap.size w1 W) => (h.below (hb1.trans (hb.mono hb1.size))).more (hb1.trans (hb.mono hb1.size)).size)
 have HBL := Lib.hid (fun (W : World) (hb : Below w1.heap.size w1 W) => hb1.trans (hb.mono hb1.size))
 have hs1 := hb1.size
 have lx := kx.lt
 have hnv : nv ≤ 9223372036854775807 := Nat.le_trans h.c1 h.c2
 have HLL := Lib.hid h.ll
 have HRL := Lib.hid (fun (W : World) (hb : Below w1.heap.size w1 W) => (HOK.out W hb).rl)
 unfold dvc
 dsimp only at hnv HLL HRL ⊢
 obtain ⟨sv, hsv⟩ : ∃ s, a.st = s := ⟨_, rfl⟩
 rw [hsv] at hw1 HK ⊢
 have hb2 := box_below w1 (.cells #[.slice A na ca, .int .i64 sv, .slice M nm cm, .slice E ne ce] 34)
 have kb := Blk.new w1 34 [.slice A na ca, .int .i64 sv, .slice M nm cm, .slice E ne ce]
 have HB2 := Lib.hid hb2
 obtain ⟨a0, a1, a2, a3, a4⟩ := Blk.c5 (HK.out w1 (Below.refl _ _))
 have HW1 := Lib.hid hw1; clear hw1
 clear hsv kx hb1 h hb2
 go_enter Try.func37, Try.ntmps37
 go_upto_region 1 with fail
 rw [← HW1.out]
 go_upto_region 2 with fail
 clear a0 a1 a2 a3 a4
 obtain ⟨bx, hbx⟩ : ∃ b, w1.heap.size = b := ⟨_, rfl⟩
 rw [hbx] at kb ⊢
 clear hbx
 obtain ⟨w2, hw2⟩ : ∃ W, W = w1.alloc (.cells #[.slice A na ca, .int .i64 sv, .slice M nm cm, .slice E ne ce] 34) := ⟨_, rfl⟩
 have kb : Blk w2 bx 34 [.slice A na ca, .int .i64 sv, .slice M nm cm, .slice E ne ce] := by rw [hw2]; exact kb
 rw [← hw2] at HB2 ⊢
 clear hw2
 obtain ⟨d0, d1, d2, d3⟩ := Blk.c4 kb
 obtain ⟨a0, a1, a2, a3, a4⟩ := Blk.c5 (HK.out w2 HB2.out)
 have HC := Lib.hid (evts_ContainsFuncB V cv nv l 80 (fun e => decide (50 < (e.nm.size : Int))) _ w2 HLL.out (HRL.out w2 HB2.out) hnv (fun _ _ => rfl) (fun e _ W _ => few1_ok e W) rfl)
 generalize (l.any fun e => decide (50 < (e.nm.size : Int))) = q at HC
 clear kb
 by_cases h1 : 8 < sv
 ·go_wp2
  go_ret
  exact ⟨_, rfl, HBL.out _ HB2.out⟩
 by_cases h2 : (40 : Int) < (na : Int)
 ·go_wp2
  go_ret
  exact ⟨_, rfl, HBL.out _ HB2.out⟩
 by_cases h3 : (40 : Int) < (nm : Int)
 ·go_wp2
  go_ret
  exact ⟨_, rfl, HBL.out _ HB2.out⟩
 by_cases h4 : (40 : Int) < (ne : Int)
 ·go_wp2
  go_ret
  exact ⟨_, rfl, HBL.out _ HB2.out⟩
 by_cases h5 : (40 : Int) < (nv : Int)
 ·go_wp2
  go_ret
  exact ⟨_, rfl, HBL.out _ HB2.out⟩
 go_wp2_with fail
 refine HC.out.mono ?_
 rintro _ w3 ⟨rfl, hb3⟩
 have HB3 := Lib.hid (HB2.out.trans (hb3.mono HB2.out.size))
 clear hb3 HC
 go_wp2
 go_ret
 exact ⟨_, rfl, HBL.out _ HB3.out⟩
theorem clsE_err {z : DV} {r : Int} (h : dmE z = r) (h0 : r ≠ 0) (c : Int) : clsE z c = r := by unfold clsE; rw [if_pos (by rw [h]; exact h0), h]
theorem stlE_err {z : DV} {r : Int} (h : dmE z = r) (h0 : r ≠ 0) (c : Int) : stlE z c = r := by unfold stlE; rw [if_pos (by rw [clsE_err h h0]; exact h0), clsE_err h h0]
theorem verE_err {z : DV} {r : Int} (h : dmE z = r) (h0 : r ≠ 0) (c : Int) (F FC N NC : List Int) : verE z c F FC N NC = r := by
 unfold verE
 rw [if_pos (by rw [clsE_err h h0]; exact h0), clsE_err h h0]
theorem nilIV_ok (w : World) : (⟨none, 0, 0, []⟩ : IV).ok w w.heap.size := ⟨rfl, by show 0 ≤ 0; omega, by show 0 ≤ _; omega, RdV.nil⟩

set_option maxRecDepth 100000 in
set_option maxHeartbeats 12800000 in
theorem refuses_walk41 (z : DV) (w : World) (h : z.ok w w.heap.size) :
  Calls Try.prog 8 #[.agg (dvc z).toArray] w fun e w' => e = .returned (.bool true) ∧ Below w.heap.size w w' := by
 obtain ⟨r, hr⟩ : ∃ r, dmE z = r := ⟨_, rfl⟩
 have HKN := Lib.hid (fun (W : World) => known41 W)
 have HFW := Lib.hid (fun (W : World) (hz : z.ok W W.heap.size) => law_few41 z W hz)
 have HCK := Lib.hid (fun (W : World) (hz : z.ok W W.heap.size) => law_check41 z r W hz hr)
 have HDC := Lib.hid (fun (W : World) (hz : z.ok W W.heap.size) => dm_Check z r W hz hr)
 have HLV := Lib.hid (fun (h0 : r ≠ 0) (W : World) (hz : z.ok W W.heap.size) => dm_Live_err z r W hz hr h0)
 have HQT := Lib.hid (fun (h0 : r ≠ 0) (W : World) (hz : z.ok W W.heap.size) => dm_Quiet_err z r W hz hr h0)
 have HTW := Lib.hid (fun (h0 : r ≠ 0) (W : World) (hz : z.ok W W.heap.size) => dm_Twin_err z 1 r W hz (clsE_err hr h0 1) h0)
 have HDG := Lib.hid (fun (h0 : r ≠ 0) (W : World) (hz : z.ok W W.heap.size) => dm_Diagnosable_err z 1 r W hz (stlE_err hr h0 1) h0)
 have HRK := Lib.hid (fun (h0 : r ≠ 0) (W : World) (hz : z.ok W W.heap.size) => dm_Ranks_err z 0 r W hz (stlE_err hr h0 0) h0)
 have HLS := Lib.hid (fun (h0 : r ≠ 0) (W : World) (hz : z.ok W W.heap.size) => dm_Lasso_err z 1 r W hz (stlE_err hr h0 1) h0)
 have HVF := Lib.hid (fun (h0 : r ≠ 0) (W : World) (hz : z.ok W W.heap.size) => dm_Verify z 0 ⟨none, 0, 0, []⟩ ⟨none, 0, 0, []⟩ ⟨none, 0, 0, []⟩ ⟨none, 0, 0, []⟩ r W hz (nilIV_ok W) (nilIV_ok W) (nilIV_ok W) (nilIV_ok W) (by decide) (verE_err hr h0 0 [] [] [] []))
 have HEX := Lib.hid (fun (h0 : r ≠ 0) (W : World) (hz : z.ok W W.heap.size) => dm_Excuse_err z 1 ⟨none, 0, 0, []⟩ r W hz (clsE_err hr h0 1) h0)
 clear hr
 obtain ⟨⟨A, na, ca, M, nm, cm, E, ne, ce, a⟩, V, nv, cv, l⟩ := z
 unfold dvc at HFW HCK HDC HLV HQT HTW HDG HRK HLS HVF HEX ⊢
 dsimp only [IV.v] at HFW HCK HDC HLV HQT HTW HDG HRK HLS HVF HEX ⊢
 obtain ⟨sv, hsv⟩ : ∃ s, a.st = s := ⟨_, rfl⟩
 rw [hsv] at HFW HCK HDC HLV HQT HTW HDG HRK HLS HVF HEX ⊢
 clear hsv
 have hb1 := box_below w (.cells #[.slice A na ca, .int .i64 sv, .slice M nm cm, .slice E ne ce, .slice V nv cv] 37)
 obtain ⟨w1, hw1⟩ : ∃ w1, w1 = w.alloc (.cells #[.slice A na ca, .int .i64 sv, .slice M nm cm, .slice E ne ce, .slice V nv cv] 37) := ⟨_, rfl⟩
 have kx : Blk w1 w.heap.size 37 [.slice A na ca, .int .i64 sv, .slice M nm cm, .slice E ne ce, .slice V nv cv] := by rw [hw1]; exact Blk.new _ _ [_, _, _, _, _]
 rw [← hw1] at hb1
 have HB1 := Lib.hid hb1
 have HZ1 := Lib.hid ((h.below hb1).more hb1.size)
 have HK1 := Lib.hid kx
 have HW1 := Lib.hid hw1; clear hw1
 clear h hb1 kx
 obtain ⟨a0, a1, a2, a3, a4⟩ := Blk.c5 HK1.out
 have HC := Lib.hid (HKN.out w1)
 go_enter Try.func8, Try.ntmps8
 go_upto_region 1 with fail
 rw [← HW1.out]
 go_wp2_with fail
 refine HC.out.mono ?_
 rintro _ w2 ⟨rfl, hb2⟩
 have HB2 := Lib.hid (HB1.out.trans (hb2.mono HB1.out.size))
 have HZ2 := Lib.hid ((HZ1.out.below hb2).more hb2.size)
 have HK2 := Lib.hid (HK1.out.below hb2 HK1.out.lt)
 clear hb2 HC a0 a1 a2 a3 a4 HB1 HZ1 HK1
 obtain ⟨a0, a1, a2, a3, a4⟩ := Blk.c5 HK2.out
 have HC := Lib.hid (HFW.out w2 HZ2.out)
 go_wp2_with fail
 refine HC.out.mono ?_
 rintro _ w3 ⟨fb, rfl, hb3⟩
 have HB3 := Lib.hid (HB2.out.trans (hb3.mono HB2.out.size))
 have HZ3 := Lib.hid ((HZ2.out.below hb3).more hb3.size)
 have HK3 := Lib.hid (HK2.out.below hb3 HK2.out.lt)
 clear hb3 HC a0 a1 a2 a3 a4 HB2 HZ2 HK2
 obtain ⟨a0, a1, a2, a3, a4⟩ := Blk.c5 HK3.out
 cases fb with
 | false =>
  have HC := Lib.hid (HKN.out w3)
  go_wp2_with fail
  refine HC.out.mono ?_
  rintro _ w4 ⟨rfl, hb4⟩
  have HB4 := Lib.hid (HB3.out.trans (hb4.mono HB3.out.size))
  clear HC hb4 a0 a1 a2 a3 a4
  go_wp2
  go_ret
  exact ⟨rfl, HB4.out⟩
 | true =>
 have HC := Lib.hid (HCK.out w3 HZ3.out)
 go_wp2_with fail
 refine HC.out.mono ?_
 rintro _ w4 ⟨rfl, hb4⟩
 have HB4 := Lib.hid (HB3.out.trans (hb4.mono HB3.out.size))
 have HZ4 := Lib.hid ((HZ3.out.below hb4).more hb4.size)
 have HK4 := Lib.hid (HK3.out.below hb4 HK3.out.lt)
 clear hb4 HC a0 a1 a2 a3 a4 HB3 HZ3 HK3
 obtain ⟨a0, a1, a2, a3, a4⟩ := Blk.c5 HK4.out
 have HC := Lib.hid (HDC.out w4 HZ4.out)
 go_wp2_with fail
 refine HC.out.mono ?_
 rintro _ w5 ⟨rfl, hb5⟩
 have HB5 := Lib.hid (HB4.out.trans (hb5.mono HB4.out.size))
 have HZ5 := Lib.hid ((HZ4.out.below hb5).more hb5.size)
 have HK5 := Lib.hid (HK4.out.below hb5 HK4.out.lt)
 clear hb5 HC a0 a1 a2 a3 a4 HB4 HZ4 HK4
 obtain ⟨a0, a1, a2, a3, a4⟩ := Blk.c5 HK5.out
 by_cases h0 : r = 0
 ·subst h0
  go_wp2
  go_ret
  exact ⟨rfl, HB5.out⟩
 have e0 : (r == 0) = false := by simpa using h0
 have HN := Lib.hid h0
 clear h0
 have HC := Lib.hid (HLV.out HN.out w5 HZ5.out)
 go_wp2_with fail
 refine HC.out.mono ?_
 rintro _ w6 ⟨rfl, hb6⟩
 have HB6 := Lib.hid (HB5.out.trans (hb6.mono HB5.out.size))
 have HZ6 := Lib.hid ((HZ5.out.below hb6).more hb6.size)
 have HK6 := Lib.hid (HK5.out.below hb6 HK5.out.lt)
 clear hb6 HC a0 a1 a2 a3 a4 HB5 HZ5 HK5
 obtain ⟨a0, a1, a2, a3, a4⟩ := Blk.c5 HK6.out
 have HC := Lib.hid (HQT.out HN.out w6 HZ6.out)
 go_wp2_with fail
 refine HC.out.mono ?_
 rintro _ w7 ⟨rfl, hb7⟩
 have HB7 := Lib.hid (HB6.out.trans (hb7.mono HB6.out.size))
 have HZ7 := Lib.hid ((HZ6.out.below hb7).more hb7.size)
 have HK7 := Lib.hid (HK6.out.below hb7 HK6.out.lt)
 clear hb7 HC a0 a1 a2 a3 a4 HB6 HZ6 HK6
 obtain ⟨a0, a1, a2, a3, a4⟩ := Blk.c5 HK7.out
 have HC := Lib.hid (HTW.out HN.out w7 HZ7.out)
 go_wp2_with fail
 refine HC.out.mono ?_
 rintro _ w8 ⟨rfl, hb8⟩
 have HB8 := Lib.hid (HB7.out.trans (hb8.mono HB7.out.size))
 have HZ8 := Lib.hid ((HZ7.out.below hb8).more hb8.size)
 have HK8 := Lib.hid (HK7.out.below hb8 HK7.out.lt)
 clear hb8 HC a0 a1 a2 a3 a4 HB7 HZ7 HK7
 obtain ⟨a0, a1, a2, a3, a4⟩ := Blk.c5 HK8.out
 have HC := Lib.hid (HDG.out HN.out w8 HZ8.out)
 go_wp2_with fail
 refine HC.out.mono ?_
 rintro _ w9 ⟨rfl, hb9⟩
 have HB9 := Lib.hid (HB8.out.trans (hb9.mono HB8.out.size))
 have HZ9 := Lib.hid ((HZ8.out.below hb9).more hb9.size)
 have HK9 := Lib.hid (HK8.out.below hb9 HK8.out.lt)
 clear hb9 HC a0 a1 a2 a3 a4 HB8 HZ8 HK8
 obtain ⟨a0, a1, a2, a3, a4⟩ := Blk.c5 HK9.out
 have HC := Lib.hid (HRK.out HN.out w9 HZ9.out)
 go_wp2_with fail
 refine HC.out.mono ?_
 rintro _ w10 ⟨rfl, hb10⟩
 have HB10 := Lib.hid (HB9.out.trans (hb10.mono HB9.out.size))
 have HZ10 := Lib.hid ((HZ9.out.below hb10).more hb10.size)
 have HK10 := Lib.hid (HK9.out.below hb10 HK9.out.lt)
 clear hb10 HC a0 a1 a2 a3 a4 HB9 HZ9 HK9
 obtain ⟨a0, a1, a2, a3, a4⟩ := Blk.c5 HK10.out
 have HC := Lib.hid (HLS.out HN.out w10 HZ10.out)
 go_wp2_with fail
 refine HC.out.mono ?_
 rintro _ w11 ⟨rfl, hb11⟩
 have HB11 := Lib.hid (HB10.out.trans (hb11.mono HB10.out.size))
 have HZ11 := Lib.hid ((HZ10.out.below hb11).more hb11.size)
 have HK11 := Lib.hid (HK10.out.below hb11 HK10.out.lt)
 clear hb11 HC a0 a1 a2 a3 a4 HB10 HZ10 HK10
 obtain ⟨a0, a1, a2, a3, a4⟩ := Blk.c5 HK11.out
 have hbl := box_below w11 (.cells #[.slice none 0 0, .slice none 0 0, .slice none 0 0, .slice none 0 0] 71)
 have HB12 := Lib.hid (HB11.out.trans (hbl.mono HB11.out.size))
 have HZ12 := Lib.hid ((HZ11.out.below hbl).more hbl.size)
 have HK12 := Lib.hid (HK11.out.below hbl HK11.out.lt)
 clear hbl
 go_upto_region 14 with fail
 clear a0 a1 a2 a3 a4 HB11 HZ11 HK11
 generalize w11.alloc (.cells #[.slice none 0 0, .slice none 0 0, .slice none 0 0, .slice none 0 0] 71) = w12 at HB12 HZ12 HK12 ⊢
 obtain ⟨a0, a1, a2, a3, a4⟩ := Blk.c5 HK12.out
 have HC := Lib.hid (HVF.out HN.out w12 HZ12.out)
 go_wp2_with fail
 refine HC.out.mono ?_
 rintro _ w13 ⟨rfl, hb13⟩
 have HB13 := Lib.hid (HB12.out.trans (hb13.mono HB12.out.size))
 have HZ13 := Lib.hid ((HZ12.out.below hb13).more hb13.size)
 have HK13 := Lib.hid (HK12.out.below hb13 HK12.out.lt)
 clear hb13 HC a0 a1 a2 a3 a4 HB12 HZ12 HK12
 obtain ⟨a0, a1, a2, a3, a4⟩ := Blk.c5 HK13.out
 have HC := Lib.hid (HEX.out HN.out w13 HZ13.out)
 go_wp2_with fail
 refine HC.out.mono ?_
 rintro _ w14 ⟨rfl, hb14⟩
 have HB14 := Lib.hid (HB13.out.trans (hb14.mono HB13.out.size))
 have HZ14 := Lib.hid ((HZ13.out.below hb14).more hb14.size)
 have HK14 := Lib.hid (HK13.out.below hb14 HK13.out.lt)
 clear hb14 HC a0 a1 a2 a3 a4 HB13 HZ13 HK13
 obtain ⟨a0, a1, a2, a3, a4⟩ := Blk.c5 HK14.out
 go_wp2
 go_ret
 exact ⟨rfl, HB14.out⟩
end Go.Proofs.Ytddhaidimadliaa

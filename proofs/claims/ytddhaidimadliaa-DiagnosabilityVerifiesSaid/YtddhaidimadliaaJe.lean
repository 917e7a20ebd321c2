/- Walks: diagnosability's Quiet, settled. Printed by wip/mkje.py. -/
import Derived.Test.YtddhaidimadliaaJd
namespace Go.Proofs.Ytddhaidimadliaa
open Go.RowKit Go

theorem dmE_ev {z : DV} (h : dmE z = 0) : chkE z.l = 0 := by
 unfold dmE at h
 by_cases h1 : chkE z.l ≠ 0
 ·rw [if_pos h1] at h; exact absurd h h1
 exact Classical.not_not.1 h1
theorem chkE_len {l : List Ev} (h : chkE l = 0) : l.length ≤ 32 := by
 unfold chkE at h
 by_cases h1 : 32 < l.length
 ·rw [if_pos h1] at h; cases h
 ·omega
/-- the events of a kind -/
def kndL (z : DV) (k : Int) : List Int := chsL (selP k) z.l z.nv
theorem chsL_rng {p : Ev → Bool} {l : List Ev} {n : Nat} : Inc (chsL p l n) ∧ ∀ v ∈ chsL p l n, 0 ≤ v ∧ v < (n : Int) :=
 ⟨List.Pairwise.filter _ (rng_inc _), fun _ hv => rngI_mem.1 (List.mem_filter.1 hv).1⟩
set_option maxRecDepth 100000 in
set_option maxHeartbeats 1600000 in
theorem dm_Quiet (z : DV) (w : World) (h : z.ok w w.heap.size) (hd : dmE z = 0) :
  Calls Try.prog 17 #[.agg (dvc z).toArray] w (RetCyc (cycF z.x.a (kndL z 4)) w) := by
 have hw := dmE_wf hd
 have hce := dmE_ev hd
 have hln := chkE_len hce
 have hll := h.ll
 obtain ⟨⟨A, na, ca, M, nm, cm, E, ne, ce, a⟩, V, nv, cv, l⟩ := z
 have hb1 := box_below w (.cells #[.slice A na ca, .int .i64 a.st, .slice M nm cm, .slice E ne ce, .slice V nv cv] 37)
 obtain ⟨w1, hw1⟩ : ∃ w1, w1 = w.alloc (.cells #[.slice A na ca, .int .i64 a.st, .slice M nm cm, .slice E ne ce, .slice V nv cv] 37) := ⟨_, rfl⟩
 have kx : Blk w1 w.heap.size 37 [.slice A na ca, .int .i64 a.st, .slice M nm cm, .slice E ne ce, .slice V nv cv] := by rw [hw1]; exact Blk.new _ _ [_, _, _, _, _]
 rw [← hw1] at hb1
 have HK := Lib.hid (fun (W : World) (hb : Below w1.heap.size w1 W) => kx.below hb kx.lt)
 have HOK := Lib.hid (fun (W : World) (hb : Below w1.heap.size w1 W) => (h.below (hb1.trans (hb.mono hb1.size))).more (hb1.trans (hb.mono hb1.size)).size)
 have lx := kx.lt
 clear kx h
 dsimp only at hw hce hln hll
 have HC := Lib.hid (dm_Check _ 0 w1 (HOK.out w1 (Below.refl _ _)) hd)
 unfold dvc at HC ⊢
 unfold kndL
 dsimp only at HC ⊢
 obtain ⟨sv, hsv⟩ : ∃ s, a.st = s := ⟨_, rfl⟩
 have HSL := Lib.hid (fun (W : World) (hb : Below w1.heap.size w1 W) => alphabet_Select V cv nv l 4 W hll (HOK.out W hb).rl (.inr rfl) hce (by omega))
 obtain ⟨ev, hev⟩ : ∃ v, chsL (selP 4) l nv = v := ⟨_, rfl⟩
 have HEV := Lib.hid (show Inc ev ∧ ∀ v ∈ ev, 0 ≤ v ∧ v < 32 from by
  rw [← hev]
  exact ⟨chsL_rng.1, fun v hv => by have := chsL_rng.2 v hv; omega⟩)
 rw [hev] at HSL ⊢
 obtain ⟨R, hR⟩ : ∃ R, cycF a ev = R := ⟨_, rfl⟩
 rw [hR]
 have HCY := Lib.hid (fun (W : World) (hb : Below w1.heap.size w1 W) => (show ∀ (S : Option Addr) (cs : Nat), RdI W W.heap.size S ev → ev.length ≤ cs → cs ≤ 9223372036854775807 → Calls Try.prog 60 #[.agg #[.slice A na ca, .int .i64 a.st, .slice M nm cm, .slice E ne ce], .slice S ev.length cs] W (RetCyc R W) from fun S cs hS h1 h2 =>
  reach_Cycle ⟨A, na, ca, M, nm, cm, E, ne, ce, a⟩ W a.st.toNat (HOK.out W hb).x hw (show a.st = (a.st.toNat : Int) by have := hw.st0; omega) S ev.length cs ev rfl hS h1 h2 (setErr_mk HEV.out.1 HEV.out.2) HEV.out.2 R hR))
 rw [hsv] at hw1 HK HC HCY ⊢
 have k0 := HK.out w1 (Below.refl _ _)
 have a0 := k0.cell (j := 0) rfl
 have a1 := k0.cell (j := 1) rfl
 have a2 := k0.cell (j := 2) rfl
 have a3 := k0.cell (j := 3) rfl
 have a4 := k0.cell (j := 4) rfl
 clear k0
 have HW1 := Lib.hid hw1; clear hw1
 have HB1 := Lib.hid hb1; clear hb1
 clear hsv hd hw hev hR hce hln
 go_enter Try.func17, Try.ntmps17
 go_wp2_with fail
 rw [← HW1.out]
 refine HC.out.mono ?_
 rintro e w2 ⟨rfl, hb2⟩
 have HB2 := Lib.hid (HB1.out.trans (hb2.mono HB1.out.size))
 have HB12 := Lib.hid hb2
 clear a0 a1 a2 a3 a4 HC hb2
 have k0 := HK.out w2 HB12.out
 have a0 := k0.cell (j := 0) rfl
 have a1 := k0.cell (j := 1) rfl
 have a2 := k0.cell (j := 2) rfl
 have a3 := k0.cell (j := 3) rfl
 have a4 := k0.cell (j := 4) rfl
 clear k0
 clear a0 a1 a2 a3
 have HS2 := Lib.hid (HSL.out w2 HB12.out)
 go_wp2_with fail
 refine HS2.out.mono ?_
 rintro e w3 ⟨v3, rfl, ho3, hb3⟩
 obtain ⟨SA, sc, rfl, p1, p2, rd⟩ := own_slI ho3
 have HRD := Lib.hid rd
 have HB3 := Lib.hid (HB2.out.trans (hb3.mono HB2.out.size))
 have HB13 := Lib.hid (HB12.out.trans (hb3.mono HB12.out.size))
 clear a4 HS2 HSL ho3 rd hb3
 have k0 := HK.out w3 HB13.out
 have a0 := k0.cell (j := 0) rfl
 have a1 := k0.cell (j := 1) rfl
 have a2 := k0.cell (j := 2) rfl
 have a3 := k0.cell (j := 3) rfl
 clear k0
 have HY := Lib.hid (HCY.out w3 HB13.out SA sc HRD.out p1 p2)
 go_wp2_with fail
 refine HY.out.mono ?_
 rintro e w4 ⟨pv, cv4, rfl, hop, hoc, hb4⟩
 have HF := Lib.hid (And.intro (own_base hop HB3.out.size) (And.intro (own_base hoc HB3.out.size) (HB3.out.trans (hb4.mono HB3.out.size))))
 obtain ⟨fd, hfd⟩ : ∃ f, R.2 = f := ⟨_, rfl⟩
 rw [hfd]
 have HFD := Lib.hid hfd; clear hfd
 clear a0 a1 a2 a3 HY HCY hop hoc hb4 p1 p2
 go_wp2
 refine bodyPost_ret (v := .tuple #[pv, cv4, .bool fd, .int .i64 0]) (by simp [results, Try.results17, go_sem]) rfl ?_
 exact ⟨_, _, by rw [HFD.out], HF.out⟩
/-- the error of a model and a class whose faults are to be diagnosed -/
def stlE (z : DV) (c : Int) : Int := if clsE z c ≠ 0 then clsE z c else if (liveR z.x.a).2 = true ∧ (cycF z.x.a (kndL z 4)).2 = false then 0 else 25
theorem clsE_dm {z : DV} {c : Int} (h : clsE z c = 0) : dmE z = 0 := by
 unfold clsE at h
 by_cases h1 : dmE z ≠ 0
 ·rw [if_pos h1] at h; exact absurd h h1
 exact Classical.not_not.1 h1
set_option maxRecDepth 100000 in
set_option maxHeartbeats 1600000 in
theorem dm_settled (z : DV) (c r : Int) (w : World) (h : z.ok w w.heap.size) (hr : stlE z c = r) :
  Calls Try.prog 106 #[.agg (dvc z).toArray, .int .i64 c] w fun e w' => e = .returned (.int .i64 r) ∧ Below w.heap.size w w' := by
 obtain ⟨re, hre⟩ : ∃ r, clsE z c = r := ⟨_, rfl⟩
 unfold stlE at hr
 rw [hre] at hr
 have HLV := Lib.hid (fun (W : World) (hz : z.ok W W.heap.size) (h0 : re = 0) => dm_Live z W hz (clsE_dm (hre.trans h0)))
 have HQT := Lib.hid (fun (W : World) (hz : z.ok W W.heap.size) (h0 : re = 0) => dm_Quiet z W hz (clsE_dm (hre.trans h0)))
 obtain ⟨L, hL⟩ : ∃ L, liveR z.x.a = L := ⟨_, rfl⟩
 obtain ⟨Y, hY⟩ : ∃ Y, cycF z.x.a (kndL z 4) = Y := ⟨_, rfl⟩
 rw [hL] at HLV hr
 rw [hY] at HQT hr
 clear hL hY
 have HC0 := Lib.hid (fun (W : World) (hz : z.ok W W.heap.size) => dm_classed z c re W hz hre)
 clear hre
 obtain ⟨⟨A, na, ca, M, nm, cm, E, ne, ce, a⟩, V, nv, cv, l⟩ := z
 have hb1 := box_below w (.cells #[.slice A na ca, .int .i64 a.st, .slice M nm cm, .slice E ne ce, .slice V nv cv] 37)
 obtain ⟨w1, hw1⟩ : ∃ w1, w1 = w.alloc (.cells #[.slice A na ca, .int .i64 a.st, .slice M nm cm, .slice E ne ce, .slice V nv cv] 37) := ⟨_, rfl⟩
 have kx : Blk w1 w.heap.size 37 [.slice A na ca, .int .i64 a.st, .slice M nm cm, .slice E ne ce, .slice V nv cv] := by rw [hw1]; exact Blk.new _ _ [_, _, _, _, _]
 rw [← hw1] at hb1
 have HK := Lib.hid (fun (W : World) (hb : Below w1.heap.size w1 W) => kx.below hb kx.lt)
 have HOK := Lib.hid (fun (W : World) (hb : Below w1.heap.size w1 W) => (h.below (hb1.trans (hb.mono hb1.size))).more (hb1.trans (hb.mono hb1.size)).size)
 have lx := kx.lt
 clear kx h
 unfold dvc at HLV HQT HC0 ⊢
 dsimp only at HLV HQT HC0 ⊢
 obtain ⟨sv, hsv⟩ : ∃ s, a.st = s := ⟨_, rfl⟩
 rw [hsv] at hw1 HK HC0 HLV HQT ⊢
 have k0 := HK.out w1 (Below.refl _ _)
 have a0 := k0.cell (j := 0) rfl
 have a1 := k0.cell (j := 1) rfl
 have a2 := k0.cell (j := 2) rfl
 have a3 := k0.cell (j := 3) rfl
 have a4 := k0.cell (j := 4) rfl
 clear k0
 have HC := Lib.hid (HC0.out w1 (HOK.out w1 (Below.refl _ _)))
 have HW1 := Lib.hid hw1; clear hw1
 have HB1 := Lib.hid hb1; clear hb1
 have HR := Lib.hid hr; clear hr
 clear hsv HC0
 go_enter Try.func106, Try.ntmps106
 go_wp2_with fail
 rw [← HW1.out]
 refine HC.out.mono ?_
 rintro e w2 ⟨rfl, hb2⟩
 have HB2 := Lib.hid (HB1.out.trans (hb2.mono HB1.out.size))
 have HB12 := Lib.hid hb2
 clear a0 a1 a2 a3 a4 HC hb2
 by_cases h1 : re = 0
 ·have HL2 := Lib.hid (HLV.out w2 (HOK.out w2 HB12.out) h1)
  subst h1
  have k0 := HK.out w2 HB12.out
  have a0 := k0.cell (j := 0) rfl
  have a1 := k0.cell (j := 1) rfl
  have a2 := k0.cell (j := 2) rfl
  have a3 := k0.cell (j := 3) rfl
  have a4 := k0.cell (j := 4) rfl
  clear k0
  go_wp2_with fail
  refine HL2.out.mono ?_
  rintro e w3 ⟨v3, rfl, _, hb3⟩
  have HB3 := Lib.hid (HB2.out.trans (hb3.mono HB2.out.size))
  have HB13 := Lib.hid (HB12.out.trans (hb3.mono HB12.out.size))
  clear a0 a1 a2 a3 a4 HL2 HLV hb3
  have k0 := HK.out w3 HB13.out
  have a0 := k0.cell (j := 0) rfl
  have a1 := k0.cell (j := 1) rfl
  have a2 := k0.cell (j := 2) rfl
  have a3 := k0.cell (j := 3) rfl
  have a4 := k0.cell (j := 4) rfl
  clear k0
  have HQ2 := Lib.hid (HQT.out w3 (HOK.out w3 HB13.out) (by simp))
  obtain ⟨lv, hlv⟩ : ∃ b, L.2 = b := ⟨_, rfl⟩
  rw [hlv] at HR ⊢
  go_wp2_with fail
  refine HQ2.out.mono ?_
  rintro e w4 ⟨pv, cv4, rfl, _, _, hb4⟩
  have HB4 := Lib.hid (HB3.out.trans (hb4.mono HB3.out.size))
  obtain ⟨qt, hqt⟩ : ∃ b, Y.2 = b := ⟨_, rfl⟩
  rw [hqt] at HR ⊢
  clear a0 a1 a2 a3 a4 HQ2 HQT hb4 hlv hqt
  cases lv <;> cases qt
  ·have HR2 := Lib.hid (show r = 25 from HR.out.symm.trans (by simp))
   go_wp2
   go_ret
   exact ⟨ret_int HR2.out.symm, HB4.out⟩
  ·have HR2 := Lib.hid (show r = 25 from HR.out.symm.trans (by simp))
   go_wp2
   go_ret
   exact ⟨ret_int HR2.out.symm, HB4.out⟩
  ·have HR2 := Lib.hid (show r = 0 from HR.out.symm.trans (by simp))
   go_wp2
   go_ret
   exact ⟨ret_int HR2.out.symm, HB4.out⟩
  ·have HR2 := Lib.hid (show r = 25 from HR.out.symm.trans (by simp))
   go_wp2
   go_ret
   exact ⟨ret_int HR2.out.symm, HB4.out⟩
 ·have e1 : (re != 0) = true := by simpa using h1
  have HR2 := Lib.hid (show re = r by have h9 := HR.out; rw [if_pos h1] at h9; exact h9)
  clear h1
  go_wp2
  go_ret
  exact ⟨ret_int HR2.out, HB2.out⟩
end Go.Proofs.Ytddhaidimadliaa

/- The law ControllableErrors: its walk. -/
import Derived.Test.YtcchnibgehonoaaDoorDh
namespace Go.Proofs.YtcchnibgehonoaaDoor
open Go.RowKit Go Go.Maps

theorem prob_of {P R : Aut} {u : List Int} (h : prbE P R u = 0) (hp : P.st ≤ 60) (hr : R.st ≤ 60) : ∃ p T, Prob P R u p T := by
 obtain ⟨h1, h2, h3, h4⟩ := prbE_zero h
 have wp := chkA_wf h1
 have wr := chkA_wf h2
 have hw : ∀ a ∈ [P, R], WF a := fun a ha => by simp at ha; rcases ha with rfl | rfl <;> assumption
 have hs : ∀ a ∈ [P, R], a.st ≤ 100 := fun a ha => by simp at ha; rcases ha with rfl | rfl <;> omega
 have hf : FewL [P, R] := FewL.of_prod hw hs (by simp) (by
  show P.st.toNat * (R.st.toNat * 1) ≤ 4096
  have := Nat.mul_le_mul (show P.st.toNat ≤ 60 by omega) (show R.st.toNat * 1 ≤ 60 by omega)
  omega)
 obtain ⟨p, T, hq⟩ := hf.syn
 exact ⟨p, T, wp, wr, (setErr_inc h3).1, (setErr_inc h3).2, h, hp, hr, hq⟩
theorem Prob.pz {P R p : Aut} {u : List Int} {T : List (List Int)} (h : Prob P R u p T) (hn : T.length ≠ 0) : P.st ≠ 0 ∧ R.st ≠ 0 := by
 have hs := h.syn
 have key : noSt [P, R] = false := by
  cases hq : noSt [P, R] with
  | false => rfl
  | true =>
   unfold synR at hs
   rw [if_pos hq] at hs
   injection hs with hs
   injection hs with _ hs
   subst hs
   exact absurd rfl hn
 unfold noSt at key
 simp at key
 exact key
theorem fewB_st {a : Aut} (h : fewB a = true) (hc : chkA a = 0) : a.st ≤ 60 := by
 unfold fewB at h
 simp [hc] at h
 exact h.2.2.2

set_option maxRecDepth 100000 in
set_option maxHeartbeats 6400000 in
theorem errors_walk (A M E A' M' E' : Option Addr) (na ca nm cm ne ce na' ca' nm' cm' ne' ce' : Nat) (P R : Aut) (U : Option Addr) (cu nu : Nat) (u : List Int) (w : World) (hx : AutR w w.heap.size A na ca M nm cm E ne ce P) (hy : AutR w w.heap.size A' na' ca' M' nm' cm' E' ne' ce' R)
  (hul : u.length = nu) (hu : RdI w w.heap.size U u) (hu1 : nu ≤ cu) (hu2 : cu ≤ 9223372036854775807) :
  Calls Tryd.prog 3 #[.agg #[.slice A na ca, .int .i64 P.st, .slice M nm cm, .slice E ne ce], .agg #[.slice A' na' ca', .int .i64 R.st, .slice M' nm' cm', .slice E' ne' ce'], .slice U nu cu] w fun e w' => e = .returned (.bool true) ∧ Below w.heap.size w w' := by
 obtain ⟨sp, hsp⟩ : ∃ s, P.st = s := ⟨_, rfl⟩
 obtain ⟨sr, hsr⟩ : ∃ s, R.st = s := ⟨_, rfl⟩
 rw [hsp, hsr]
 have hb1 := box_below w (.cells #[.slice A na ca, .int .i64 sp, .slice M nm cm, .slice E ne ce] 25)
 have hb2 := hb1.alloc hb1.size (.cells #[.slice A' na' ca', .int .i64 sr, .slice M' nm' cm', .slice E' ne' ce'] 25)
 obtain ⟨w1, hw1⟩ : ∃ w1, w1 = ((w.alloc (.cells #[.slice A na ca, .int .i64 sp, .slice M nm cm, .slice E ne ce] 25)).alloc (.cells #[.slice A' na' ca', .int .i64 sr, .slice M' nm' cm', .slice E' ne' ce'] 25)) := ⟨_, rfl⟩
 have kx : Blk w1 w.heap.size 25 [.slice A na ca, .int .i64 sp, .slice M nm cm, .slice E ne ce] := by rw [hw1]; exact (Blk.new _ _ [_, _, _, _]).al _
 have ky : Blk w1 (w.heap.size + 1) 25 [.slice A' na' ca', .int .i64 sr, .slice M' nm' cm', .slice E' ne' ce'] := by rw [hw1]; exact Blk.at_ _ _ [_, _, _, _] (by simp)
 rw [← hw1] at hb2
 have HXW := Lib.hid (fun (W : World) (hb : Below w1.heap.size w1 W) => (((hx.below hb2).more hb2.size).below hb).more hb.size)
 have HYW := Lib.hid (fun (W : World) (hb : Below w1.heap.size w1 W) => (((hy.below hb2).more hb2.size).below hb).more hb.size)
 have HUW := Lib.hid (fun (W : World) (hb : Below w1.heap.size w1 W) => (((hu.below hb2).more hb2.size).below hb).more hb.size)
 have HC := Lib.hid (law_known26 w1)
 have HW1 := Lib.hid hw1; clear hw1
 have HB1 := Lib.hid hb2; clear hb2
 have KX := Lib.hid kx; clear kx
 have KY := Lib.hid ky; clear ky
 have HSP := Lib.hid hsp; clear hsp
 have HSR := Lib.hid hsr; clear hsr
 have HUL := Lib.hid hul; clear hul
 clear hb1 hx hy hu
 go_enter Tryd.func3, Tryd.ntmps3
 go_wp2_with fail
 rw [← HW1.out]
 refine HC.out.mono ?_
 rintro e w2 ⟨rfl, hb⟩
 have HB2 := Lib.hid hb; clear hb
 clear HC
 cases hf1 : fewB P with
 | false =>
  have HC := Lib.hid (law_few26 A na ca M nm cm E ne ce P w2 (HXW.out w2 HB2.out) false hf1)
  rw [HSP.out] at HC
  have kx := KX.out.below HB2.out KX.out.lt
  have ky := KY.out.below HB2.out KY.out.lt
  have a0 := kx.cell (j := 0) rfl
  have a1 := kx.cell (j := 1) rfl
  have a2 := kx.cell (j := 2) rfl
  have a3 := kx.cell (j := 3) rfl
  have b0 := ky.cell (j := 0) rfl
  have b1 := ky.cell (j := 1) rfl
  have b2 := ky.cell (j := 2) rfl
  have b3 := ky.cell (j := 3) rfl
  have la := kx.lt
  have lb := ky.lt
  clear kx ky
  go_wp2_with fail
  refine HC.out.mono ?_
  rintro e w3 ⟨rfl, hb⟩
  have HB3 := Lib.hid (HB2.out.trans (hb.mono HB2.out.size))
  clear a0 a1 a2 a3 b0 b1 b2 b3 la lb HC
  clear hb
  have HC := Lib.hid (law_known26 w3)
  go_wp2_with fail
  refine HC.out.mono ?_
  rintro e wz ⟨rfl, hb⟩
  have HF := Lib.hid (HB1.out.trans ((HB3.out.trans (hb.mono HB3.out.size)).mono HB1.out.size))
  clear hb HC
  go_wp2
  go_ret
  exact ⟨rfl, HF.out⟩
 | true =>
  have HC := Lib.hid (law_few26 A na ca M nm cm E ne ce P w2 (HXW.out w2 HB2.out) true hf1)
  rw [HSP.out] at HC
  have kx := KX.out.below HB2.out KX.out.lt
  have ky := KY.out.below HB2.out KY.out.lt
  have a0 := kx.cell (j := 0) rfl
  have a1 := kx.cell (j := 1) rfl
  have a2 := kx.cell (j := 2) rfl
  have a3 := kx.cell (j := 3) rfl
  have b0 := ky.cell (j := 0) rfl
  have b1 := ky.cell (j := 1) rfl
  have b2 := ky.cell (j := 2) rfl
  have b3 := ky.cell (j := 3) rfl
  have la := kx.lt
  have lb := ky.lt
  clear kx ky
  go_wp2_with fail
  refine HC.out.mono ?_
  rintro e w3 ⟨rfl, hb⟩
  have HB3 := Lib.hid (HB2.out.trans (hb.mono HB2.out.size))
  clear a0 a1 a2 a3 b0 b1 b2 b3 la lb HC
  clear hb
  cases hf2 : fewB R with
  | false =>
   have HC := Lib.hid (law_few26 A' na' ca' M' nm' cm' E' ne' ce' R w3 (HYW.out w3 HB3.out) false hf2)
   rw [HSR.out] at HC
   have kx := KX.out.below HB3.out KX.out.lt
   have ky := KY.out.below HB3.out KY.out.lt
   have a0 := kx.cell (j := 0) rfl
   have a1 := kx.cell (j := 1) rfl
   have a2 := kx.cell (j := 2) rfl
   have a3 := kx.cell (j := 3) rfl
   have b0 := ky.cell (j := 0) rfl
   have b1 := ky.cell (j := 1) rfl
   have b2 := ky.cell (j := 2) rfl
   have b3 := ky.cell (j := 3) rfl
   have la := kx.lt
   have lb := ky.lt
   clear kx ky
   go_wp2_with fail
   refine HC.out.mono ?_
   rintro e w4 ⟨rfl, hb⟩
   have HB4 := Lib.hid (HB3.out.trans (hb.mono HB3.out.size))
   clear a0 a1 a2 a3 b0 b1 b2 b3 la lb HC
   clear hb
   have HC := Lib.hid (law_known26 w4)
   go_wp2_with fail
   refine HC.out.mono ?_
   rintro e wz ⟨rfl, hb⟩
   have HF := Lib.hid (HB1.out.trans ((HB4.out.trans (hb.mono HB4.out.size)).mono HB1.out.size))
   clear hb HC
   go_wp2
   go_ret
   exact ⟨rfl, HF.out⟩
  | true =>
   have HC := Lib.hid (law_few26 A' na' ca' M' nm' cm' E' ne' ce' R w3 (HYW.out w3 HB3.out) true hf2)
   rw [HSR.out] at HC
   have kx := KX.out.below HB3.out KX.out.lt
   have ky := KY.out.below HB3.out KY.out.lt
   have a0 := kx.cell (j := 0) rfl
   have a1 := kx.cell (j := 1) rfl
   have a2 := kx.cell (j := 2) rfl
   have a3 := kx.cell (j := 3) rfl
   have b0 := ky.cell (j := 0) rfl
   have b1 := ky.cell (j := 1) rfl
   have b2 := ky.cell (j := 2) rfl
   have b3 := ky.cell (j := 3) rfl
   have la := kx.lt
   have lb := ky.lt
   clear kx ky
   go_wp2_with fail
   refine HC.out.mono ?_
   rintro e w4 ⟨rfl, hb⟩
   have HB4 := Lib.hid (HB3.out.trans (hb.mono HB3.out.size))
   clear a0 a1 a2 a3 b0 b1 b2 b3 la lb HC
   clear hb
   by_cases hn12 : nu ≤ 12
   ·have d0 : ¬ (12 : Int) < (nu : Int) := by omega
    obtain ⟨r, hr⟩ : ∃ r, prbE P R u = r := ⟨_, rfl⟩
    have HC := Lib.hid (law_problem A M E A' M' E' na ca nm cm ne ce na' ca' nm' cm' ne' ce' P R U cu nu u w4 (HXW.out w4 HB4.out) (HYW.out w4 HB4.out) HUL.out (HUW.out w4 HB4.out) hu1 hu2 r hr)
    rw [HSP.out, HSR.out] at HC
    have HR := Lib.hid hr; clear hr
    have kx := KX.out.below HB4.out KX.out.lt
    have ky := KY.out.below HB4.out KY.out.lt
    have a0 := kx.cell (j := 0) rfl
    have a1 := kx.cell (j := 1) rfl
    have a2 := kx.cell (j := 2) rfl
    have a3 := kx.cell (j := 3) rfl
    have b0 := ky.cell (j := 0) rfl
    have b1 := ky.cell (j := 1) rfl
    have b2 := ky.cell (j := 2) rfl
    have b3 := ky.cell (j := 3) rfl
    have la := kx.lt
    have lb := ky.lt
    clear kx ky
    go_wp2_with fail
    refine HC.out.mono ?_
    rintro e w5 ⟨rfl, hb⟩
    have HB5 := Lib.hid (HB4.out.trans (hb.mono HB4.out.size))
    clear a0 a1 a2 a3 b0 b1 b2 b3 la lb HC
    clear hb
    by_cases hz : r = 0
    ·subst hz
     obtain ⟨z1, z2, _, _⟩ := prbE_zero HR.out
     obtain ⟨p, T, hp⟩ := prob_of HR.out (fewB_st hf1 z1) (fewB_st hf2 z2)
     obtain ⟨n, hn⟩ : ∃ n, T.length = n := ⟨_, rfl⟩
     clear z1 z2
     have HC := Lib.hid (check_ok A M E A' M' E' na ca nm cm ne ce na' ca' nm' cm' ne' ce' P R U cu nu u w5 (HXW.out w5 HB5.out) (HYW.out w5 HB5.out) HUL.out (HUW.out w5 HB5.out) hu1 hu2 p T hp n hn)
     rw [HSP.out, HSR.out] at HC
     have HP := Lib.hid hp; clear hp
     have HN := Lib.hid hn; clear hn
     have kx := KX.out.below HB5.out KX.out.lt
     have ky := KY.out.below HB5.out KY.out.lt
     have a0 := kx.cell (j := 0) rfl
     have a1 := kx.cell (j := 1) rfl
     have a2 := kx.cell (j := 2) rfl
     have a3 := kx.cell (j := 3) rfl
     have b0 := ky.cell (j := 0) rfl
     have b1 := ky.cell (j := 1) rfl
     have b2 := ky.cell (j := 2) rfl
     have b3 := ky.cell (j := 3) rfl
     have la := kx.lt
     have lb := ky.lt
     clear kx ky
     go_wp2_with fail
     refine HC.out.mono ?_
     rintro e w6 ⟨v6, rfl, _, hb⟩
     have HB6 := Lib.hid (HB5.out.trans (hb.mono HB5.out.size))
     clear a0 a1 a2 a3 b0 b1 b2 b3 la lb HC
     clear hb
     obtain ⟨q1, q2, q3⟩ := chkO P R (intS u P.al) p T n
     dsimp only
     have HC := Lib.hid (refusals_ok A M E A' M' E' na ca nm cm ne ce na' ca' nm' cm' ne' ce' P R U cu nu u w6 (HXW.out w6 HB6.out) (HYW.out w6 HB6.out) HUL.out (HUW.out w6 HB6.out) hu1 hu2 p T HP.out n HN.out)
     rw [HSP.out, HSR.out] at HC
     have kx := KX.out.below HB6.out KX.out.lt
     have ky := KY.out.below HB6.out KY.out.lt
     have a0 := kx.cell (j := 0) rfl
     have a1 := kx.cell (j := 1) rfl
     have a2 := kx.cell (j := 2) rfl
     have a3 := kx.cell (j := 3) rfl
     have b0 := ky.cell (j := 0) rfl
     have b1 := ky.cell (j := 1) rfl
     have b2 := ky.cell (j := 2) rfl
     have b3 := ky.cell (j := 3) rfl
     have la := kx.lt
     have lb := ky.lt
     clear kx ky
     go_wp2_with fail
     refine HC.out.mono ?_
     rintro e w7 ⟨v7, v8, rfl, _, _, hb⟩
     have HB7 := Lib.hid (HB6.out.trans (hb.mono HB6.out.size))
     clear a0 a1 a2 a3 b0 b1 b2 b3 la lb HC
     clear hb
     have HC := Lib.hid (supremal_ok A M E A' M' E' na ca nm cm ne ce na' ca' nm' cm' ne' ce' P R U cu nu u w7 (HXW.out w7 HB7.out) (HYW.out w7 HB7.out) HUL.out (HUW.out w7 HB7.out) hu1 hu2 p T HP.out n HN.out)
     rw [HSP.out, HSR.out] at HC
     have kx := KX.out.below HB7.out KX.out.lt
     have ky := KY.out.below HB7.out KY.out.lt
     have a0 := kx.cell (j := 0) rfl
     have a1 := kx.cell (j := 1) rfl
     have a2 := kx.cell (j := 2) rfl
     have a3 := kx.cell (j := 3) rfl
     have b0 := ky.cell (j := 0) rfl
     have b1 := ky.cell (j := 1) rfl
     have b2 := ky.cell (j := 2) rfl
     have b3 := ky.cell (j := 3) rfl
     have la := kx.lt
     have lb := ky.lt
     clear kx ky
     go_wp2_with fail
     refine HC.out.mono ?_
     rintro e w8 ⟨A8, na8, ca8, M8, nm8, cm8, E8, ne8, ce8, rfl, _, hb⟩
     have HB8 := Lib.hid (HB7.out.trans (hb.mono HB7.out.size))
     clear a0 a1 a2 a3 b0 b1 b2 b3 la lb HC
     clear hb
     generalize (supA P R (intS u P.al) p T n).st = s8
     have hbx := box_below w8 (.cells #[.slice A8 na8 ca8, .int .i64 s8, .slice M8 nm8 cm8, .slice E8 ne8 ce8] 25)
     have HB9 := Lib.hid (HB8.out.trans (hbx.mono HB8.out.size))
     go_upto_region 7 with fail
     obtain ⟨w9, hw9⟩ : ∃ w9, w9 = w8.alloc (.cells #[.slice A8 na8 ca8, .int .i64 s8, .slice M8 nm8 cm8, .slice E8 ne8 ce8] 25) := ⟨_, rfl⟩
     rw [← hw9] at HB9 ⊢
     clear hw9 hbx
     have HC := Lib.hid (infimal_ok A M E A' M' E' na ca nm cm ne ce na' ca' nm' cm' ne' ce' P R U cu nu u w9 (HXW.out w9 HB9.out) (HYW.out w9 HB9.out) HUL.out (HUW.out w9 HB9.out) hu1 hu2 p T HP.out n HN.out (fun h => HP.out.pz (by rw [HN.out]; exact h)))
     rw [HSP.out, HSR.out] at HC
     have kx := KX.out.below HB9.out KX.out.lt
     have ky := KY.out.below HB9.out KY.out.lt
     have a0 := kx.cell (j := 0) rfl
     have a1 := kx.cell (j := 1) rfl
     have a2 := kx.cell (j := 2) rfl
     have a3 := kx.cell (j := 3) rfl
     have b0 := ky.cell (j := 0) rfl
     have b1 := ky.cell (j := 1) rfl
     have b2 := ky.cell (j := 2) rfl
     have b3 := ky.cell (j := 3) rfl
     have la := kx.lt
     have lb := ky.lt
     clear kx ky
     go_wp2_with fail
     refine HC.out.mono ?_
     rintro e wa ⟨Aa, naa, caa, Ma, nma, cma, Ea, nea, cea, rfl, _, hb⟩
     have HF := Lib.hid (HB1.out.trans (((HB9.out.trans (hb.mono HB9.out.size)).trans ((box_below wa (.cells #[.slice Aa naa caa, .int .i64 (infA P R (intS u P.al) p).st, .slice Ma nma cma, .slice Ea nea cea] 25)).mono (HB9.out.trans (hb.mono HB9.out.size)).size)).mono HB1.out.size))
     generalize (infA P R (intS u P.al) p).st = s9 at HF ⊢
     clear a0 a1 a2 a3 b0 b1 b2 b3 la lb HC
     clear hb
     go_wp2
     go_ret
     exact ⟨rfl, HF.out⟩
    ·have d1 : (r == 0) = false := by simpa using hz
     have HC := Lib.hid (check_bad A M E A' M' E' na ca nm cm ne ce na' ca' nm' cm' ne' ce' P R U cu nu u w5 (HXW.out w5 HB5.out) (HYW.out w5 HB5.out) HUL.out (HUW.out w5 HB5.out) hu1 hu2 r HR.out hz)
     rw [HSP.out, HSR.out] at HC
     have HZ := Lib.hid hz
     clear hz
     have kx := KX.out.below HB5.out KX.out.lt
     have ky := KY.out.below HB5.out KY.out.lt
     have a0 := kx.cell (j := 0) rfl
     have a1 := kx.cell (j := 1) rfl
     have a2 := kx.cell (j := 2) rfl
     have a3 := kx.cell (j := 3) rfl
     have b0 := ky.cell (j := 0) rfl
     have b1 := ky.cell (j := 1) rfl
     have b2 := ky.cell (j := 2) rfl
     have b3 := ky.cell (j := 3) rfl
     have la := kx.lt
     have lb := ky.lt
     clear kx ky
     go_wp2_with fail
     refine HC.out.mono ?_
     rintro e w6 ⟨rfl, hb⟩
     have HB6 := Lib.hid (HB5.out.trans (hb.mono HB5.out.size))
     clear a0 a1 a2 a3 b0 b1 b2 b3 la lb HC
     clear hb
     have HC := Lib.hid (refusals_bad A M E A' M' E' na ca nm cm ne ce na' ca' nm' cm' ne' ce' P R U cu nu u w6 (HXW.out w6 HB6.out) (HYW.out w6 HB6.out) HUL.out (HUW.out w6 HB6.out) hu1 hu2 r HR.out HZ.out)
     rw [HSP.out, HSR.out] at HC
     have kx := KX.out.below HB6.out KX.out.lt
     have ky := KY.out.below HB6.out KY.out.lt
     have a0 := kx.cell (j := 0) rfl
     have a1 := kx.cell (j := 1) rfl
     have a2 := kx.cell (j := 2) rfl
     have a3 := kx.cell (j := 3) rfl
     have b0 := ky.cell (j := 0) rfl
     have b1 := ky.cell (j := 1) rfl
     have b2 := ky.cell (j := 2) rfl
     have b3 := ky.cell (j := 3) rfl
     have la := kx.lt
     have lb := ky.lt
     clear kx ky
     go_wp2_with fail
     refine HC.out.mono ?_
     rintro e w7 ⟨rfl, hb⟩
     have HB7 := Lib.hid (HB6.out.trans (hb.mono HB6.out.size))
     clear a0 a1 a2 a3 b0 b1 b2 b3 la lb HC
     clear hb
     have HC := Lib.hid (supremal_bad A M E A' M' E' na ca nm cm ne ce na' ca' nm' cm' ne' ce' P R U cu nu u w7 (HXW.out w7 HB7.out) (HYW.out w7 HB7.out) HUL.out (HUW.out w7 HB7.out) hu1 hu2 r HR.out HZ.out)
     rw [HSP.out, HSR.out] at HC
     have kx := KX.out.below HB7.out KX.out.lt
     have ky := KY.out.below HB7.out KY.out.lt
     have a0 := kx.cell (j := 0) rfl
     have a1 := kx.cell (j := 1) rfl
     have a2 := kx.cell (j := 2) rfl
     have a3 := kx.cell (j := 3) rfl
     have b0 := ky.cell (j := 0) rfl
     have b1 := ky.cell (j := 1) rfl
     have b2 := ky.cell (j := 2) rfl
     have b3 := ky.cell (j := 3) rfl
     have la := kx.lt
     have lb := ky.lt
     clear kx ky
     go_wp2_with fail
     refine HC.out.mono ?_
     rintro e w8 ⟨rfl, hb⟩
     have HB8 := Lib.hid (HB7.out.trans (hb.mono HB7.out.size))
     clear a0 a1 a2 a3 b0 b1 b2 b3 la lb HC
     clear hb
     have hbx := box_below w8 (.cells #[.slice none 0 0, .int .i64 0, .slice none 0 0, .slice none 0 0] 25)
     have HB9 := Lib.hid (HB8.out.trans (hbx.mono HB8.out.size))
     have KS := Lib.hid (show Blk (w8.alloc (.cells #[.slice none 0 0, .int .i64 0, .slice none 0 0, .slice none 0 0] 25)) w8.heap.size 25 [.slice none 0 0, .int .i64 0, .slice none 0 0, .slice none 0 0] from Blk.new _ _ [_, _, _, _])
     go_upto_region 7 with fail
     obtain ⟨w9, hw9⟩ : ∃ w9, w9 = w8.alloc (.cells #[.slice none 0 0, .int .i64 0, .slice none 0 0, .slice none 0 0] 25) := ⟨_, rfl⟩
     rw [← hw9] at HB9 KS ⊢
     clear hw9 hbx
     have HC := Lib.hid (infimal_bad A M E A' M' E' na ca nm cm ne ce na' ca' nm' cm' ne' ce' P R U cu nu u w9 (HXW.out w9 HB9.out) (HYW.out w9 HB9.out) HUL.out (HUW.out w9 HB9.out) hu1 hu2 r HR.out HZ.out)
     rw [HSP.out, HSR.out] at HC
     have kx := KX.out.below HB9.out KX.out.lt
     have ky := KY.out.below HB9.out KY.out.lt
     have a0 := kx.cell (j := 0) rfl
     have a1 := kx.cell (j := 1) rfl
     have a2 := kx.cell (j := 2) rfl
     have a3 := kx.cell (j := 3) rfl
     have b0 := ky.cell (j := 0) rfl
     have b1 := ky.cell (j := 1) rfl
     have b2 := ky.cell (j := 2) rfl
     have b3 := ky.cell (j := 3) rfl
     have la := kx.lt
     have lb := ky.lt
     clear kx ky
     go_wp2_with fail
     refine HC.out.mono ?_
     rintro e wa ⟨rfl, hb⟩
     have HBA := Lib.hid (HB9.out.trans (hb.mono HB9.out.size))
     have hbx := box_below wa (.cells #[.slice none 0 0, .int .i64 0, .slice none 0 0, .slice none 0 0] 25)
     have HBB := Lib.hid (HBA.out.trans (hbx.mono HBA.out.size))
     have KS2 := Lib.hid ((KS.out.below hb KS.out.lt).below hbx (KS.out.below hb KS.out.lt).lt)
     have KI := Lib.hid (show Blk (wa.alloc (.cells #[.slice none 0 0, .int .i64 0, .slice none 0 0, .slice none 0 0] 25)) wa.heap.size 25 [.slice none 0 0, .int .i64 0, .slice none 0 0, .slice none 0 0] from Blk.new _ _ [_, _, _, _])
     clear a0 a1 a2 a3 b0 b1 b2 b3 la lb HC
     clear hb
     go_upto_region 8 with fail
     obtain ⟨wb, hwb⟩ : ∃ wb, wb = wa.alloc (.cells #[.slice none 0 0, .int .i64 0, .slice none 0 0, .slice none 0 0] 25) := ⟨_, rfl⟩
     rw [← hwb] at HBB KS2 KI ⊢
     clear hwb hbx KS
     have s0 := KS2.out.cell (j := 0) rfl
     have s1 := KS2.out.cell (j := 1) rfl
     have s2 := KS2.out.cell (j := 2) rfl
     have s3 := KS2.out.cell (j := 3) rfl
     have ls := KS2.out.lt
     have HC := Lib.hid (law_none26 wb)
     go_wp2_with fail
     refine HC.out.mono ?_
     rintro e wc ⟨rfl, hb⟩
     have HBC := Lib.hid (HBB.out.trans (hb.mono HBB.out.size))
     have KI2 := Lib.hid (KI.out.below hb KI.out.lt)
     clear hb HC s0 s1 s2 s3 ls
     have s0 := KI2.out.cell (j := 0) rfl
     have s1 := KI2.out.cell (j := 1) rfl
     have s2 := KI2.out.cell (j := 2) rfl
     have s3 := KI2.out.cell (j := 3) rfl
     have ls := KI2.out.lt
     have HC := Lib.hid (law_none26 wc)
     go_wp2_with fail
     refine HC.out.mono ?_
     rintro e wd ⟨rfl, hb⟩
     have HF := Lib.hid (HB1.out.trans ((HBC.out.trans (hb.mono HBC.out.size)).mono HB1.out.size))
     clear hb HC s0 s1 s2 s3 ls
     go_wp2
     go_ret
     exact ⟨rfl, HF.out⟩
   ·have d0 : (12 : Int) < (nu : Int) := by omega
    have HC := Lib.hid (law_known26 w4)
    go_wp2_with fail
    refine HC.out.mono ?_
    rintro e wz ⟨rfl, hb⟩
    have HF := Lib.hid (HB1.out.trans ((HB4.out.trans (hb.mono HB4.out.size)).mono HB1.out.size))
    clear hb HC
    go_wp2
    go_ret
    exact ⟨rfl, HF.out⟩
end Go.Proofs.YtcchnibgehonoaaDoor

/- The law ControllableSets: its walk. -/
import Derived.Test.YtcchnibgehonoaaDoorDk
import Derived.Test.YtcchnibgehonoaaDoorLw
namespace Go.Proofs.YtcchnibgehonoaaDoor
open Go.RowKit Go Go.Maps

theorem ckS_one {a : Aut} {set ev : List Int} {c : Int} (h : chkA a = c) (hc : c ≠ 0) : ckS a set ev = c := by unfold ckS; rw [if_pos (by rw [h]; exact hc), h]
theorem ckS_two {a : Aut} {set ev : List Int} {s : Int} (h : chkA a = 0) (h2 : setErr set a.st = s) (hs : s ≠ 0) : ckS a set ev = s := by unfold ckS; rw [if_neg (by simp [h]), if_pos (by rw [h2]; exact hs), h2]
theorem ckS_three {a : Aut} {set ev : List Int} (h : chkA a = 0) (h2 : setErr set a.st = 0) : ckS a set ev = setErr ev 32 := by unfold ckS; rw [if_neg (by simp [h]), if_neg (by simp [h2])]

set_option maxRecDepth 100000 in
set_option maxHeartbeats 6400000 in
theorem sets_walk (A M E : Option Addr) (na ca nm cm ne ce : Nat) (a : Aut) (S : Option Addr) (cs ns : Nat) (set : List Int) (V : Option Addr) (cv nv : Nat) (ev : List Int) (w : World) (h : AutR w w.heap.size A na ca M nm cm E ne ce a)
  (hsl : set.length = ns) (hS : RdI w w.heap.size S set) (hs1 : ns ≤ cs) (hs2 : cs ≤ 9223372036854775807) (hvl : ev.length = nv) (hV : RdI w w.heap.size V ev) (hv1 : nv ≤ cv) (hv2 : cv ≤ 9223372036854775807) :
  Calls Tryd.prog 7 #[.agg #[.slice A na ca, .int .i64 a.st, .slice M nm cm, .slice E ne ce], .slice S ns cs, .slice V nv cv] w fun e w' => e = .returned (.bool true) ∧ Below w.heap.size w w' := by
 obtain ⟨st, hst⟩ : ∃ st, a.st = st := ⟨_, rfl⟩
 rw [hst]
 have hb1 := box_below w (.cells #[.slice A na ca, .int .i64 st, .slice M nm cm, .slice E ne ce] 25)
 obtain ⟨w1, hw1⟩ : ∃ w1, w1 = w.alloc (.cells #[.slice A na ca, .int .i64 st, .slice M nm cm, .slice E ne ce] 25) := ⟨_, rfl⟩
 have kx : Blk w1 w.heap.size 25 [.slice A na ca, .int .i64 st, .slice M nm cm, .slice E ne ce] := by rw [hw1]; exact Blk.new _ _ [_, _, _, _]
 rw [← hw1] at hb1
 have HXW := Lib.hid (fun (W : World) (hb : Below w1.heap.size w1 W) => (((h.below hb1).more hb1.size).below hb).more hb.size)
 have HSW := Lib.hid (fun (W : World) (hb : Below w1.heap.size w1 W) => (((hS.below hb1).more hb1.size).below hb).more hb.size)
 have HVW := Lib.hid (fun (W : World) (hb : Below w1.heap.size w1 W) => (((hV.below hb1).more hb1.size).below hb).more hb.size)
 have HC := Lib.hid (law_known26 w1)
 have HW1 := Lib.hid hw1; clear hw1
 have HB1 := Lib.hid hb1; clear hb1
 have KX := Lib.hid kx; clear kx
 have HST := Lib.hid hst; clear hst
 have HSL := Lib.hid hsl; clear hsl
 have HVL := Lib.hid hvl; clear hvl
 clear h hS hV
 go_enter Tryd.func7, Tryd.ntmps7
 go_wp2_with fail
 rw [← HW1.out]
 refine HC.out.mono ?_
 rintro e w2 ⟨rfl, hb⟩
 have HB2 := Lib.hid hb; clear hb
 clear HC
 obtain ⟨qf, hf1⟩ : ∃ q, fewB a = q := ⟨_, rfl⟩
 have HC := Lib.hid (law_few26 A na ca M nm cm E ne ce a w2 (HXW.out w2 HB2.out) qf hf1)
 rw [HST.out] at HC
 cases qf with
 | false =>
  have kx := KX.out.below HB2.out KX.out.lt
  have a0 := kx.cell (j := 0) rfl
  have a1 := kx.cell (j := 1) rfl
  have a2 := kx.cell (j := 2) rfl
  have a3 := kx.cell (j := 3) rfl
  have la := kx.lt
  clear kx
  go_wp2_with fail
  refine HC.out.mono ?_
  rintro e w3 ⟨rfl, hb⟩
  have HB3 := Lib.hid (HB2.out.trans (hb.mono HB2.out.size))
  clear a0 a1 a2 a3 la HC
  clear hb
  have HC := Lib.hid (law_known26 w3)
  go_wp2_with fail
  refine HC.out.mono ?_
  rintro e wz ⟨rfl, hb⟩
  have HF := Lib.hid (HB1.out.trans ((HB3.out.trans (hb.mono HB3.out.size)).mono HB1.out.size))
  clear hb HC
  go_wp2
  go_ret
  exact ⟨rfl, HF.out⟩
 | true =>
  have HF1 := Lib.hid hf1; clear hf1
  by_cases hn1 : ns ≤ 12
  ·have b1 : ¬ (12 : Int) < (ns : Int) := by omega
   by_cases hn2 : nv ≤ 12
   ·have b2 : ¬ (12 : Int) < (nv : Int) := by omega
    have kx := KX.out.below HB2.out KX.out.lt
    have a0 := kx.cell (j := 0) rfl
    have a1 := kx.cell (j := 1) rfl
    have a2 := kx.cell (j := 2) rfl
    have a3 := kx.cell (j := 3) rfl
    have la := kx.lt
    clear kx
    go_wp2_with fail
    refine HC.out.mono ?_
    rintro e w3 ⟨rfl, hb⟩
    have HB3 := Lib.hid (HB2.out.trans (hb.mono HB2.out.size))
    clear a0 a1 a2 a3 la HC
    clear hb
    obtain ⟨c, hc⟩ : ∃ c, chkA a = c := ⟨_, rfl⟩
    have HC := Lib.hid (automaton_Check A na ca M nm cm E ne ce a w3 (HXW.out w3 HB3.out))
    rw [HST.out, hc] at HC
    have HCK := Lib.hid hc; clear hc
    by_cases hz : c = 0
    ·subst hz
     have kx := KX.out.below HB3.out KX.out.lt
     have a0 := kx.cell (j := 0) rfl
     have a1 := kx.cell (j := 1) rfl
     have a2 := kx.cell (j := 2) rfl
     have a3 := kx.cell (j := 3) rfl
     have la := kx.lt
     clear kx
     go_wp2_with fail
     refine HC.out.mono ?_
     rintro e w4 ⟨rfl, hb⟩
     have HB4 := Lib.hid (HB3.out.trans (hb.mono HB3.out.size))
     clear a0 a1 a2 a3 la HC
     clear hb
     obtain ⟨s, hs⟩ : ∃ s, setErr set st = s := ⟨_, rfl⟩
     have HC := Lib.hid (alphabet_CheckSet_n S cs ns set st s w4 HSL.out hs (HSW.out w4 HB4.out) hs1 hs2)
     have HSE := Lib.hid (show setErr set a.st = s by rw [HST.out]; exact hs)
     clear hs
     have kx := KX.out.below HB4.out KX.out.lt
     have a0 := kx.cell (j := 0) rfl
     have a1 := kx.cell (j := 1) rfl
     have a2 := kx.cell (j := 2) rfl
     have a3 := kx.cell (j := 3) rfl
     have la := kx.lt
     clear kx
     go_wp2_with fail
     refine HC.out.mono ?_
     rintro e w4' ⟨rfl, rfl⟩
     clear a0 a1 a2 a3 la HC
     by_cases hz2 : s = 0
     ·subst hz2
      have hwa := chkA_wf HCK.out
      obtain ⟨n, hn⟩ : ∃ n : Nat, st = (n : Int) := ⟨st.toNat, by have := hwa.st0; have := HST.out; omega⟩
      subst hn
      have HSI := Lib.hid (setErr_inc HSE.out)
      have HWF := Lib.hid hwa
      have HSR := Lib.hid (show ∀ s ∈ set, 0 ≤ s ∧ s < (n : Int) from fun s hs => by have := HSI.out.2 s hs; rw [HST.out] at this; exact this)
      clear hwa
      have HC := Lib.hid (within_ok A na ca M nm cm E ne ce a S cs ns set w4 (HXW.out _ HB4.out) HSL.out (HSW.out _ HB4.out) hs1 hs2 (by rw [ckS_three HCK.out HSE.out]; rfl))
      rw [HST.out] at HC
      have kx := KX.out.below HB4.out KX.out.lt
      have a0 := kx.cell (j := 0) rfl
      have a1 := kx.cell (j := 1) rfl
      have a2 := kx.cell (j := 2) rfl
      have a3 := kx.cell (j := 3) rfl
      have la := kx.lt
      clear kx
      go_wp2_with fail
      refine HC.out.mono ?_
      rintro e w5 ⟨A9, na9, ca9, M9, nm9, cm9, E9, ne9, ce9, rfl, ho9, hb⟩
      have HB5 := Lib.hid (HB4.out.trans (hb.mono HB4.out.size))
      clear a0 a1 a2 a3 la HC
      obtain ⟨WA, hWA⟩ : ∃ x, witA a set = x := ⟨_, rfl⟩
      rw [hWA] at ho9 ⊢
      have HWA := Lib.hid hWA; clear hWA
      have hbx := box_below w5 (.cells #[.slice A9 na9 ca9, .int .i64 WA.st, .slice M9 nm9 cm9, .slice E9 ne9 ce9] 25)
      have HB6 := Lib.hid (HB5.out.trans (hbx.mono HB5.out.size))
      have KS := Lib.hid (show Blk (w5.alloc (.cells #[.slice A9 na9 ca9, .int .i64 WA.st, .slice M9 nm9 cm9, .slice E9 ne9 ce9] 25)) w5.heap.size 25 [.slice A9 na9 ca9, .int .i64 WA.st, .slice M9 nm9 cm9, .slice E9 ne9 ce9] from Blk.new _ _ [_, _, _, _])
      have HX9 := Lib.hid ((ho9.rd.below hbx).more hbx.size)
      clear hb hbx ho9
      go_upto_region 7 with fail
      obtain ⟨w6, hw6⟩ : ∃ w6, w6 = w5.alloc (.cells #[.slice A9 na9 ca9, .int .i64 WA.st, .slice M9 nm9 cm9, .slice E9 ne9 ce9] 25) := ⟨_, rfl⟩
      rw [← hw6] at HB6 KS HX9 ⊢
      clear hw6
      have HAT := Lib.hid (fun (W : World) (hb : Below w6.heap.size w6 W) => (show (W.cell? ⟨w5.heap.size, 0, none⟩ = some (.slice A9 na9 ca9) ∧ W.cell? ⟨w5.heap.size, 1, none⟩ = some (.int .i64 WA.st) ∧ W.cell? ⟨w5.heap.size, 2, none⟩ = some (.slice M9 nm9 cm9) ∧ W.cell? ⟨w5.heap.size, 3, none⟩ = some (.slice E9 ne9 ce9)) ∧ W.cell? ⟨w.heap.size, 0, none⟩ = some (.slice A na ca) ∧ W.cell? ⟨w.heap.size, 1, none⟩ = some (.int .i64 (n : Int)) ∧ W.cell? ⟨w.heap.size, 2, none⟩ = some (.slice M nm cm) ∧ W.cell? ⟨w.heap.size, 3, none⟩ = some (.slice E ne ce) from by
       have k := KS.out.below hb KS.out.lt
       have j := KX.out.below (HB6.out.trans (hb.mono HB6.out.size)) KX.out.lt
       exact ⟨⟨k.cell (j := 0) rfl, k.cell (j := 1) rfl, k.cell (j := 2) rfl, k.cell (j := 3) rfl⟩, j.cell (j := 0) rfl, j.cell (j := 1) rfl, j.cell (j := 2) rfl, j.cell (j := 3) rfl⟩))
      refine wp_region_U (fun W => (W.cell? ⟨w5.heap.size, 0, none⟩ = some (.slice A9 na9 ca9) ∧ W.cell? ⟨w5.heap.size, 1, none⟩ = some (.int .i64 WA.st) ∧ W.cell? ⟨w5.heap.size, 2, none⟩ = some (.slice M9 nm9 cm9) ∧ W.cell? ⟨w5.heap.size, 3, none⟩ = some (.slice E9 ne9 ce9)) ∧ W.cell? ⟨w.heap.size, 0, none⟩ = some (.slice A na ca) ∧ W.cell? ⟨w.heap.size, 1, none⟩ = some (.int .i64 (n : Int)) ∧ W.cell? ⟨w.heap.size, 2, none⟩ = some (.slice M nm cm) ∧ W.cell? ⟨w.heap.size, 3, none⟩ = some (.slice E ne ce)) (fun _ => True) 27 (by kernel_rfl) ?_
      change anyU _ _ _ _ _ _ _ 28 _ _ _
      have hB0 : True := trivial
      have hd := below_dr w6
      generalize w6.drew = wd at hd ⊢
      have HBd := Lib.hid (HB6.out.trans (hd.mono HB6.out.size))
      have hA0 := HAT.out wd hd
      have HC := Lib.hid (law_within A M E na ca nm cm ne ce a S cs ns set wd (HXW.out _ HBd.out) HWF.out HSL.out (HSW.out _ HBd.out) (by omega))
      rw [HST.out, HWA.out] at HC
      (refine uA 0 ?_ rfl hA0 hB0 (fun W hA => ?_) ?_; rotate_left; (· (go_simp; try with_reducible rfl)); refine uA 1 ?_ rfl hA0 hB0 (fun W hA => ?_) ?_; rotate_left; (· (go_simp; try with_reducible rfl)); refine uA 2 ?_ rfl hA0 hB0 (fun W hA => ?_) ?_; rotate_left; (· (go_simp; try with_reducible rfl)); (try simp only [Act.put, List.setIfInBounds_toArray, List.set_cons_zero, List.set_cons_succ]))
      (refine uS 3 rfl hA0 hB0 ?_; refine uS 4 rfl hA0 hB0 ?_; (try simp only [Act.put, List.setIfInBounds_toArray, List.set_cons_zero, List.set_cons_succ]))
      (refine uS 5 rfl hA0 hB0 ?_; refine uS 6 rfl hA0 hB0 ?_; (try simp only [Act.put, List.setIfInBounds_toArray, List.set_cons_zero, List.set_cons_succ]))
      (refine uS 7 rfl hA0 hB0 ?_; refine uS 8 rfl hA0 hB0 ?_; (try simp only [Act.put, List.setIfInBounds_toArray, List.set_cons_zero, List.set_cons_succ]))
      (refine uS 9 rfl hA0 hB0 ?_; refine uS 10 rfl hA0 hB0 ?_; (try simp only [Act.put, List.setIfInBounds_toArray, List.set_cons_zero, List.set_cons_succ]))
      (refine uA 11 ?_ rfl hA0 hB0 (fun W hA => ?_) ?_; rotate_left; (· (go_simp; try with_reducible rfl)); refine uA 12 ?_ rfl hA0 hB0 (fun W hA => ?_) ?_; rotate_left; (· (go_simp; try with_reducible rfl)); (try simp only [Act.put, List.setIfInBounds_toArray, List.set_cons_zero, List.set_cons_succ]))
      (refine uA 13 ?_ rfl hA0 hB0 (fun W hA => ?_) ?_; rotate_left; (· (go_simp; try with_reducible rfl)); refine uA 14 ?_ rfl hA0 hB0 (fun W hA => ?_) ?_; rotate_left; (· (go_simp; try with_reducible rfl)); (try simp only [Act.put, List.setIfInBounds_toArray, List.set_cons_zero, List.set_cons_succ]))
      (refine uA 15 ?_ rfl hA0 hB0 (fun W hA => ?_) ?_; rotate_left; (· (go_simp; try with_reducible rfl)); (try simp only [Act.put, List.setIfInBounds_toArray, List.set_cons_zero, List.set_cons_succ]))
      (refine uA 16 ?_ rfl hA0 hB0 (fun W hA => ?_) ?_; rotate_left; (· (obtain ⟨⟨c0, c1, c2, c3⟩, _⟩ := hA; go_simp; try with_reducible rfl)); (try simp only [Act.put, List.setIfInBounds_toArray, List.set_cons_zero, List.set_cons_succ]))
      (refine uA 17 ?_ rfl hA0 hB0 (fun W hA => ?_) ?_; rotate_left; (· (obtain ⟨_, c0, c1, c2, c3⟩ := hA; go_simp; try with_reducible rfl)); (try simp only [Act.put, List.setIfInBounds_toArray, List.set_cons_zero, List.set_cons_succ]))
      (refine uA 18 ?_ rfl hA0 hB0 (fun W hA => ?_) ?_; rotate_left; (· (go_simp; try with_reducible rfl)); (try simp only [Act.put, List.setIfInBounds_toArray, List.set_cons_zero, List.set_cons_succ]))
      refine uOne (i := 19) rfl (by kernel_rfl) (fun K hK => ?_)
      go_simp
      go_at_call 35
      refine HC.out.mono ?_
      rintro e we ⟨A7, na7, ca7, M7, nm7, cm7, E7, ne7, ce7, rfl, ho7, hb⟩
      have hde := hd.trans (hb.mono hd.size)
      have hA1 := HAT.out we hde
      have HBe := Lib.hid (HBd.out.trans (hb.mono HBd.out.size))
      have HQ := Lib.hid (automaton_Equal A9 M9 E9 A7 M7 E7 na9 ca9 nm9 cm9 ne9 ce9 na7 ca7 nm7 cm7 ne7 ce7 WA WA true we (eqA_of rfl) ((HX9.out.below hde).more hde.size) ho7)
      clear hA0 HC hb hd ho7
      (refine hK _ _ ⟨hA1, fun _ => hB0⟩ ?_; clear hK K; (try simp only [Act.put, List.setIfInBounds_toArray, List.set_cons_zero, List.set_cons_succ]))
      refine uOne (i := 20) rfl (by kernel_rfl) (fun K hK => ?_)
      go_simp
      go_at_call 27
      refine HQ.out.mono ?_
      rintro e wg ⟨rfl, hb⟩
      have hA0 := HAT.out wg (hde.trans (hb.mono hde.size))
      have HBg := Lib.hid (HBe.out.trans (hb.mono HBe.out.size))
      clear hA1 HQ hb hde
      (refine hK _ _ ⟨hA0, fun _ => hB0⟩ ?_; clear hK K; (try simp only [Act.put, List.setIfInBounds_toArray, List.set_cons_zero, List.set_cons_succ]))
      (refine uA 21 ?_ rfl hA0 hB0 (fun W hA => ?_) ?_; rotate_left; (· (go_simp; try with_reducible rfl)); refine uA 22 ?_ rfl hA0 hB0 (fun W hA => ?_) ?_; rotate_left; (· (go_simp; try with_reducible rfl)); (try simp only [Act.put, List.setIfInBounds_toArray, List.set_cons_zero, List.set_cons_succ]))
      (refine uA 23 ?_ rfl hA0 hB0 (fun W hA => ?_) ?_; rotate_left; (· (go_simp; try with_reducible rfl)); refine uA 24 ?_ rfl hA0 hB0 (fun W hA => ?_) ?_; rotate_left; (· (go_simp; try with_reducible rfl)); (try simp only [Act.put, List.setIfInBounds_toArray, List.set_cons_zero, List.set_cons_succ]))
      (refine uA 25 ?_ rfl hA0 hB0 (fun W hA => ?_) ?_; rotate_left; (· (go_simp; try with_reducible rfl)); refine uA 26 ?_ rfl hA0 hB0 (fun W hA => ?_) ?_; rotate_left; (· (go_simp; try with_reducible rfl)); (try simp only [Act.put, List.setIfInBounds_toArray, List.set_cons_zero, List.set_cons_succ]))
      refine uOne (i := 27) rfl (by kernel_rfl) (fun K hK => ?_)
      go_simp
      (refine hK _ _ ⟨hA0, fun h => absurd (h.symm.trans (by kernel_rfl : _ = true)) Bool.false_ne_true⟩ ?_; clear hK K; (try simp only [Act.put, List.setIfInBounds_toArray, List.set_cons_zero, List.set_cons_succ]))
      refine anyU_done (by kernel_rfl) ?_ _
      clear hA0 HAT KS HX9
      obtain ⟨t, ht⟩ : ∃ t, setErr ev 32 = t := ⟨_, rfl⟩
      have HC := Lib.hid (alphabet_CheckSet_n V cv nv ev 32 t wg HVL.out ht (HVW.out _ HBg.out) hv1 hv2)
      have HTE := Lib.hid (show ckS a set ev = t by rw [ckS_three HCK.out HSE.out, ht])
      have HTT := Lib.hid ht; clear ht
      go_wp2_with fail
      refine HC.out.mono ?_
      rintro e wh ⟨rfl, rfl⟩
      clear HC
      by_cases ht0 : t = 0
      ·subst ht0
       have HC := Lib.hid (forward_ok A M E na ca nm cm ne ce a S cs ns set V cv nv ev n wg (HXW.out _ HBg.out) HST.out HSL.out (HSW.out _ HBg.out) hs1 hs2 HVL.out (HVW.out _ HBg.out) hv1 hv2 HTE.out)
       rw [HST.out] at HC
       have kx := KX.out.below HBg.out KX.out.lt
       have a0 := kx.cell (j := 0) rfl
       have a1 := kx.cell (j := 1) rfl
       have a2 := kx.cell (j := 2) rfl
       have a3 := kx.cell (j := 3) rfl
       have la := kx.lt
       clear kx
       go_wp2_with fail
       refine HC.out.mono ?_
       rintro e wi ⟨vF, rfl, hoF, hb⟩
       obtain ⟨LF, hLF⟩ : ∃ l, clS a.ed ev false n set = l := ⟨_, rfl⟩
       obtain ⟨nF, hnF⟩ : ∃ m, LF.length = m := ⟨_, rfl⟩
       rw [hLF, hnF] at hoF
       obtain ⟨AF, cF, rfl⟩ := own_shape hoF
       have HBi := Lib.hid (HBg.out.trans (hb.mono HBg.out.size))
       have HRF := Lib.hid (RdI.of_own hoF)
       obtain ⟨hcF1, hcF2⟩ := own_cap' hoF
       have HLF := Lib.hid hLF; clear hLF
       have HNF := Lib.hid hnF; clear hnF
       clear a0 a1 a2 a3 la HC
       clear hb hoF
       have HC := Lib.hid (backward_ok A M E na ca nm cm ne ce a S cs ns set V cv nv ev n wi (HXW.out _ HBi.out) HST.out HSL.out (HSW.out _ HBi.out) hs1 hs2 HVL.out (HVW.out _ HBi.out) hv1 hv2 HTE.out)
       rw [HST.out] at HC
       have kx := KX.out.below HBi.out KX.out.lt
       have a0 := kx.cell (j := 0) rfl
       have a1 := kx.cell (j := 1) rfl
       have a2 := kx.cell (j := 2) rfl
       have a3 := kx.cell (j := 3) rfl
       have la := kx.lt
       clear kx
       go_wp2_with fail
       refine HC.out.mono ?_
       rintro e wj ⟨vB, rfl, hoB, hb⟩
       obtain ⟨LB, hLB⟩ : ∃ l, clS a.ed ev true n set = l := ⟨_, rfl⟩
       obtain ⟨nB, hnB⟩ : ∃ m, LB.length = m := ⟨_, rfl⟩
       rw [hLB, hnB] at hoB
       obtain ⟨AB, cB, rfl⟩ := own_shape hoB
       have HBj := Lib.hid (HBi.out.trans (hb.mono HBi.out.size))
       have HRF2 := Lib.hid ((HRF.out.below hb).more hb.size)
       have HRB := Lib.hid (RdI.of_own hoB)
       obtain ⟨hcB1, hcB2⟩ := own_cap' hoB
       have HLB := Lib.hid hLB; clear hLB
       have HNB := Lib.hid hnB; clear hnB
       clear a0 a1 a2 a3 la HC
       clear hb hoB HRF
       obtain ⟨q, hq⟩ : ∃ q, a.ed.any (lvB set ev) = q := ⟨_, rfl⟩
       obtain ⟨is, his⟩ : ∃ b, (!q) = b := ⟨_, rfl⟩
       have HC := Lib.hid (invariant_ok A M E na ca nm cm ne ce a S cs ns set V cv nv ev wj (HXW.out _ HBj.out) HSL.out (HSW.out _ HBj.out) hs1 hs2 HVL.out (HVW.out _ HBj.out) hv1 hv2 HTE.out q hq)
       rw [HST.out, his] at HC
       have HIS := Lib.hid (show ((nF : Int) == (ns : Int)) = is by
        rw [← his, ← hq, inv_len HSI.out.1 HSR.out (EdIn.of HWF.out HST.out), HLF.out, HNF.out, HSL.out, Bool.eq_iff_iff, beq_iff_eq, decide_eq_true_eq]
        omega)
       have kx := KX.out.below HBj.out KX.out.lt
       have a0 := kx.cell (j := 0) rfl
       have a1 := kx.cell (j := 1) rfl
       have a2 := kx.cell (j := 2) rfl
       have a3 := kx.cell (j := 3) rfl
       have la := kx.lt
       clear kx
       go_wp2_with fail
       refine HC.out.mono ?_
       rintro e wk ⟨rfl, hb⟩
       have HBk := Lib.hid (HBj.out.trans (hb.mono HBj.out.size))
       have HRF3 := Lib.hid ((HRF2.out.below hb).more hb.size)
       have HRB2 := Lib.hid ((HRB.out.below hb).more hb.size)
       clear a0 a1 a2 a3 la HC
       clear hb hq his HRF2 HRB
       have HC := Lib.hid (law_reached false A M E na ca nm cm ne ce a S cs ns set V cv nv ev n wk (HXW.out _ HBk.out) HWF.out HST.out HSL.out (HSW.out _ HBk.out) HSR.out hs1 hs2 HVL.out (HVW.out _ HBk.out) (by omega))
       rw [HST.out, HLF.out] at HC
       have kx := KX.out.below HBk.out KX.out.lt
       have a0 := kx.cell (j := 0) rfl
       have a1 := kx.cell (j := 1) rfl
       have a2 := kx.cell (j := 2) rfl
       have a3 := kx.cell (j := 3) rfl
       have la := kx.lt
       clear kx
       go_wp2_with fail
       refine HC.out.mono ?_
       rintro e wl ⟨vG, rfl, hoG, hb⟩
       rw [HNF.out] at hoG
       obtain ⟨AG, cG, rfl⟩ := own_shape hoG
       have HBl := Lib.hid (HBk.out.trans (hb.mono HBk.out.size))
       have HE := Lib.hid (word_Equal_n AF AG cF cG nF nF LF LF true wl HNF.out HNF.out (eqB_of rfl) ((HRF3.out.below hb).more hb.size) hcF1 hcF2 (RdI.of_own hoG))
       have HRB3 := Lib.hid ((HRB2.out.below hb).more hb.size)
       clear a0 a1 a2 a3 la HC
       clear hb hoG HRF3 HRB2
       go_wp2_with fail
       refine HE.out.mono ?_
       rintro e wm ⟨rfl, nq, hwm⟩
       have hbm : Below wl.heap.size wl wm := by rw [hwm]; exact below_drewN (Below.refl _ _) nq
       have HBm := Lib.hid (HBl.out.trans (hbm.mono HBl.out.size))
       have HRB4 := Lib.hid ((HRB3.out.below hbm).more hbm.size)
       clear hwm hbm HE HRB3
       have HC := Lib.hid (law_reached true A M E na ca nm cm ne ce a S cs ns set V cv nv ev n wm (HXW.out _ HBm.out) HWF.out HST.out HSL.out (HSW.out _ HBm.out) HSR.out hs1 hs2 HVL.out (HVW.out _ HBm.out) (by omega))
       rw [HST.out, HLB.out] at HC
       have kx := KX.out.below HBm.out KX.out.lt
       have a0 := kx.cell (j := 0) rfl
       have a1 := kx.cell (j := 1) rfl
       have a2 := kx.cell (j := 2) rfl
       have a3 := kx.cell (j := 3) rfl
       have la := kx.lt
       clear kx
       go_wp2_with fail
       refine HC.out.mono ?_
       rintro e wn ⟨vH, rfl, hoH, hb⟩
       rw [HNB.out] at hoH
       obtain ⟨AH, cH, rfl⟩ := own_shape hoH
       have HBn := Lib.hid (HBm.out.trans (hb.mono HBm.out.size))
       have HE := Lib.hid (word_Equal_n AB AH cB cH nB nB LB LB true wn HNB.out HNB.out (eqB_of rfl) ((HRB4.out.below hb).more hb.size) hcB1 hcB2 (RdI.of_own hoH))
       clear a0 a1 a2 a3 la HC
       clear hb hoH HRB4
       have his2 := HIS.out
       go_wp2_with fail
       refine HE.out.mono ?_
       rintro e wo ⟨rfl, nr, hwo⟩
       have hbo : Below wn.heap.size wn wo := by rw [hwo]; exact below_drewN (Below.refl _ _) nr
       have HF := Lib.hid (HB1.out.trans ((HBn.out.trans (hbo.mono HBn.out.size)).mono HB1.out.size))
       clear hwo hbo HE
       go_wp2
       go_ret
       exact ⟨rfl, HF.out⟩
      ·have HZ := Lib.hid ht0
       have d4 : (t != 0) = true := by simpa using ht0
       -- Forward, Backward, Invariant at an error r; region 15
       have HC := Lib.hid (forward_bad A M E na ca nm cm ne ce a S cs ns set V cv nv ev wg (HXW.out _ HBg.out) HSL.out (HSW.out _ HBg.out) hs1 hs2 HVL.out (HVW.out _ HBg.out) hv1 hv2 t HTE.out HZ.out)
       rw [HST.out] at HC
       have kx := KX.out.below HBg.out KX.out.lt
       have a0 := kx.cell (j := 0) rfl
       have a1 := kx.cell (j := 1) rfl
       have a2 := kx.cell (j := 2) rfl
       have a3 := kx.cell (j := 3) rfl
       have la := kx.lt
       clear kx
       go_wp2_with fail
       refine HC.out.mono ?_
       rintro e wf ⟨rfl, hb⟩
       have HBf := Lib.hid (HBg.out.trans (hb.mono HBg.out.size))
       clear a0 a1 a2 a3 la HC
       clear hb
       have HC := Lib.hid (backward_bad A M E na ca nm cm ne ce a S cs ns set V cv nv ev wf (HXW.out _ HBf.out) HSL.out (HSW.out _ HBf.out) hs1 hs2 HVL.out (HVW.out _ HBf.out) hv1 hv2 t HTE.out HZ.out)
       rw [HST.out] at HC
       have kx := KX.out.below HBf.out KX.out.lt
       have a0 := kx.cell (j := 0) rfl
       have a1 := kx.cell (j := 1) rfl
       have a2 := kx.cell (j := 2) rfl
       have a3 := kx.cell (j := 3) rfl
       have la := kx.lt
       clear kx
       go_wp2_with fail
       refine HC.out.mono ?_
       rintro e wg ⟨rfl, hb⟩
       have HBg := Lib.hid (HBf.out.trans (hb.mono HBf.out.size))
       clear a0 a1 a2 a3 la HC
       clear hb
       have HC := Lib.hid (invariant_bad A M E na ca nm cm ne ce a S cs ns set V cv nv ev wg (HXW.out _ HBg.out) HSL.out (HSW.out _ HBg.out) hs1 hs2 HVL.out (HVW.out _ HBg.out) hv1 hv2 t HTE.out HZ.out)
       rw [HST.out] at HC
       have kx := KX.out.below HBg.out KX.out.lt
       have a0 := kx.cell (j := 0) rfl
       have a1 := kx.cell (j := 1) rfl
       have a2 := kx.cell (j := 2) rfl
       have a3 := kx.cell (j := 3) rfl
       have la := kx.lt
       clear kx
       go_wp2_with fail
       refine HC.out.mono ?_
       rintro e wi ⟨rfl, hb⟩
       have HF := Lib.hid (HB1.out.trans ((HBg.out.trans (hb.mono HBg.out.size)).mono HB1.out.size))
       clear a0 a1 a2 a3 la HC
       clear hb
       go_wp2
       go_ret
       exact ⟨rfl, HF.out⟩
     ·have HZ := Lib.hid hz2
      -- Within at an error r; region 7
      have d1 : (s == 0) = false := by simpa using HZ.out
      have d2 : (s != 0) = true := by simpa using HZ.out
      have HC := Lib.hid (within_bad A na ca M nm cm E ne ce a S cs ns set w4 (HXW.out _ HB4.out) HSL.out (HSW.out _ HB4.out) hs1 hs2 s (ckS_two HCK.out HSE.out HZ.out) HZ.out)
      rw [HST.out] at HC
      have kx := KX.out.below HB4.out KX.out.lt
      have a0 := kx.cell (j := 0) rfl
      have a1 := kx.cell (j := 1) rfl
      have a2 := kx.cell (j := 2) rfl
      have a3 := kx.cell (j := 3) rfl
      have la := kx.lt
      clear kx
      go_wp2_with fail
      refine HC.out.mono ?_
      rintro e w5 ⟨rfl, hb⟩
      have HB5 := Lib.hid (HB4.out.trans (hb.mono HB4.out.size))
      clear a0 a1 a2 a3 la HC
      have hbx := box_below w5 (.cells #[.slice none 0 0, .int .i64 0, .slice none 0 0, .slice none 0 0] 25)
      have HB6 := Lib.hid (HB5.out.trans (hbx.mono HB5.out.size))
      have KS := Lib.hid (show Blk (w5.alloc (.cells #[.slice none 0 0, .int .i64 0, .slice none 0 0, .slice none 0 0] 25)) w5.heap.size 25 [.slice none 0 0, .int .i64 0, .slice none 0 0, .slice none 0 0] from Blk.new _ _ [_, _, _, _])
      clear hb hbx
      go_upto_region 7 with fail
      have HAT := Lib.hid (fun (W : World) (hb : Below (w5.alloc (.cells #[.slice none 0 0, .int .i64 0, .slice none 0 0, .slice none 0 0] 25)).heap.size (w5.alloc (.cells #[.slice none 0 0, .int .i64 0, .slice none 0 0, .slice none 0 0] 25)) W) => (show W.cell? ⟨w5.heap.size, 0, none⟩ = some (.slice none 0 0) ∧ W.cell? ⟨w5.heap.size, 1, none⟩ = some (.int .i64 0) ∧ W.cell? ⟨w5.heap.size, 2, none⟩ = some (.slice none 0 0) ∧ W.cell? ⟨w5.heap.size, 3, none⟩ = some (.slice none 0 0) from by
       have k := KS.out.below hb KS.out.lt
       exact ⟨k.cell (j := 0) rfl, k.cell (j := 1) rfl, k.cell (j := 2) rfl, k.cell (j := 3) rfl⟩))
      refine wp_region_U (fun W => W.cell? ⟨w5.heap.size, 0, none⟩ = some (.slice none 0 0) ∧ W.cell? ⟨w5.heap.size, 1, none⟩ = some (.int .i64 0) ∧ W.cell? ⟨w5.heap.size, 2, none⟩ = some (.slice none 0 0) ∧ W.cell? ⟨w5.heap.size, 3, none⟩ = some (.slice none 0 0)) (fun _ => True) 27 (by kernel_rfl) ?_
      change anyU _ _ _ _ _ _ _ 28 _ _ _
      have hB0 : True := trivial
      have hd := below_dr (w5.alloc (.cells #[.slice none 0 0, .int .i64 0, .slice none 0 0, .slice none 0 0] 25))
      have HBd := Lib.hid (HB6.out.trans (hd.mono HB6.out.size))
      generalize (w5.alloc (.cells #[.slice none 0 0, .int .i64 0, .slice none 0 0, .slice none 0 0] 25)).drew = wd at hd HBd ⊢
      have hA0 := HAT.out wd hd
      have HC := Lib.hid (law_none26 wd)
      (refine uA 0 ?_ rfl hA0 hB0 (fun W hA => ?_) ?_; rotate_left; (· (go_simp; try with_reducible rfl)); refine uA 1 ?_ rfl hA0 hB0 (fun W hA => ?_) ?_; rotate_left; (· (go_simp; try with_reducible rfl)); refine uA 2 ?_ rfl hA0 hB0 (fun W hA => ?_) ?_; rotate_left; (· (go_simp; try with_reducible rfl)); (try simp only [Act.put, List.setIfInBounds_toArray, List.set_cons_zero, List.set_cons_succ]))
      (refine uA 3 ?_ rfl hA0 hB0 (fun W hA => ?_) ?_; rotate_left; (· (obtain ⟨c0, c1, c2, c3⟩ := hA; go_simp; try with_reducible rfl)); (try simp only [Act.put, List.setIfInBounds_toArray, List.set_cons_zero, List.set_cons_succ]))
      refine uOne (i := 4) rfl (by kernel_rfl) (fun K hK => ?_)
      go_simp
      go_at_call 18
      refine HC.out.mono ?_
      rintro e we ⟨rfl, hb⟩
      have hA1 := HAT.out we (hd.trans (hb.mono hd.size))
      have HBe := Lib.hid (HBd.out.trans (hb.mono HBd.out.size))
      clear hA0 HC hb hd
      (refine hK _ _ ⟨hA1, fun _ => hB0⟩ ?_; clear hK K; (try simp only [Act.put, List.setIfInBounds_toArray, List.set_cons_zero, List.set_cons_succ]))
      have hA0 := hA1
      (refine uA 5 ?_ rfl hA0 hB0 (fun W hA => ?_) ?_; rotate_left; (· (go_simp; try with_reducible rfl)); refine uA 6 ?_ rfl hA0 hB0 (fun W hA => ?_) ?_; rotate_left; (· (go_simp; try with_reducible rfl)); (try simp only [Act.put, List.setIfInBounds_toArray, List.set_cons_zero, List.set_cons_succ]))
      (refine uA 7 ?_ rfl hA0 hB0 (fun W hA => ?_) ?_; rotate_left; (· (go_simp; try with_reducible rfl)); refine uA 8 ?_ rfl hA0 hB0 (fun W hA => ?_) ?_; rotate_left; (· (go_simp; try with_reducible rfl)); (try simp only [Act.put, List.setIfInBounds_toArray, List.set_cons_zero, List.set_cons_succ]))
      (refine uA 9 ?_ rfl hA0 hB0 (fun W hA => ?_) ?_; rotate_left; (· (go_simp; try with_reducible rfl)); refine uA 10 ?_ rfl hA0 hB0 (fun W hA => ?_) ?_; rotate_left; (· (go_simp; try with_reducible rfl)); (try simp only [Act.put, List.setIfInBounds_toArray, List.set_cons_zero, List.set_cons_succ]))
      (refine uA 11 ?_ rfl hA0 hB0 (fun W hA => ?_) ?_; rotate_left; (· (go_simp; try with_reducible rfl)); refine uA 12 ?_ rfl hA0 hB0 (fun W hA => ?_) ?_; rotate_left; (· (go_simp; try with_reducible rfl)); (try simp only [Act.put, List.setIfInBounds_toArray, List.set_cons_zero, List.set_cons_succ]))
      (refine uA 13 ?_ rfl hA0 hB0 (fun W hA => ?_) ?_; rotate_left; (· (go_simp; try with_reducible rfl)); refine uA 14 ?_ rfl hA0 hB0 (fun W hA => ?_) ?_; rotate_left; (· (go_simp; try with_reducible rfl)); (try simp only [Act.put, List.setIfInBounds_toArray, List.set_cons_zero, List.set_cons_succ]))
      (refine uA 15 ?_ rfl hA0 hB0 (fun W hA => ?_) ?_; rotate_left; (· (go_simp; try with_reducible rfl)); (try simp only [Act.put, List.setIfInBounds_toArray, List.set_cons_zero, List.set_cons_succ]))
      (refine uS 16 rfl hA0 hB0 ?_; refine uS 17 rfl hA0 hB0 ?_; (try simp only [Act.put, List.setIfInBounds_toArray, List.set_cons_zero, List.set_cons_succ]))
      (refine uS 18 rfl hA0 hB0 ?_; refine uS 19 rfl hA0 hB0 ?_; (try simp only [Act.put, List.setIfInBounds_toArray, List.set_cons_zero, List.set_cons_succ]))
      (refine uS 20 rfl hA0 hB0 ?_; refine uS 21 rfl hA0 hB0 ?_; (try simp only [Act.put, List.setIfInBounds_toArray, List.set_cons_zero, List.set_cons_succ]))
      (refine uS 22 rfl hA0 hB0 ?_; refine uS 23 rfl hA0 hB0 ?_; (try simp only [Act.put, List.setIfInBounds_toArray, List.set_cons_zero, List.set_cons_succ]))
      (refine uS 24 rfl hA0 hB0 ?_; refine uS 25 rfl hA0 hB0 ?_; (try simp only [Act.put, List.setIfInBounds_toArray, List.set_cons_zero, List.set_cons_succ]))
      (refine uA 26 ?_ rfl hA0 hB0 (fun W hA => ?_) ?_; rotate_left; (· (go_simp; try with_reducible rfl)); (try simp only [Act.put, List.setIfInBounds_toArray, List.set_cons_zero, List.set_cons_succ]))
      refine uOne (i := 27) rfl (by kernel_rfl) (fun K hK => ?_)
      go_simp
      (refine hK _ _ ⟨hA0, fun h => absurd (h.symm.trans (by kernel_rfl : _ = true)) Bool.false_ne_true⟩ ?_; clear hK K; (try simp only [Act.put, List.setIfInBounds_toArray, List.set_cons_zero, List.set_cons_succ]))
      refine anyU_done (by kernel_rfl) ?_ _
      clear hA0 hA1 HAT KS
      -- Forward, Backward, Invariant at an error r; region 15
      have HC := Lib.hid (forward_bad A M E na ca nm cm ne ce a S cs ns set V cv nv ev we (HXW.out _ HBe.out) HSL.out (HSW.out _ HBe.out) hs1 hs2 HVL.out (HVW.out _ HBe.out) hv1 hv2 s (ckS_two HCK.out HSE.out HZ.out) HZ.out)
      rw [HST.out] at HC
      have kx := KX.out.below HBe.out KX.out.lt
      have a0 := kx.cell (j := 0) rfl
      have a1 := kx.cell (j := 1) rfl
      have a2 := kx.cell (j := 2) rfl
      have a3 := kx.cell (j := 3) rfl
      have la := kx.lt
      clear kx
      go_wp2_with fail
      refine HC.out.mono ?_
      rintro e wf ⟨rfl, hb⟩
      have HBf := Lib.hid (HBe.out.trans (hb.mono HBe.out.size))
      clear a0 a1 a2 a3 la HC
      clear hb
      have HC := Lib.hid (backward_bad A M E na ca nm cm ne ce a S cs ns set V cv nv ev wf (HXW.out _ HBf.out) HSL.out (HSW.out _ HBf.out) hs1 hs2 HVL.out (HVW.out _ HBf.out) hv1 hv2 s (ckS_two HCK.out HSE.out HZ.out) HZ.out)
      rw [HST.out] at HC
      have kx := KX.out.below HBf.out KX.out.lt
      have a0 := kx.cell (j := 0) rfl
      have a1 := kx.cell (j := 1) rfl
      have a2 := kx.cell (j := 2) rfl
      have a3 := kx.cell (j := 3) rfl
      have la := kx.lt
      clear kx
      go_wp2_with fail
      refine HC.out.mono ?_
      rintro e wg ⟨rfl, hb⟩
      have HBg := Lib.hid (HBf.out.trans (hb.mono HBf.out.size))
      clear a0 a1 a2 a3 la HC
      clear hb
      have HC := Lib.hid (invariant_bad A M E na ca nm cm ne ce a S cs ns set V cv nv ev wg (HXW.out _ HBg.out) HSL.out (HSW.out _ HBg.out) hs1 hs2 HVL.out (HVW.out _ HBg.out) hv1 hv2 s (ckS_two HCK.out HSE.out HZ.out) HZ.out)
      rw [HST.out] at HC
      have kx := KX.out.below HBg.out KX.out.lt
      have a0 := kx.cell (j := 0) rfl
      have a1 := kx.cell (j := 1) rfl
      have a2 := kx.cell (j := 2) rfl
      have a3 := kx.cell (j := 3) rfl
      have la := kx.lt
      clear kx
      go_wp2_with fail
      refine HC.out.mono ?_
      rintro e wi ⟨rfl, hb⟩
      have HF := Lib.hid (HB1.out.trans ((HBg.out.trans (hb.mono HBg.out.size)).mono HB1.out.size))
      clear a0 a1 a2 a3 la HC
      clear hb
      go_wp2
      go_ret
      exact ⟨rfl, HF.out⟩
    ·have HZ := Lib.hid hz
     have d0 : (c == 0) = false := by simpa using hz
     have kx := KX.out.below HB3.out KX.out.lt
     have a0 := kx.cell (j := 0) rfl
     have a1 := kx.cell (j := 1) rfl
     have a2 := kx.cell (j := 2) rfl
     have a3 := kx.cell (j := 3) rfl
     have la := kx.lt
     clear kx
     go_wp2_with fail
     refine HC.out.mono ?_
     rintro e w4 ⟨rfl, hb⟩
     have HB4 := Lib.hid (HB3.out.trans (hb.mono HB3.out.size))
     clear a0 a1 a2 a3 la HC
     clear hb
     -- Within at an error r; region 7
     have d1 : (c == 0) = false := by simpa using HZ.out
     have d2 : (c != 0) = true := by simpa using HZ.out
     have HC := Lib.hid (within_bad A na ca M nm cm E ne ce a S cs ns set w4 (HXW.out _ HB4.out) HSL.out (HSW.out _ HB4.out) hs1 hs2 c (ckS_one HCK.out HZ.out) HZ.out)
     rw [HST.out] at HC
     have kx := KX.out.below HB4.out KX.out.lt
     have a0 := kx.cell (j := 0) rfl
     have a1 := kx.cell (j := 1) rfl
     have a2 := kx.cell (j := 2) rfl
     have a3 := kx.cell (j := 3) rfl
     have la := kx.lt
     clear kx
     go_wp2_with fail
     refine HC.out.mono ?_
     rintro e w5 ⟨rfl, hb⟩
     have HB5 := Lib.hid (HB4.out.trans (hb.mono HB4.out.size))
     clear a0 a1 a2 a3 la HC
     have hbx := box_below w5 (.cells #[.slice none 0 0, .int .i64 0, .slice none 0 0, .slice none 0 0] 25)
     have HB6 := Lib.hid (HB5.out.trans (hbx.mono HB5.out.size))
     have KS := Lib.hid (show Blk (w5.alloc (.cells #[.slice none 0 0, .int .i64 0, .slice none 0 0, .slice none 0 0] 25)) w5.heap.size 25 [.slice none 0 0, .int .i64 0, .slice none 0 0, .slice none 0 0] from Blk.new _ _ [_, _, _, _])
     clear hb hbx
     go_upto_region 7 with fail
     have HAT := Lib.hid (fun (W : World) (hb : Below (w5.alloc (.cells #[.slice none 0 0, .int .i64 0, .slice none 0 0, .slice none 0 0] 25)).heap.size (w5.alloc (.cells #[.slice none 0 0, .int .i64 0, .slice none 0 0, .slice none 0 0] 25)) W) => (show W.cell? ⟨w5.heap.size, 0, none⟩ = some (.slice none 0 0) ∧ W.cell? ⟨w5.heap.size, 1, none⟩ = some (.int .i64 0) ∧ W.cell? ⟨w5.heap.size, 2, none⟩ = some (.slice none 0 0) ∧ W.cell? ⟨w5.heap.size, 3, none⟩ = some (.slice none 0 0) from by
      have k := KS.out.below hb KS.out.lt
      exact ⟨k.cell (j := 0) rfl, k.cell (j := 1) rfl, k.cell (j := 2) rfl, k.cell (j := 3) rfl⟩))
     refine wp_region_U (fun W => W.cell? ⟨w5.heap.size, 0, none⟩ = some (.slice none 0 0) ∧ W.cell? ⟨w5.heap.size, 1, none⟩ = some (.int .i64 0) ∧ W.cell? ⟨w5.heap.size, 2, none⟩ = some (.slice none 0 0) ∧ W.cell? ⟨w5.heap.size, 3, none⟩ = some (.slice none 0 0)) (fun _ => True) 27 (by kernel_rfl) ?_
     change anyU _ _ _ _ _ _ _ 28 _ _ _
     have hB0 : True := trivial
     have hd := below_dr (w5.alloc (.cells #[.slice none 0 0, .int .i64 0, .slice none 0 0, .slice none 0 0] 25))
     have HBd := Lib.hid (HB6.out.trans (hd.mono HB6.out.size))
     generalize (w5.alloc (.cells #[.slice none 0 0, .int .i64 0, .slice none 0 0, .slice none 0 0] 25)).drew = wd at hd HBd ⊢
     have hA0 := HAT.out wd hd
     have HC := Lib.hid (law_none26 wd)
     (refine uA 0 ?_ rfl hA0 hB0 (fun W hA => ?_) ?_; rotate_left; (· (go_simp; try with_reducible rfl)); refine uA 1 ?_ rfl hA0 hB0 (fun W hA => ?_) ?_; rotate_left; (· (go_simp; try with_reducible rfl)); refine uA 2 ?_ rfl hA0 hB0 (fun W hA => ?_) ?_; rotate_left; (· (go_simp; try with_reducible rfl)); (try simp only [Act.put, List.setIfInBounds_toArray, List.set_cons_zero, List.set_cons_succ]))
     (refine uA 3 ?_ rfl hA0 hB0 (fun W hA => ?_) ?_; rotate_left; (· (obtain ⟨c0, c1, c2, c3⟩ := hA; go_simp; try with_reducible rfl)); (try simp only [Act.put, List.setIfInBounds_toArray, List.set_cons_zero, List.set_cons_succ]))
     refine uOne (i := 4) rfl (by kernel_rfl) (fun K hK => ?_)
     go_simp
     go_at_call 18
     refine HC.out.mono ?_
     rintro e we ⟨rfl, hb⟩
     have hA1 := HAT.out we (hd.trans (hb.mono hd.size))
     have HBe := Lib.hid (HBd.out.trans (hb.mono HBd.out.size))
     clear hA0 HC hb hd
     (refine hK _ _ ⟨hA1, fun _ => hB0⟩ ?_; clear hK K; (try simp only [Act.put, List.setIfInBounds_toArray, List.set_cons_zero, List.set_cons_succ]))
     have hA0 := hA1
     (refine uA 5 ?_ rfl hA0 hB0 (fun W hA => ?_) ?_; rotate_left; (· (go_simp; try with_reducible rfl)); refine uA 6 ?_ rfl hA0 hB0 (fun W hA => ?_) ?_; rotate_left; (· (go_simp; try with_reducible rfl)); (try simp only [Act.put, List.setIfInBounds_toArray, List.set_cons_zero, List.set_cons_succ]))
     (refine uA 7 ?_ rfl hA0 hB0 (fun W hA => ?_) ?_; rotate_left; (· (go_simp; try with_reducible rfl)); refine uA 8 ?_ rfl hA0 hB0 (fun W hA => ?_) ?_; rotate_left; (· (go_simp; try with_reducible rfl)); (try simp only [Act.put, List.setIfInBounds_toArray, List.set_cons_zero, List.set_cons_succ]))
     (refine uA 9 ?_ rfl hA0 hB0 (fun W hA => ?_) ?_; rotate_left; (· (go_simp; try with_reducible rfl)); refine uA 10 ?_ rfl hA0 hB0 (fun W hA => ?_) ?_; rotate_left; (· (go_simp; try with_reducible rfl)); (try simp only [Act.put, List.setIfInBounds_toArray, List.set_cons_zero, List.set_cons_succ]))
     (refine uA 11 ?_ rfl hA0 hB0 (fun W hA => ?_) ?_; rotate_left; (· (go_simp; try with_reducible rfl)); refine uA 12 ?_ rfl hA0 hB0 (fun W hA => ?_) ?_; rotate_left; (· (go_simp; try with_reducible rfl)); (try simp only [Act.put, List.setIfInBounds_toArray, List.set_cons_zero, List.set_cons_succ]))
     (refine uA 13 ?_ rfl hA0 hB0 (fun W hA => ?_) ?_; rotate_left; (· (go_simp; try with_reducible rfl)); refine uA 14 ?_ rfl hA0 hB0 (fun W hA => ?_) ?_; rotate_left; (· (go_simp; try with_reducible rfl)); (try simp only [Act.put, List.setIfInBounds_toArray, List.set_cons_zero, List.set_cons_succ]))
     (refine uA 15 ?_ rfl hA0 hB0 (fun W hA => ?_) ?_; rotate_left; (· (go_simp; try with_reducible rfl)); (try simp only [Act.put, List.setIfInBounds_toArray, List.set_cons_zero, List.set_cons_succ]))
     (refine uS 16 rfl hA0 hB0 ?_; refine uS 17 rfl hA0 hB0 ?_; (try simp only [Act.put, List.setIfInBounds_toArray, List.set_cons_zero, List.set_cons_succ]))
     (refine uS 18 rfl hA0 hB0 ?_; refine uS 19 rfl hA0 hB0 ?_; (try simp only [Act.put, List.setIfInBounds_toArray, List.set_cons_zero, List.set_cons_succ]))
     (refine uS 20 rfl hA0 hB0 ?_; refine uS 21 rfl hA0 hB0 ?_; (try simp only [Act.put, List.setIfInBounds_toArray, List.set_cons_zero, List.set_cons_succ]))
     (refine uS 22 rfl hA0 hB0 ?_; refine uS 23 rfl hA0 hB0 ?_; (try simp only [Act.put, List.setIfInBounds_toArray, List.set_cons_zero, List.set_cons_succ]))
     (refine uS 24 rfl hA0 hB0 ?_; refine uS 25 rfl hA0 hB0 ?_; (try simp only [Act.put, List.setIfInBounds_toArray, List.set_cons_zero, List.set_cons_succ]))
     (refine uA 26 ?_ rfl hA0 hB0 (fun W hA => ?_) ?_; rotate_left; (· (go_simp; try with_reducible rfl)); (try simp only [Act.put, List.setIfInBounds_toArray, List.set_cons_zero, List.set_cons_succ]))
     refine uOne (i := 27) rfl (by kernel_rfl) (fun K hK => ?_)
     go_simp
     (refine hK _ _ ⟨hA0, fun h => absurd (h.symm.trans (by kernel_rfl : _ = true)) Bool.false_ne_true⟩ ?_; clear hK K; (try simp only [Act.put, List.setIfInBounds_toArray, List.set_cons_zero, List.set_cons_succ]))
     refine anyU_done (by kernel_rfl) ?_ _
     clear hA0 hA1 HAT KS
     -- Forward, Backward, Invariant at an error r; region 15
     have HC := Lib.hid (forward_bad A M E na ca nm cm ne ce a S cs ns set V cv nv ev we (HXW.out _ HBe.out) HSL.out (HSW.out _ HBe.out) hs1 hs2 HVL.out (HVW.out _ HBe.out) hv1 hv2 c (ckS_one HCK.out HZ.out) HZ.out)
     rw [HST.out] at HC
     have kx := KX.out.below HBe.out KX.out.lt
     have a0 := kx.cell (j := 0) rfl
     have a1 := kx.cell (j := 1) rfl
     have a2 := kx.cell (j := 2) rfl
     have a3 := kx.cell (j := 3) rfl
     have la := kx.lt
     clear kx
     go_wp2_with fail
     refine HC.out.mono ?_
     rintro e wf ⟨rfl, hb⟩
     have HBf := Lib.hid (HBe.out.trans (hb.mono HBe.out.size))
     clear a0 a1 a2 a3 la HC
     clear hb
     have HC := Lib.hid (backward_bad A M E na ca nm cm ne ce a S cs ns set V cv nv ev wf (HXW.out _ HBf.out) HSL.out (HSW.out _ HBf.out) hs1 hs2 HVL.out (HVW.out _ HBf.out) hv1 hv2 c (ckS_one HCK.out HZ.out) HZ.out)
     rw [HST.out] at HC
     have kx := KX.out.below HBf.out KX.out.lt
     have a0 := kx.cell (j := 0) rfl
     have a1 := kx.cell (j := 1) rfl
     have a2 := kx.cell (j := 2) rfl
     have a3 := kx.cell (j := 3) rfl
     have la := kx.lt
     clear kx
     go_wp2_with fail
     refine HC.out.mono ?_
     rintro e wg ⟨rfl, hb⟩
     have HBg := Lib.hid (HBf.out.trans (hb.mono HBf.out.size))
     clear a0 a1 a2 a3 la HC
     clear hb
     have HC := Lib.hid (invariant_bad A M E na ca nm cm ne ce a S cs ns set V cv nv ev wg (HXW.out _ HBg.out) HSL.out (HSW.out _ HBg.out) hs1 hs2 HVL.out (HVW.out _ HBg.out) hv1 hv2 c (ckS_one HCK.out HZ.out) HZ.out)
     rw [HST.out] at HC
     have kx := KX.out.below HBg.out KX.out.lt
     have a0 := kx.cell (j := 0) rfl
     have a1 := kx.cell (j := 1) rfl
     have a2 := kx.cell (j := 2) rfl
     have a3 := kx.cell (j := 3) rfl
     have la := kx.lt
     clear kx
     go_wp2_with fail
     refine HC.out.mono ?_
     rintro e wi ⟨rfl, hb⟩
     have HF := Lib.hid (HB1.out.trans ((HBg.out.trans (hb.mono HBg.out.size)).mono HB1.out.size))
     clear a0 a1 a2 a3 la HC
     clear hb
     go_wp2
     go_ret
     exact ⟨rfl, HF.out⟩
   ·have b2 : (12 : Int) < (nv : Int) := by omega
    have kx := KX.out.below HB2.out KX.out.lt
    have a0 := kx.cell (j := 0) rfl
    have a1 := kx.cell (j := 1) rfl
    have a2 := kx.cell (j := 2) rfl
    have a3 := kx.cell (j := 3) rfl
    have la := kx.lt
    clear kx
    go_wp2_with fail
    refine HC.out.mono ?_
    rintro e w3 ⟨rfl, hb⟩
    have HB3 := Lib.hid (HB2.out.trans (hb.mono HB2.out.size))
    clear a0 a1 a2 a3 la HC
    clear hb
    have HC := Lib.hid (law_known26 w3)
    go_wp2_with fail
    refine HC.out.mono ?_
    rintro e wz ⟨rfl, hb⟩
    have HF := Lib.hid (HB1.out.trans ((HB3.out.trans (hb.mono HB3.out.size)).mono HB1.out.size))
    clear hb HC
    go_wp2
    go_ret
    exact ⟨rfl, HF.out⟩
  ·have b1 : (12 : Int) < (ns : Int) := by omega
   have kx := KX.out.below HB2.out KX.out.lt
   have a0 := kx.cell (j := 0) rfl
   have a1 := kx.cell (j := 1) rfl
   have a2 := kx.cell (j := 2) rfl
   have a3 := kx.cell (j := 3) rfl
   have la := kx.lt
   clear kx
   go_wp2_with fail
   refine HC.out.mono ?_
   rintro e w3 ⟨rfl, hb⟩
   have HB3 := Lib.hid (HB2.out.trans (hb.mono HB2.out.size))
   clear a0 a1 a2 a3 la HC
   clear hb
   have HC := Lib.hid (law_known26 w3)
   go_wp2_with fail
   refine HC.out.mono ?_
   rintro e wz ⟨rfl, hb⟩
   have HF := Lib.hid (HB1.out.trans ((HB3.out.trans (hb.mono HB3.out.size)).mono HB1.out.size))
   clear hb HC
   go_wp2
   go_ret
   exact ⟨rfl, HF.out⟩
end Go.Proofs.YtcchnibgehonoaaDoor

/- Walks: the statements' Make of a system (chapter 45). Printed by wip/mkyt.py. -/
import Derived.Test.YtioijhpbedmeaaaGreatDoorYu
import Derived.Deep.Cut
import Derived.Deep.CutRange
import Derived.IntWalk
namespace Go.Proofs.YtioijhpbedmeaaaGreatDoor
open Go.RowKit Go Go.Maps
set_option maxRecDepth 100000 in
set_option maxHeartbeats 6400000 in
theorem law_MakeS (x : Sk) (w : World) (hok : x.ok) : Calls Tryz.prog 11 #[.agg (skcells x).toArray] w (RetSV x.p x.s x.u x.f x.tk w) := by
 have hb1 := (box_below w (.cells (skcells x).toArray 28)).alloc (by simp) (.cells #[.slice none 0 0, .int .i64 0, .slice none 0 0, .slice none 0 0, .slice none 0 0, .int .i64 0, .slice none 0 0, .slice none 0 0, .slice none 0 0, .slice none 0 0, .int .i64 0] 35)
 obtain ⟨w1, hw1⟩ : ∃ w1, w1 = (w.alloc (.cells (skcells x).toArray 28)).alloc (.cells #[.slice none 0 0, .int .i64 0, .slice none 0 0, .slice none 0 0, .slice none 0 0, .int .i64 0, .slice none 0 0, .slice none 0 0, .slice none 0 0, .slice none 0 0, .int .i64 0] 35) := ⟨_, rfl⟩
 have kx : Blk w1 w.heap.size 28 (skcells x) := by rw [hw1]; exact (Blk.new _ _ _).al _
 have kr : Blk w1 (w.heap.size + 1) 35 [.slice none 0 0, .int .i64 0, .slice none 0 0, .slice none 0 0, .slice none 0 0, .int .i64 0, .slice none 0 0, .slice none 0 0, .slice none 0 0, .slice none 0 0, .int .i64 0] := by rw [hw1]; exact Blk.at_ _ _ [_, _, _, _, _, _, _, _, _, _, _] (by simp)
 have sz1 : w1.heap.size = w.heap.size + 2 := by rw [hw1]; simp
 rw [← hw1] at hb1
 have HW1 := Lib.hid hw1; clear hw1
 have HB1 := Lib.hid hb1; clear hb1
 have KX := Lib.hid kx; clear kx
 have KR := Lib.hid kr; clear kr
 have SZ1 := Lib.hid sz1; clear sz1
 have HOK := Lib.hid hok; clear hok
 have HLP := Lib.hid (gcells_len HOK.out.pl)
 have HLS := Lib.hid (gcells_len HOK.out.su)
 obtain ⟨nv, hnv⟩ : ∃ m, (setB x.ev 5).length = m := ⟨_, rfl⟩
 have HNV := Lib.hid hnv; clear hnv
 have hnv5 : nv ≤ 5 := by rw [← HNV.out]; exact setB_le _ 5
 go_enter Tryz.func11, Tryz.ntmps11
 go_upto_region 1 with fail
 rw [← HW1.out]
 have HA1 := Lib.hid (fun (W : World) (hb : Below w1.heap.size w1 W) => SkA.of (KX.out.below hb KX.out.lt) HOK.out)
 have hev := (HA1.out w1 (Below.refl _ _)).1
 have hev0 := HOK.out.ev.1
 have hev1 := HOK.out.ev.2
 have HE := Lib.hid (set_Events x.ev w1 hev0 hev1)
 clear hev0 hev1
 go_wp2_with fail
 refine HE.out.mono ?_
 rintro e wa ⟨va, rfl, hoa, hba⟩
 rw [HNV.out] at hoa
 obtain ⟨AA, cA, rfl⟩ := own_shape hoa
 have HBA := Lib.hid hba
 have HRA := Lib.hid (RdU.own hoa HNV.out)
 clear hoa hba hev HE
 go_upto_if 12 with fail
 go_cut [3] from 13 to 13 (fun s3 wx => ∃ (AL : Option Addr) (nl cl : Nat), s3 = .slice AL nl cl ∧ 0 < nl ∧ nl ≤ 32 ∧ Hid (RdU wx AL nl cl x.l) ∧ Hid (Below w1.heap.size w1 wx))
 case first =>
  by_cases h0 : nv = 0
  ·have hs : setB x.ev 5 = [] := List.eq_nil_of_length_eq_zero (by rw [HNV.out]; exact h0)
   have HX := Lib.hid (show x.l = [0] by unfold Sk.l; rw [if_pos hs])
   have hb2 := box_below wa (.cells #[.int .i64 0] 3)
   have HB2 := Lib.hid (HBA.out.trans (hb2.mono HBA.out.size))
   have HR2 := Lib.hid (RdU.lit (n := 1) (u := [0]) (show Blk (wa.alloc (.cells #[.int .i64 0] 3)) wa.heap.size 3 (iv [0]) from Blk.new _ _ [_]) rfl (by omega))
   rw [← HX.out] at HR2
   clear hs hb2
   subst h0
   go_wp2_with fail
   go_meet
   case rel => exact ⟨_, 1, 1, rfl, by omega, by omega, HR2, HB2⟩
  ·have hs : setB x.ev 5 ≠ [] := fun e => h0 (by rw [← HNV.out, e]; rfl)
   have HX := Lib.hid (show x.l = setB x.ev 5 by unfold Sk.l; rw [if_neg hs])
   have HR2 := HRA
   rw [← HX.out] at HR2
   have d0 : ((nv : Int) == 0) = false := by rw [beq_eq_false_iff_ne]; omega
   clear hs
   go_wp2_with fail
   go_meet
   case rel => exact ⟨AA, nv, cA, rfl, by omega, by omega, HR2, HBA⟩
 case rest =>
  obtain ⟨AL, nl, cl, rfl, hnl0, hnl, HRL, HBX⟩ := hcut
  clear HRA HBA
  obtain ⟨w2, rfl⟩ : ∃ w2 : World, w2 = wc := ⟨_, rfl⟩
  go_upto_region 4 with fail
  obtain ⟨k, hk⟩ : ∃ k, x.ti.toNat % nl = k := ⟨_, rfl⟩
  have hkl : k < nl := by rw [← hk]; exact Nat.mod_lt _ hnl0
  have hll := HRL.out.len
  have hti0 := HOK.out.ti.1
  have hti1 := HOK.out.ti.2
  have hrem : (IntKind.i64.wrap x.ti).tmod (nl : Int) = (k : Int) := by
   rw [IntWalk.i64_in x.ti ⟨by omega, by omega⟩, Int.tmod_eq_emod_of_nonneg hti0, ← hk]
   have : x.ti = ((x.ti.toNat : Nat) : Int) := by omega
   rw [this]; simp
  have bn2 : ¬ nl = 0 := by omega
  obtain ⟨adl, tk, hAL, hbl, htk, hctk⟩ := HRL.out.rd.at_ (k := k) (by rw [hll]; exact hkl)
  subst hAL
  have HTK := Lib.hid (show x.tk = tk by unfold Sk.tk; rw [hll, hk, List.getD_eq_getElem?_getD, htk]; rfl)
  have HA2 := Lib.hid (fun (W : World) (hb : Below w2.heap.size w2 W) => (show SkA W w.heap.size x ∧ W.cell? (adl.add k) = some (.int .i64 tk) from ⟨HA1.out W (HBX.out.trans (hb.mono HBX.out.size)), (hb.cell (p := adl.add k) (by rw [block_of_add]; exact hbl)).trans hctk⟩))
  have HMP := Lib.hid (fun (W : World) (hb : Below w2.heap.size w2 W) => law_Make (some adl) cl nl x.l x.pl W hll ((HRL.out.below hb).rd) HRL.out.c1 HRL.out.c2 HOK.out.pl x.l_inc x.l_rng)
  have HMS := Lib.hid (fun (W : World) (hb : Below w2.heap.size w2 W) => law_Make (some adl) cl nl x.l x.su W hll ((HRL.out.below hb).rd) HRL.out.c1 HRL.out.c2 HOK.out.su x.l_inc x.l_rng)
  obtain ⟨P, hP⟩ : ∃ P, x.p = P := ⟨_, rfl⟩
  obtain ⟨S, hS⟩ : ∃ S, x.s = S := ⟨_, rfl⟩
  unfold Sk.p at hP
  unfold Sk.s at hS
  rw [hP] at HMP
  rw [hS] at HMS
  obtain ⟨sp, hsp⟩ : ∃ s, P.st = s := ⟨_, rfl⟩
  obtain ⟨ss, hss⟩ : ∃ s, S.st = s := ⟨_, rfl⟩
  have HPE := Lib.hid (show x.p = P from hP)
  have HSE := Lib.hid (show x.s = S from hS)
  have HSP := Lib.hid hsp
  have HSS := Lib.hid hss
  have bk0 : ¬ (k : Int) < 0 := by omega
  have bk1 : (k : Int) < (nl : Int) := by omega
  have bn0 : ¬ (nl : Int) = 0 := by omega
  have bn1 : ((nl : Int) == 0) = false := by rw [beq_eq_false_iff_ne]; omega
  have bk1 : k < nl := hkl
  clear hP hS hsp hss hll htk hctk hbl hk
  go_cut [4] from 14 to 31 (fun s4 wx => ∃ (bs : Nat) (p s : AV), s4 = .pointer (some ⟨bs, 0, none⟩) ∧ p.a = P ∧ s.a = S ∧ Hid (MkL w2.heap.size bs wx wx p s tk (.slice none 0 0) (.slice none 0 0) 0 0 [] []) ∧ Hid (Below w2.heap.size w2 wx))
  case first =>
   refine wp_region_U (fun W => SkA W w.heap.size x ∧ W.cell? (adl.add k) = some (.int .i64 tk)) (fun _ => True) 19 (by kernel_rfl) ?_
   change anyU _ _ _ _ _ _ _ 20 _ _ _
   have hB0 : True := trivial
   have HBD := Lib.hid (below_dr w2)
   generalize w2.drew = wd at HBD ⊢
   have hA0 := HA2.out wd HBD.out
   (refine uA 0 ?_ rfl hA0 hB0 (fun W hA => ?_) ?_; rotate_left; (· (go_simp; try with_reducible rfl)); refine uA 1 ?_ rfl hA0 hB0 (fun W hA => ?_) ?_; rotate_left; (· (go_simp; try with_reducible rfl)); (try simp only [Act.put, List.setIfInBounds_toArray, List.set_cons_zero, List.set_cons_succ]))
   refine uTakeY (i := 2) (v := .agg (gcells x.pl).toArray) rfl (by kernel_rfl) (fun _ _ _ h => h) ?_ ⟨hA0, fun _ => hB0⟩ ?_
   ·exact yieldsIf_load_mid (by rfl) 26 (.tmp 15) rfl w.heap.size 1 rfl (gcells x.pl) _ (fun W hW => hW.1.2.1) Tryz.underlying26 rfl (by rw [HLP.out]; kernel_rfl)
   (try simp only [Act.put, List.setIfInBounds_toArray, List.set_cons_zero, List.set_cons_succ])
   (refine uA 4 ?_ rfl hA0 hB0 (fun W hA => ?_) ?_; rotate_left; (· (go_simp; try with_reducible rfl)); refine uA 5 ?_ rfl hA0 hB0 (fun W hA => ?_) ?_; rotate_left; (· (go_simp; try with_reducible rfl)); (try simp only [Act.put, List.setIfInBounds_toArray, List.set_cons_zero, List.set_cons_succ]))
   refine uTakeY (i := 6) (v := .agg (gcells x.su).toArray) rfl (by kernel_rfl) (fun _ _ _ h => h) ?_ ⟨hA0, fun _ => hB0⟩ ?_
   ·exact yieldsIf_load_mid (by rfl) 26 (.tmp 19) rfl w.heap.size 28 rfl (gcells x.su) _ (fun W hW => hW.1.2.2.1) Tryz.underlying26 rfl (by rw [HLS.out]; kernel_rfl)
   (try simp only [Act.put, List.setIfInBounds_toArray, List.set_cons_zero, List.set_cons_succ])
   (refine uA 8 ?_ rfl hA0 hB0 (fun W hA => ?_) ?_; rotate_left; (· (go_simp; try with_reducible rfl)); refine uA 9 ?_ rfl hA0 hB0 (fun W hA => ?_) ?_; rotate_left; (· (go_simp; try with_reducible rfl)); (try simp only [Act.put, List.setIfInBounds_toArray, List.set_cons_zero, List.set_cons_succ]))
   (refine uA 10 ?_ rfl hA0 hB0 (fun W hA => ?_) ?_; rotate_left; (· (obtain ⟨⟨_, _, _, _, _, a0⟩, _⟩ := hA; go_simp; try with_reducible rfl)); (try simp only [Act.put, List.setIfInBounds_toArray, List.set_cons_zero, List.set_cons_succ]))
   (refine uA 11 ?_ rfl hA0 hB0 (fun W hA => ?_) ?_; rotate_left; (· (go_simp; try with_reducible rfl)); refine uA 12 ?_ rfl hA0 hB0 (fun W hA => ?_) ?_; rotate_left; (· (go_simp; try with_reducible rfl)); (try simp only [Act.put, List.setIfInBounds_toArray, List.set_cons_zero, List.set_cons_succ]))
   (refine uA 13 ?_ rfl hA0 hB0 (fun W hA => ?_) ?_; rotate_left; (· (go_simp; try with_reducible rfl)); refine uA 14 ?_ rfl hA0 hB0 (fun W hA => ?_) ?_; rotate_left; (· (go_simp; try with_reducible rfl)); refine uA 15 ?_ rfl hA0 hB0 (fun W hA => ?_) ?_; rotate_left; (· (go_simp; try with_reducible rfl)); (try simp only [Act.put, List.setIfInBounds_toArray, List.set_cons_zero, List.set_cons_succ]))
   (refine uA 16 ?_ rfl hA0 hB0 (fun W hA => ?_) ?_; rotate_left; (· (obtain ⟨_, a0⟩ := hA; go_simp; try with_reducible rfl)); (try simp only [Act.put, List.setIfInBounds_toArray, List.set_cons_zero, List.set_cons_succ]))
   refine uTwo (i := 3) (j := 18) rfl rfl (by kernel_rfl) (fun K hK => ?_) (fun K hK => ?_)
   ·skip
    go_simp
    go_at_call 40
    refine (HMP.out wd HBD.out).mono ?_
    rintro e wm1 ⟨A9, na9, ca9, M9, nm9, cm9, E9, ne9, ce9, rfl, ho9, hb9⟩
    rw [HSP.out]
    have HBM1 := Lib.hid (HBD.out.trans (hb9.mono HBD.out.size))
    have HOP1 := Lib.hid (ho9.down (b0 := w2.heap.size) HBD.out.size)
    have hA1 := HA2.out wm1 HBM1.out
    clear hA0 ho9 hb9
    (refine hK _ _ ⟨hA1, fun _ => hB0⟩ ?_; clear hK K; (try simp only [Act.put, List.setIfInBounds_toArray, List.set_cons_zero, List.set_cons_succ]))
    refine uTwo (i := 7) (j := 18) rfl rfl (by kernel_rfl) (fun K hK => ?_) (fun K hK => ?_)
    ·skip
     go_simp
     go_at_call 40
     refine (HMS.out wm1 HBM1.out).mono ?_
     rintro e wm2 ⟨A8, na8, ca8, M8, nm8, cm8, E8, ne8, ce8, rfl, ho8, hb8⟩
     rw [HSS.out]
     have HBM2 := Lib.hid (HBM1.out.trans (hb8.mono HBM1.out.size))
     have HOP1_2 := Lib.hid (HOP1.out.below hb8)
     have HOS2 := Lib.hid (ho8.down (b0 := w2.heap.size) HBM1.out.size)
     have hA2 := HA2.out wm2 HBM2.out
     clear hA1 ho8 hb8
     (refine hK _ _ ⟨hA2, fun _ => hB0⟩ ?_; clear hK K; (try simp only [Act.put, List.setIfInBounds_toArray, List.set_cons_zero, List.set_cons_succ]))
     have hA0 := hA2
     clear hA2
     (refine uA 17 ?_ rfl hA0 hB0 (fun W hA => ?_) ?_; rotate_left; (· (go_simp; try with_reducible rfl)); (try simp only [Act.put, List.setIfInBounds_toArray, List.set_cons_zero, List.set_cons_succ]))
     refine uOne (i := 18) rfl (by kernel_rfl) (fun K hK => ?_)
     go_simp
     have hx := box_below wm2 (.cells #[.slice none 0 0, .int .i64 0, .slice none 0 0, .slice none 0 0, .slice none 0 0, .int .i64 0, .slice none 0 0, .slice none 0 0, .slice none 0 0, .slice none 0 0, .int .i64 0] 35)
     have HBM3 := Lib.hid (HBM2.out.trans (hx.mono HBM2.out.size))
     have HK3 := Lib.hid (show Blk (wm2.alloc (.cells #[.slice none 0 0, .int .i64 0, .slice none 0 0, .slice none 0 0, .slice none 0 0, .int .i64 0, .slice none 0 0, .slice none 0 0, .slice none 0 0, .slice none 0 0, .int .i64 0] 35)) wm2.heap.size 35 [.slice none 0 0, .int .i64 0, .slice none 0 0, .slice none 0 0, .slice none 0 0, .int .i64 0, .slice none 0 0, .slice none 0 0, .slice none 0 0, .slice none 0 0, .int .i64 0] from Blk.new _ _ [_, _, _, _, _, _, _, _, _, _, _])
     have HOP1_2_3 := Lib.hid (HOP1_2.out.below hx)
     have HOS2_3 := Lib.hid (HOS2.out.below hx)
     have hA3 := HA2.out _ HBM3.out
     clear hx hA0
     (refine hK _ _ ⟨hA3, fun _ => hB0⟩ ?_; clear hK K; (try simp only [Act.put, List.setIfInBounds_toArray, List.set_cons_zero, List.set_cons_succ]))
     generalize wm2.alloc (.cells #[.slice none 0 0, .int .i64 0, .slice none 0 0, .slice none 0 0, .slice none 0 0, .int .i64 0, .slice none 0 0, .slice none 0 0, .slice none 0 0, .slice none 0 0, .int .i64 0] 35) = wm3 at HBM3 HK3 hA3 HOP1_2_3 HOS2_3 ⊢
     refine uOne (i := 19) rfl (by kernel_rfl) (fun K hK => ?_)
     have f0 := HK3.out.free 0
     have e0 := HK3.out.cell (j := 0) rfl
     have f1 := HK3.out.free 1
     have e1 := HK3.out.cell (j := 1) rfl
     have f2 := HK3.out.free 2
     have e2 := HK3.out.cell (j := 2) rfl
     have f3 := HK3.out.free 3
     have e3 := HK3.out.cell (j := 3) rfl
     have f4 := HK3.out.free 4
     have e4 := HK3.out.cell (j := 4) rfl
     have f5 := HK3.out.free 5
     have e5 := HK3.out.cell (j := 5) rfl
     have f6 := HK3.out.free 6
     have e6 := HK3.out.cell (j := 6) rfl
     have f7 := HK3.out.free 7
     have e7 := HK3.out.cell (j := 7) rfl
     have f8 := HK3.out.free 8
     have e8 := HK3.out.cell (j := 8) rfl
     have f9 := HK3.out.free 9
     have e9 := HK3.out.cell (j := 9) rfl
     have f10 := HK3.out.free 10
     have e10 := HK3.out.cell (j := 10) rfl
     have l9 := HK3.out.lt
     have HG9 := Lib.hid (show wm3.grownBy (((((((((((wm3.setCell ⟨wm2.heap.size, 0, none⟩ (.slice A9 na9 ca9)).setCell ⟨wm2.heap.size, 1, none⟩ (.int .i64 sp)).setCell ⟨wm2.heap.size, 2, none⟩ (.slice M9 nm9 cm9)).setCell ⟨wm2.heap.size, 3, none⟩ (.slice E9 ne9 ce9)).setCell ⟨wm2.heap.size, 4, none⟩ (.slice A8 na8 ca8)).setCell ⟨wm2.heap.size, 5, none⟩ (.int .i64 ss)).setCell ⟨wm2.heap.size, 6, none⟩ (.slice M8 nm8 cm8)).setCell ⟨wm2.heap.size, 7, none⟩ (.slice E8 ne8 ce8)).setCell ⟨wm2.heap.size, 8, none⟩ (.slice none 0 0)).setCell ⟨wm2.heap.size, 9, none⟩ (.slice none 0 0)).setCell ⟨wm2.heap.size, 10, none⟩ (.int .i64 tk)) (some wm2.heap.size) from (((((((((((grown_setCell _ _ 0 (.slice A9 na9 ca9)).trans (grown_setCell _ _ 1 (.int .i64 sp))).trans (grown_setCell _ _ 2 (.slice M9 nm9 cm9))).trans (grown_setCell _ _ 3 (.slice E9 ne9 ce9))).trans (grown_setCell _ _ 4 (.slice A8 na8 ca8))).trans (grown_setCell _ _ 5 (.int .i64 ss))).trans (grown_setCell _ _ 6 (.slice M8 nm8 cm8))).trans (grown_setCell _ _ 7 (.slice E8 ne8 ce8))).trans (grown_setCell _ _ 8 (.slice none 0 0))).trans (grown_setCell _ _ 9 (.slice none 0 0))).trans (grown_setCell _ _ 10 (.int .i64 tk))))
     have HV2 := Lib.hid (((((((((((HK3.out.set (j := 0) (by simp) (.slice A9 na9 ca9)).set (j := 1) (by simp) (.int .i64 sp)).set (j := 2) (by simp) (.slice M9 nm9 cm9)).set (j := 3) (by simp) (.slice E9 ne9 ce9)).set (j := 4) (by simp) (.slice A8 na8 ca8)).set (j := 5) (by simp) (.int .i64 ss)).set (j := 6) (by simp) (.slice M8 nm8 cm8)).set (j := 7) (by simp) (.slice E8 ne8 ce8)).set (j := 8) (by simp) (.slice none 0 0)).set (j := 9) (by simp) (.slice none 0 0)).set (j := 10) (by simp) (.int .i64 tk))
     have HF2 := Lib.hid (((((((((((HBM3.out.setCell (p := ⟨wm2.heap.size, 0, none⟩) HBM2.out.size (.slice A9 na9 ca9)).setCell (p := ⟨wm2.heap.size, 1, none⟩) HBM2.out.size (.int .i64 sp)).setCell (p := ⟨wm2.heap.size, 2, none⟩) HBM2.out.size (.slice M9 nm9 cm9)).setCell (p := ⟨wm2.heap.size, 3, none⟩) HBM2.out.size (.slice E9 ne9 ce9)).setCell (p := ⟨wm2.heap.size, 4, none⟩) HBM2.out.size (.slice A8 na8 ca8)).setCell (p := ⟨wm2.heap.size, 5, none⟩) HBM2.out.size (.int .i64 ss)).setCell (p := ⟨wm2.heap.size, 6, none⟩) HBM2.out.size (.slice M8 nm8 cm8)).setCell (p := ⟨wm2.heap.size, 7, none⟩) HBM2.out.size (.slice E8 ne8 ce8)).setCell (p := ⟨wm2.heap.size, 8, none⟩) HBM2.out.size (.slice none 0 0)).setCell (p := ⟨wm2.heap.size, 9, none⟩) HBM2.out.size (.slice none 0 0)).setCell (p := ⟨wm2.heap.size, 10, none⟩) HBM2.out.size (.int .i64 tk))
     have HOP9 := Lib.hid (HOP1_2_3.out)
     have HOS9 := Lib.hid (HOS2_3.out)
     have hAf := HA2.out _ HF2.out
     go_simp
     (refine hK _ _ ⟨hAf, fun _ => hB0⟩ ?_; clear hK K; (try simp only [Act.put, List.setIfInBounds_toArray, List.set_cons_zero, List.set_cons_succ]))
     refine anyU_done (by kernel_rfl) ?_ _
     clear hAf hA3 l9 f0 e0 f1 e1 f2 e2 f3 e3 f4 e4 f5 e5 f6 e6 f7 e7 f8 e8 f9 e9 f10 e10
     go_wp2_with fail
     go_meet
     case rel =>
      have hz := HG9.out.size
      have hlt := Nat.lt_of_lt_of_le HK3.out.lt hz
      have q1 := (FarA.new (x := ⟨A9, na9, ca9, M9, nm9, cm9, E9, ne9, ce9, P⟩) HOP9.out).cell HK3.out (by decide) (by decide) HG9.out
      have q2 := (FarA.new (x := ⟨A8, na8, ca8, M8, nm8, cm8, E8, ne8, ce8, S⟩) HOS9.out).cell HK3.out (by decide) (by decide) HG9.out
      refine ⟨wm2.heap.size, ⟨A9, na9, ca9, M9, nm9, cm9, E9, ne9, ce9, P⟩, ⟨A8, na8, ca8, M8, nm8, cm8, E8, ne8, ce8, S⟩, rfl, rfl, rfl, Lib.hid ⟨Below.refl _ _, Nat.le_refl _, ?_, HBM2.out.size, hlt, ⟨q1.o, fun g hg => Nat.lt_of_lt_of_le (q1.la g hg) hz, fun g hg => Nat.lt_of_lt_of_le (q1.lm g hg) hz, fun g hg => Nat.lt_of_lt_of_le (q1.le g hg) hz⟩, ⟨q2.o, fun g hg => Nat.lt_of_lt_of_le (q2.la g hg) hz, fun g hg => Nat.lt_of_lt_of_le (q2.lm g hg) hz, fun g hg => Nat.lt_of_lt_of_le (q2.le g hg) hz⟩, World.ownsRow_nil _ _ _ _, World.ownsRow_nil _ _ _ _, rfl, rfl, fun g hg => by simp [Value.ownBlock] at hg⟩, HF2⟩
      unfold sysv
      dsimp only
      rw [HSP.out, HSS.out]
      exact HV2.out
    ·skip
     go_simp
     have hx := box_below wm1 (.cells #[.slice none 0 0, .int .i64 0, .slice none 0 0, .slice none 0 0, .slice none 0 0, .int .i64 0, .slice none 0 0, .slice none 0 0, .slice none 0 0, .slice none 0 0, .int .i64 0] 35)
     have HBM4 := Lib.hid (HBM1.out.trans (hx.mono HBM1.out.size))
     have HK4 := Lib.hid (show Blk (wm1.alloc (.cells #[.slice none 0 0, .int .i64 0, .slice none 0 0, .slice none 0 0, .slice none 0 0, .int .i64 0, .slice none 0 0, .slice none 0 0, .slice none 0 0, .slice none 0 0, .int .i64 0] 35)) wm1.heap.size 35 [.slice none 0 0, .int .i64 0, .slice none 0 0, .slice none 0 0, .slice none 0 0, .int .i64 0, .slice none 0 0, .slice none 0 0, .slice none 0 0, .slice none 0 0, .int .i64 0] from Blk.new _ _ [_, _, _, _, _, _, _, _, _, _, _])
     have HOP1_4 := Lib.hid (HOP1.out.below hx)
     have hA4 := HA2.out _ HBM4.out
     clear hx hA1
     (refine hK _ _ ⟨hA4, fun _ => hB0⟩ ?_; clear hK K; (try simp only [Act.put, List.setIfInBounds_toArray, List.set_cons_zero, List.set_cons_succ]))
     generalize wm1.alloc (.cells #[.slice none 0 0, .int .i64 0, .slice none 0 0, .slice none 0 0, .slice none 0 0, .int .i64 0, .slice none 0 0, .slice none 0 0, .slice none 0 0, .slice none 0 0, .int .i64 0] 35) = wm4 at HBM4 HK4 hA4 HOP1_4 ⊢
     refine uOne (i := 7) rfl (by kernel_rfl) (fun K hK => ?_)
     go_simp
     go_at_call 40
     refine (HMS.out wm4 HBM4.out).mono ?_
     rintro e wm5 ⟨A8, na8, ca8, M8, nm8, cm8, E8, ne8, ce8, rfl, ho8, hb8⟩
     rw [HSS.out]
     have HBM5 := Lib.hid (HBM4.out.trans (hb8.mono HBM4.out.size))
     have HK5 := Lib.hid (HK4.out.below hb8 HK4.out.lt)
     have HOP1_4_5 := Lib.hid (HOP1_4.out.below hb8)
     have HOS5 := Lib.hid (ho8.down (b0 := w2.heap.size) HBM4.out.size)
     have hA5 := HA2.out wm5 HBM5.out
     clear hA4 ho8 hb8
     (refine hK _ _ ⟨hA5, fun _ => hB0⟩ ?_; clear hK K; (try simp only [Act.put, List.setIfInBounds_toArray, List.set_cons_zero, List.set_cons_succ]))
     have hA0 := hA5
     clear hA5
     (refine uA 17 ?_ rfl hA0 hB0 (fun W hA => ?_) ?_; rotate_left; (· (go_simp; try with_reducible rfl)); (try simp only [Act.put, List.setIfInBounds_toArray, List.set_cons_zero, List.set_cons_succ]))
     refine uOne (i := 19) rfl (by kernel_rfl) (fun K hK => ?_)
     have f0 := HK5.out.free 0
     have e0 := HK5.out.cell (j := 0) rfl
     have f1 := HK5.out.free 1
     have e1 := HK5.out.cell (j := 1) rfl
     have f2 := HK5.out.free 2
     have e2 := HK5.out.cell (j := 2) rfl
     have f3 := HK5.out.free 3
     have e3 := HK5.out.cell (j := 3) rfl
     have f4 := HK5.out.free 4
     have e4 := HK5.out.cell (j := 4) rfl
     have f5 := HK5.out.free 5
     have e5 := HK5.out.cell (j := 5) rfl
     have f6 := HK5.out.free 6
     have e6 := HK5.out.cell (j := 6) rfl
     have f7 := HK5.out.free 7
     have e7 := HK5.out.cell (j := 7) rfl
     have f8 := HK5.out.free 8
     have e8 := HK5.out.cell (j := 8) rfl
     have f9 := HK5.out.free 9
     have e9 := HK5.out.cell (j := 9) rfl
     have f10 := HK5.out.free 10
     have e10 := HK5.out.cell (j := 10) rfl
     have l9 := HK5.out.lt
     have HG9 := Lib.hid (show wm5.grownBy (((((((((((wm5.setCell ⟨wm1.heap.size, 0, none⟩ (.slice A9 na9 ca9)).setCell ⟨wm1.heap.size, 1, none⟩ (.int .i64 sp)).setCell ⟨wm1.heap.size, 2, none⟩ (.slice M9 nm9 cm9)).setCell ⟨wm1.heap.size, 3, none⟩ (.slice E9 ne9 ce9)).setCell ⟨wm1.heap.size, 4, none⟩ (.slice A8 na8 ca8)).setCell ⟨wm1.heap.size, 5, none⟩ (.int .i64 ss)).setCell ⟨wm1.heap.size, 6, none⟩ (.slice M8 nm8 cm8)).setCell ⟨wm1.heap.size, 7, none⟩ (.slice E8 ne8 ce8)).setCell ⟨wm1.heap.size, 8, none⟩ (.slice none 0 0)).setCell ⟨wm1.heap.size, 9, none⟩ (.slice none 0 0)).setCell ⟨wm1.heap.size, 10, none⟩ (.int .i64 tk)) (some wm1.heap.size) from (((((((((((grown_setCell _ _ 0 (.slice A9 na9 ca9)).trans (grown_setCell _ _ 1 (.int .i64 sp))).trans (grown_setCell _ _ 2 (.slice M9 nm9 cm9))).trans (grown_setCell _ _ 3 (.slice E9 ne9 ce9))).trans (grown_setCell _ _ 4 (.slice A8 na8 ca8))).trans (grown_setCell _ _ 5 (.int .i64 ss))).trans (grown_setCell _ _ 6 (.slice M8 nm8 cm8))).trans (grown_setCell _ _ 7 (.slice E8 ne8 ce8))).trans (grown_setCell _ _ 8 (.slice none 0 0))).trans (grown_setCell _ _ 9 (.slice none 0 0))).trans (grown_setCell _ _ 10 (.int .i64 tk))))
     have HV2 := Lib.hid (((((((((((HK5.out.set (j := 0) (by simp) (.slice A9 na9 ca9)).set (j := 1) (by simp) (.int .i64 sp)).set (j := 2) (by simp) (.slice M9 nm9 cm9)).set (j := 3) (by simp) (.slice E9 ne9 ce9)).set (j := 4) (by simp) (.slice A8 na8 ca8)).set (j := 5) (by simp) (.int .i64 ss)).set (j := 6) (by simp) (.slice M8 nm8 cm8)).set (j := 7) (by simp) (.slice E8 ne8 ce8)).set (j := 8) (by simp) (.slice none 0 0)).set (j := 9) (by simp) (.slice none 0 0)).set (j := 10) (by simp) (.int .i64 tk))
     have HF2 := Lib.hid (((((((((((HBM5.out.setCell (p := ⟨wm1.heap.size, 0, none⟩) HBM1.out.size (.slice A9 na9 ca9)).setCell (p := ⟨wm1.heap.size, 1, none⟩) HBM1.out.size (.int .i64 sp)).setCell (p := ⟨wm1.heap.size, 2, none⟩) HBM1.out.size (.slice M9 nm9 cm9)).setCell (p := ⟨wm1.heap.size, 3, none⟩) HBM1.out.size (.slice E9 ne9 ce9)).setCell (p := ⟨wm1.heap.size, 4, none⟩) HBM1.out.size (.slice A8 na8 ca8)).setCell (p := ⟨wm1.heap.size, 5, none⟩) HBM1.out.size (.int .i64 ss)).setCell (p := ⟨wm1.heap.size, 6, none⟩) HBM1.out.size (.slice M8 nm8 cm8)).setCell (p := ⟨wm1.heap.size, 7, none⟩) HBM1.out.size (.slice E8 ne8 ce8)).setCell (p := ⟨wm1.heap.size, 8, none⟩) HBM1.out.size (.slice none 0 0)).setCell (p := ⟨wm1.heap.size, 9, none⟩) HBM1.out.size (.slice none 0 0)).setCell (p := ⟨wm1.heap.size, 10, none⟩) HBM1.out.size (.int .i64 tk))
     have HOP9 := Lib.hid (HOP1_4_5.out)
     have HOS9 := Lib.hid (HOS5.out)
     have hAf := HA2.out _ HF2.out
     go_simp
     (refine hK _ _ ⟨hAf, fun _ => hB0⟩ ?_; clear hK K; (try simp only [Act.put, List.setIfInBounds_toArray, List.set_cons_zero, List.set_cons_succ]))
     refine anyU_done (by kernel_rfl) ?_ _
     clear hAf hA0 l9 f0 e0 f1 e1 f2 e2 f3 e3 f4 e4 f5 e5 f6 e6 f7 e7 f8 e8 f9 e9 f10 e10
     go_wp2_with fail
     go_meet
     case rel =>
      have hz := HG9.out.size
      have hlt := Nat.lt_of_lt_of_le HK5.out.lt hz
      have q1 := (FarA.new (x := ⟨A9, na9, ca9, M9, nm9, cm9, E9, ne9, ce9, P⟩) HOP9.out).cell HK5.out (by decide) (by decide) HG9.out
      have q2 := (FarA.new (x := ⟨A8, na8, ca8, M8, nm8, cm8, E8, ne8, ce8, S⟩) HOS9.out).cell HK5.out (by decide) (by decide) HG9.out
      refine ⟨wm1.heap.size, ⟨A9, na9, ca9, M9, nm9, cm9, E9, ne9, ce9, P⟩, ⟨A8, na8, ca8, M8, nm8, cm8, E8, ne8, ce8, S⟩, rfl, rfl, rfl, Lib.hid ⟨Below.refl _ _, Nat.le_refl _, ?_, HBM1.out.size, hlt, ⟨q1.o, fun g hg => Nat.lt_of_lt_of_le (q1.la g hg) hz, fun g hg => Nat.lt_of_lt_of_le (q1.lm g hg) hz, fun g hg => Nat.lt_of_lt_of_le (q1.le g hg) hz⟩, ⟨q2.o, fun g hg => Nat.lt_of_lt_of_le (q2.la g hg) hz, fun g hg => Nat.lt_of_lt_of_le (q2.lm g hg) hz, fun g hg => Nat.lt_of_lt_of_le (q2.le g hg) hz⟩, World.ownsRow_nil _ _ _ _, World.ownsRow_nil _ _ _ _, rfl, rfl, fun g hg => by simp [Value.ownBlock] at hg⟩, HF2⟩
      unfold sysv
      dsimp only
      rw [HSP.out, HSS.out]
      exact HV2.out
   ·skip
    go_simp
    have hx := box_below wd (.cells #[.slice none 0 0, .int .i64 0, .slice none 0 0, .slice none 0 0, .slice none 0 0, .int .i64 0, .slice none 0 0, .slice none 0 0, .slice none 0 0, .slice none 0 0, .int .i64 0] 35)
    have HBM6 := Lib.hid (HBD.out.trans (hx.mono HBD.out.size))
    have HK6 := Lib.hid (show Blk (wd.alloc (.cells #[.slice none 0 0, .int .i64 0, .slice none 0 0, .slice none 0 0, .slice none 0 0, .int .i64 0, .slice none 0 0, .slice none 0 0, .slice none 0 0, .slice none 0 0, .int .i64 0] 35)) wd.heap.size 35 [.slice none 0 0, .int .i64 0, .slice none 0 0, .slice none 0 0, .slice none 0 0, .int .i64 0, .slice none 0 0, .slice none 0 0, .slice none 0 0, .slice none 0 0, .int .i64 0] from Blk.new _ _ [_, _, _, _, _, _, _, _, _, _, _])
    have hA6 := HA2.out _ HBM6.out
    clear hx hA0
    (refine hK _ _ ⟨hA6, fun _ => hB0⟩ ?_; clear hK K; (try simp only [Act.put, List.setIfInBounds_toArray, List.set_cons_zero, List.set_cons_succ]))
    generalize wd.alloc (.cells #[.slice none 0 0, .int .i64 0, .slice none 0 0, .slice none 0 0, .slice none 0 0, .int .i64 0, .slice none 0 0, .slice none 0 0, .slice none 0 0, .slice none 0 0, .int .i64 0] 35) = wm6 at HBM6 HK6 hA6 ⊢
    refine uOne (i := 3) rfl (by kernel_rfl) (fun K hK => ?_)
    go_simp
    go_at_call 40
    refine (HMP.out wm6 HBM6.out).mono ?_
    rintro e wm7 ⟨A9, na9, ca9, M9, nm9, cm9, E9, ne9, ce9, rfl, ho9, hb9⟩
    rw [HSP.out]
    have HBM7 := Lib.hid (HBM6.out.trans (hb9.mono HBM6.out.size))
    have HK7 := Lib.hid (HK6.out.below hb9 HK6.out.lt)
    have HOP7 := Lib.hid (ho9.down (b0 := w2.heap.size) HBM6.out.size)
    have hA7 := HA2.out wm7 HBM7.out
    clear hA6 ho9 hb9
    (refine hK _ _ ⟨hA7, fun _ => hB0⟩ ?_; clear hK K; (try simp only [Act.put, List.setIfInBounds_toArray, List.set_cons_zero, List.set_cons_succ]))
    refine uOne (i := 7) rfl (by kernel_rfl) (fun K hK => ?_)
    go_simp
    go_at_call 40
    refine (HMS.out wm7 HBM7.out).mono ?_
    rintro e wm8 ⟨A8, na8, ca8, M8, nm8, cm8, E8, ne8, ce8, rfl, ho8, hb8⟩
    rw [HSS.out]
    have HBM8 := Lib.hid (HBM7.out.trans (hb8.mono HBM7.out.size))
    have HK8 := Lib.hid (HK7.out.below hb8 HK7.out.lt)
    have HOP7_8 := Lib.hid (HOP7.out.below hb8)
    have HOS8 := Lib.hid (ho8.down (b0 := w2.heap.size) HBM7.out.size)
    have hA8 := HA2.out wm8 HBM8.out
    clear hA7 ho8 hb8
    (refine hK _ _ ⟨hA8, fun _ => hB0⟩ ?_; clear hK K; (try simp only [Act.put, List.setIfInBounds_toArray, List.set_cons_zero, List.set_cons_succ]))
    have hA0 := hA8
    clear hA8
    (refine uA 17 ?_ rfl hA0 hB0 (fun W hA => ?_) ?_; rotate_left; (· (go_simp; try with_reducible rfl)); (try simp only [Act.put, List.setIfInBounds_toArray, List.set_cons_zero, List.set_cons_succ]))
    refine uOne (i := 19) rfl (by kernel_rfl) (fun K hK => ?_)
    have f0 := HK8.out.free 0
    have e0 := HK8.out.cell (j := 0) rfl
    have f1 := HK8.out.free 1
    have e1 := HK8.out.cell (j := 1) rfl
    have f2 := HK8.out.free 2
    have e2 := HK8.out.cell (j := 2) rfl
    have f3 := HK8.out.free 3
    have e3 := HK8.out.cell (j := 3) rfl
    have f4 := HK8.out.free 4
    have e4 := HK8.out.cell (j := 4) rfl
    have f5 := HK8.out.free 5
    have e5 := HK8.out.cell (j := 5) rfl
    have f6 := HK8.out.free 6
    have e6 := HK8.out.cell (j := 6) rfl
    have f7 := HK8.out.free 7
    have e7 := HK8.out.cell (j := 7) rfl
    have f8 := HK8.out.free 8
    have e8 := HK8.out.cell (j := 8) rfl
    have f9 := HK8.out.free 9
    have e9 := HK8.out.cell (j := 9) rfl
    have f10 := HK8.out.free 10
    have e10 := HK8.out.cell (j := 10) rfl
    have l9 := HK8.out.lt
    have HG9 := Lib.hid (show wm8.grownBy (((((((((((wm8.setCell ⟨wd.heap.size, 0, none⟩ (.slice A9 na9 ca9)).setCell ⟨wd.heap.size, 1, none⟩ (.int .i64 sp)).setCell ⟨wd.heap.size, 2, none⟩ (.slice M9 nm9 cm9)).setCell ⟨wd.heap.size, 3, none⟩ (.slice E9 ne9 ce9)).setCell ⟨wd.heap.size, 4, none⟩ (.slice A8 na8 ca8)).setCell ⟨wd.heap.size, 5, none⟩ (.int .i64 ss)).setCell ⟨wd.heap.size, 6, none⟩ (.slice M8 nm8 cm8)).setCell ⟨wd.heap.size, 7, none⟩ (.slice E8 ne8 ce8)).setCell ⟨wd.heap.size, 8, none⟩ (.slice none 0 0)).setCell ⟨wd.heap.size, 9, none⟩ (.slice none 0 0)).setCell ⟨wd.heap.size, 10, none⟩ (.int .i64 tk)) (some wd.heap.size) from (((((((((((grown_setCell _ _ 0 (.slice A9 na9 ca9)).trans (grown_setCell _ _ 1 (.int .i64 sp))).trans (grown_setCell _ _ 2 (.slice M9 nm9 cm9))).trans (grown_setCell _ _ 3 (.slice E9 ne9 ce9))).trans (grown_setCell _ _ 4 (.slice A8 na8 ca8))).trans (grown_setCell _ _ 5 (.int .i64 ss))).trans (grown_setCell _ _ 6 (.slice M8 nm8 cm8))).trans (grown_setCell _ _ 7 (.slice E8 ne8 ce8))).trans (grown_setCell _ _ 8 (.slice none 0 0))).trans (grown_setCell _ _ 9 (.slice none 0 0))).trans (grown_setCell _ _ 10 (.int .i64 tk))))
    have HV2 := Lib.hid (((((((((((HK8.out.set (j := 0) (by simp) (.slice A9 na9 ca9)).set (j := 1) (by simp) (.int .i64 sp)).set (j := 2) (by simp) (.slice M9 nm9 cm9)).set (j := 3) (by simp) (.slice E9 ne9 ce9)).set (j := 4) (by simp) (.slice A8 na8 ca8)).set (j := 5) (by simp) (.int .i64 ss)).set (j := 6) (by simp) (.slice M8 nm8 cm8)).set (j := 7) (by simp) (.slice E8 ne8 ce8)).set (j := 8) (by simp) (.slice none 0 0)).set (j := 9) (by simp) (.slice none 0 0)).set (j := 10) (by simp) (.int .i64 tk))
    have HF2 := Lib.hid (((((((((((HBM8.out.setCell (p := ⟨wd.heap.size, 0, none⟩) HBD.out.size (.slice A9 na9 ca9)).setCell (p := ⟨wd.heap.size, 1, none⟩) HBD.out.size (.int .i64 sp)).setCell (p := ⟨wd.heap.size, 2, none⟩) HBD.out.size (.slice M9 nm9 cm9)).setCell (p := ⟨wd.heap.size, 3, none⟩) HBD.out.size (.slice E9 ne9 ce9)).setCell (p := ⟨wd.heap.size, 4, none⟩) HBD.out.size (.slice A8 na8 ca8)).setCell (p := ⟨wd.heap.size, 5, none⟩) HBD.out.size (.int .i64 ss)).setCell (p := ⟨wd.heap.size, 6, none⟩) HBD.out.size (.slice M8 nm8 cm8)).setCell (p := ⟨wd.heap.size, 7, none⟩) HBD.out.size (.slice E8 ne8 ce8)).setCell (p := ⟨wd.heap.size, 8, none⟩) HBD.out.size (.slice none 0 0)).setCell (p := ⟨wd.heap.size, 9, none⟩) HBD.out.size (.slice none 0 0)).setCell (p := ⟨wd.heap.size, 10, none⟩) HBD.out.size (.int .i64 tk))
    have HOP9 := Lib.hid (HOP7_8.out)
    have HOS9 := Lib.hid (HOS8.out)
    have hAf := HA2.out _ HF2.out
    go_simp
    (refine hK _ _ ⟨hAf, fun _ => hB0⟩ ?_; clear hK K; (try simp only [Act.put, List.setIfInBounds_toArray, List.set_cons_zero, List.set_cons_succ]))
    refine anyU_done (by kernel_rfl) ?_ _
    clear hAf hA0 l9 f0 e0 f1 e1 f2 e2 f3 e3 f4 e4 f5 e5 f6 e6 f7 e7 f8 e8 f9 e9 f10 e10
    go_wp2_with fail
    go_meet
    case rel =>
     have hz := HG9.out.size
     have hlt := Nat.lt_of_lt_of_le HK8.out.lt hz
     have q1 := (FarA.new (x := ⟨A9, na9, ca9, M9, nm9, cm9, E9, ne9, ce9, P⟩) HOP9.out).cell HK8.out (by decide) (by decide) HG9.out
     have q2 := (FarA.new (x := ⟨A8, na8, ca8, M8, nm8, cm8, E8, ne8, ce8, S⟩) HOS9.out).cell HK8.out (by decide) (by decide) HG9.out
     refine ⟨wd.heap.size, ⟨A9, na9, ca9, M9, nm9, cm9, E9, ne9, ce9, P⟩, ⟨A8, na8, ca8, M8, nm8, cm8, E8, ne8, ce8, S⟩, rfl, rfl, rfl, Lib.hid ⟨Below.refl _ _, Nat.le_refl _, ?_, HBD.out.size, hlt, ⟨q1.o, fun g hg => Nat.lt_of_lt_of_le (q1.la g hg) hz, fun g hg => Nat.lt_of_lt_of_le (q1.lm g hg) hz, fun g hg => Nat.lt_of_lt_of_le (q1.le g hg) hz⟩, ⟨q2.o, fun g hg => Nat.lt_of_lt_of_le (q2.la g hg) hz, fun g hg => Nat.lt_of_lt_of_le (q2.lm g hg) hz, fun g hg => Nat.lt_of_lt_of_le (q2.le g hg) hz⟩, World.ownsRow_nil _ _ _ _, World.ownsRow_nil _ _ _ _, rfl, rfl, fun g hg => by simp [Value.ownBlock] at hg⟩, HF2⟩
     unfold sysv
     dsimp only
     rw [HSP.out, HSS.out]
     exact HV2.out
  case rest =>
   obtain ⟨bs, p, s, rfl, hp, hs, HM, HBX2⟩ := hcut
   have HPA := Lib.hid hp
   have HSA := Lib.hid hs
   clear HA2 HMP HMS bk0 bn0 bn1 bn2 hrem hti0 hti1 hp hs hnl0
   obtain ⟨wy, rfl⟩ : ∃ wy : World, wy = wc := ⟨_, rfl⟩
   have bel0 := HB1.out.trans ((HBX.out.trans (HBX2.out.mono HBX.out.size)).mono HB1.out.size)
   have BEL0 := Lib.hid bel0; clear bel0
   go_wp2
   go_loopw [6, 34] (fun s6 s34 wr => ∃ (j ku kf : Nat) (uv fv v6 : Value), s6 = v6 ∧ s34 = .int .i64 j ∧ j ≤ nl ∧ ku ≤ j ∧ kf ≤ j ∧ Hid (MkL w2.heap.size bs wy wr p s tk uv fv ku kf (skf (x.l.take j) tk x.un) (skf (x.l.take j) tk x.fo))) (fun _ s34 _ => nl - (intOf s34).toNat)
   case atStart => exact ⟨0, 0, 0, _, _, _, rfl, rfl, Nat.zero_le _, Nat.le_refl _, Nat.le_refl _, HM⟩
   case round =>
    clear HM
    obtain ⟨j, ku, kf, uv, fv, v6, rfl, rfl, hj, hku, hkf, HM⟩ := hrel
    obtain ⟨UA, uc, rfl⟩ := own_shape HM.out.o1
    obtain ⟨FA, fc, rfl⟩ := own_shape HM.out.o2
    have HBR := Lib.hid (HBX2.out.trans (HM.out.bel.mono HM.out.lo))
    by_cases hlt : j < nl
    ·skip
     obtain ⟨ade, v, hAV, hbv, hv, hcv⟩ := (HRL.out.below HBR.out).rd.at_ (k := j) (by rw [HRL.out.len]; exact hlt)
     injection hAV with hAV
     subst hAV
     have HV := Lib.hid hv
     have b1 : (j : Int) < (nl : Int) := by omega
     have b0 : ¬ (j : Int) < 0 := by omega
     have k4 : wr.cell? ⟨bs, 4 + 6, none⟩ = some (.int .i64 tk) := HM.out.blk.cell (j := 10) rfl
     simp only [Nat.reduceAdd] at k4
     clear hv hbv
     by_cases hvt : v = tk
     ·subst hvt
      have d1 : (v == v) = true := by simp
      have HU2 := Lib.hid (show skf (x.l.take (j + 1)) v x.un = skf (x.l.take j) v x.un from flt_neg HV.out (by simp))
      have HF2 := Lib.hid (show skf (x.l.take (j + 1)) v x.fo = skf (x.l.take j) v x.fo from flt_neg HV.out (by simp))
      have HM2 := HM
      rw [← HU2.out, ← HF2.out] at HM2
      go_wp2
      go_roundw
      case rel => exact ⟨j + 1, ku, kf, _, _, _, rfl, by go_num, by omega, by omega, by omega, HM2⟩
      case measure => simp [intOf]; omega
     ·skip
      have d1 : (v == tk) = false := by simpa using hvt
      have HNT := Lib.hid d1
      have hsk := HA1.out wr (HBX.out.trans (HBR.out.mono HBX.out.size))
      have cu := hsk.2.2.2.1
      have hun0 := HOK.out.un
      have HE := Lib.hid (set_Events x.un wr hun0.1 hun0.2)
      clear hsk hun0 hvt
      obtain ⟨q1, hq1⟩ : ∃ b, hasB (setB x.un 5) v = b := ⟨_, rfl⟩
      go_wp2_with fail
      refine HE.out.mono ?_
      rintro e wa ⟨va, rfl, hoa, hba⟩
      obtain ⟨AA, cA, rfl⟩ := own_shape hoa
      have HC := Lib.hid (slices_Contains AA cA _ (setB x.un 5) v q1 wa rfl hq1 (RdI.of_own hoa) (own_cap' hoa).1 (own_cap' hoa).2)
      have HM3 := Lib.hid (HM.out.quiet hba)
      have HBA := Lib.hid (HBR.out.trans (hba.mono HBR.out.size))
      have HQ1 := Lib.hid hq1
      clear HE hoa hba cu k4 hcv HM HBR hq1
      go_wp2_with fail
      refine HC.out.mono ?_
      rintro e wb ⟨rfl, rfl⟩
      clear HC
      go_upto_if 46 with fail
      go_cut [6] from 35 to 64 (fun s6 wz => ∃ (ku2 : Nat) (uv2 : Value), s6 = .int .i64 v ∧ ku2 ≤ j + 1 ∧ Hid (MkL w2.heap.size bs wy wz p s tk uv2 (.slice FA kf fc) ku2 kf (skf (x.l.take (j + 1)) tk x.un) (skf (x.l.take j) tk x.fo)))
      case first =>
       cases q1 with
       | true =>
        have HU2 := Lib.hid (show skf (x.l.take (j + 1)) tk x.un = skf (x.l.take j) tk x.un ++ [v] from flt_pos HV.out (by simp [HNT.out, HQ1.out]))
        have hbs : wy.heap.size ≤ wa.heap.size := HM3.out.siz
        have k8 : wa.cell? ⟨bs, 8, none⟩ = some (.slice UA ku uc) := HM3.out.blk.cell (j := 8) rfl
        go_wp2_with (at_builtin; refine wpList_pushA wa [.int .i64 v] rfl (.tmp 48) (.tmp 50) 30 rfl wy.heap.size 3 (.int .i64 0) 1 8 Tryz.underlying30 int_info rfl (by decide) rfl (.slice UA ku uc) ku _ rfl HM3.out.o1 rfl (fun u hu => by simp at hu; subst hu; rfl) (by omega) (by omega) hbs ?_; intro UA2 uc2 w8 ho8 hg8 hl8; have B8 := HM3.out.blk.kept hg8 (own_lt_ne HM3.out.o1 HM3.out.hi); have e8 : w8.cell? ⟨bs, 8, none⟩ = some (.slice UA ku uc) := B8.cell (j := 8) rfl; have f8 : w8.frozen? ⟨bs, 8, none⟩ = false := B8.free 8; have l8 : bs < w8.heap.size := B8.lt)
        have HM4 := Lib.hid (HM3.out.pushU ho8 hg8 hl8)
        rw [← HU2.out] at HM4
        go_meet
        case rel => exact ⟨ku + 1, _, rfl, by omega, HM4⟩
       | false =>
        have HU2 := Lib.hid (show skf (x.l.take (j + 1)) tk x.un = skf (x.l.take j) tk x.un from flt_neg HV.out (by simp [HQ1.out]))
        have HM4 := HM3
        rw [← HU2.out] at HM4
        go_wp2_with fail
        go_meet
        case rel => exact ⟨ku, _, rfl, by omega, HM4⟩
      case rest =>
       obtain ⟨ku2, uv2, rfl, hku2, HM5⟩ := hcut
       obtain ⟨UB, ub, rfl⟩ := own_shape HM5.out.o1
       have HB5 := Lib.hid (HBX2.out.trans (HM5.out.bel.mono HM5.out.lo))
       have hsk := HA1.out wc (HBX.out.trans (HB5.out.mono HBX.out.size))
       have cu := hsk.2.2.2.2.1
       have hfo0 := HOK.out.fo
       have HE := Lib.hid (set_Events x.fo wc hfo0.1 hfo0.2)
       clear hsk hfo0 HM3
       obtain ⟨q2, hq2⟩ : ∃ b, hasB (setB x.fo 5) v = b := ⟨_, rfl⟩
       go_wp2_with fail
       refine HE.out.mono ?_
       rintro e wd ⟨va, rfl, hoa, hba⟩
       obtain ⟨AC, cC, rfl⟩ := own_shape hoa
       have HC := Lib.hid (slices_Contains AC cC _ (setB x.fo 5) v q2 wd rfl hq2 (RdI.of_own hoa) (own_cap' hoa).1 (own_cap' hoa).2)
       have HM6 := Lib.hid (HM5.out.quiet hba)
       have HQ2 := Lib.hid hq2
       clear HE hoa hba cu HM5 hq2
       go_wp2_with fail
       refine HC.out.mono ?_
       rintro e wb ⟨rfl, rfl⟩
       clear HC
       cases q2 with
       | true =>
        have HU2 := Lib.hid (show skf (x.l.take (j + 1)) tk x.fo = skf (x.l.take j) tk x.fo ++ [v] from flt_pos HV.out (by simp [HNT.out, HQ2.out]))
        have hbs : wy.heap.size ≤ wd.heap.size := HM6.out.siz
        have k8 : wd.cell? ⟨bs, 9, none⟩ = some (.slice FA kf fc) := HM6.out.blk.cell (j := 9) rfl
        go_wp2_with (at_builtin; refine wpList_pushA wd [.int .i64 v] rfl (.tmp 59) (.tmp 61) 30 rfl wy.heap.size 3 (.int .i64 0) 1 8 Tryz.underlying30 int_info rfl (by decide) rfl (.slice FA kf fc) kf _ rfl HM6.out.o2 rfl (fun u hu => by simp at hu; subst hu; rfl) (by omega) (by omega) hbs ?_; intro FA2 fc2 w8 ho8 hg8 hl8; have B8 := HM6.out.blk.kept hg8 (own_lt_ne HM6.out.o2 HM6.out.hi); have e8 : w8.cell? ⟨bs, 9, none⟩ = some (.slice FA kf fc) := B8.cell (j := 9) rfl; have f8 : w8.frozen? ⟨bs, 9, none⟩ = false := B8.free 9; have l8 : bs < w8.heap.size := B8.lt)
        have HM7 := Lib.hid (HM6.out.pushF ho8 hg8 hl8)
        rw [← HU2.out] at HM7
        go_roundw
        case rel => exact ⟨j + 1, ku2, kf + 1, _, _, _, rfl, by go_num, by omega, by omega, by omega, HM7⟩
        case measure => simp [intOf]; omega
       | false =>
        have HU2 := Lib.hid (show skf (x.l.take (j + 1)) tk x.fo = skf (x.l.take j) tk x.fo from flt_neg HV.out (by simp [HQ2.out]))
        have HM7 := HM6
        rw [← HU2.out] at HM7
        go_wp2
        go_roundw
        case rel => exact ⟨j + 1, ku2, kf, _, _, _, rfl, by go_num, by omega, by omega, by omega, HM7⟩
        case measure => simp [intOf]; omega
    ·skip
     obtain rfl : j = nl := by omega
     have b1 : ¬ (j : Int) < (j : Int) := by omega
     have HTA := Lib.hid (show x.l.take j = x.l from List.take_of_length_le (by rw [HRL.out.len]; exact Nat.le_refl _))
     rw [HTA.out] at HM
     have HRW := Lib.hid (HBR.out)
     have kr := KR.out.below (HBX.out.trans (HBR.out.mono HBX.out.size)) KR.out.lt
     have HKR := Lib.hid kr
     have HL := Lib.hid (setCells_all kr (svc ⟨p, s, UA, ku, uc, x.u, FA, kf, fc, x.f, tk⟩) rfl)
     have HGR := Lib.hid (setCells_grown (w.heap.size + 1) (svc ⟨p, s, UA, ku, uc, x.u, FA, kf, fc, x.f, tk⟩) 0 wr)
     have HBL := Lib.hid (setCells_below (b := w.heap.size + 1) (BEL0.out.trans (HM.out.bel.mono (by have := HB1.out.size; have := SZ1.out; have := HBX.out.size; have := HM.out.lo; omega))) (by omega) (by have := HM.out.siz; have := SZ1.out; have := HBX.out.size; have := HBX2.out.size; omega) (svc ⟨p, s, UA, ku, uc, x.u, FA, kf, fc, x.f, tk⟩))
     have g0 := HM.out.blk.cell (j := 0) rfl
     have g1 := HM.out.blk.cell (j := 1) rfl
     have g2 := HM.out.blk.cell (j := 2) rfl
     have g3 := HM.out.blk.cell (j := 3) rfl
     have g4 := HM.out.blk.cell (j := 4) rfl
     have g5 := HM.out.blk.cell (j := 5) rfl
     have g6 := HM.out.blk.cell (j := 6) rfl
     have g7 := HM.out.blk.cell (j := 7) rfl
     have g8 := HM.out.blk.cell (j := 8) rfl
     have g9 := HM.out.blk.cell (j := 9) rfl
     have g10 := HM.out.blk.cell (j := 10) rfl
     clear kr
     go_wp2_with (first | refine wpList_store_sys rfl _ _ rfl (w.heap.size + 1) ⟨p, s, UA, ku, uc, x.u, FA, kf, fc, x.f, tk⟩ (by rfl) (by rfl) HKR.out rfl ?_; generalize wr.setCells (w.heap.size + 1) 0 (svc ⟨p, s, UA, ku, uc, x.u, FA, kf, fc, x.f, tk⟩) = wv at HL HBL HGR ⊢ | fail)
     refine bodyPost_ret (sys_results (k := 2) rfl rfl HL.out) rfl ?_
     refine ⟨⟨p, s, UA, ku, uc, x.u, FA, kf, fc, x.f, tk⟩, rfl, by rw [HPE.out]; exact HPA.out, by rw [HSE.out]; exact HSA.out, rfl, rfl, HTK.out.symm, ?_, HBL.out⟩
     have hu : x.u = skf x.l tk x.un := by unfold Sk.u; rw [HTK.out]
     have hf : x.f = skf x.l tk x.fo := by unfold Sk.f; rw [HTK.out]
     have hlw : w.heap.size + 1 < w2.heap.size := by have := HBX.out.size; have := SZ1.out; omega
     have ru := RdU.own (own_kept_low HM.out.o1 HGR.out (by have := HBX2.out.size; omega)) HM.out.e1
     have rf := RdU.own (own_kept_low HM.out.o2 HGR.out (by have := HBX2.out.size; omega)) HM.out.e2
     refine ⟨(HM.out.p.low HGR.out hlw).ok, (HM.out.s.low HGR.out hlw).ok, ?_, ?_, ru.c1, ru.c2, ?_, ?_, rf.c1, rf.c2⟩
     ·rw [hu]; exact ru.len
     ·rw [hu]; exact ru.rd
     ·rw [hf]; exact rf.len
     ·rw [hf]; exact rf.rd
end Go.Proofs.YtioijhpbedmeaaaGreatDoor

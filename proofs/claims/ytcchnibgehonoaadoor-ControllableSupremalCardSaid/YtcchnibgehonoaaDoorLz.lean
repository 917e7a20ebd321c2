/- The law ControllableSupremal: its walk. -/
import Derived.Test.YtcchnibgehonoaaDoorVa
namespace Go.Proofs.YtcchnibgehonoaaDoor
open Go.RowKit Go Go.Maps

set_option maxRecDepth 100000 in
set_option maxHeartbeats 6400000 in
theorem supremal_walk (p : Prm) (w : World) (hok : p.ok) :
  Calls Tryd.prog 5 #[.agg (mcells p).toArray] w fun e w' => e = .returned (.bool true) ∧ Below w.heap.size w w' := by
 have hb1 := box_below w (.cells (mcells p).toArray 54)
 obtain ⟨w1, hw1⟩ : ∃ w1, w1 = w.alloc (.cells (mcells p).toArray 54) := ⟨_, rfl⟩
 have kx : Blk w1 w.heap.size 54 (mcells p) := by rw [hw1]; exact Blk.new _ _ _
 rw [← hw1] at hb1
 have HC := Lib.hid (law_known26 w1)
 obtain ⟨q, T, hp⟩ := prm_prob hok
 have HW1 := Lib.hid hw1; clear hw1
 have HB1 := Lib.hid hb1; clear hb1
 have KX := Lib.hid kx; clear kx
 have HOK := Lib.hid hok; clear hok
 have HPR := Lib.hid hp; clear hp
 go_enter Tryd.func5, Tryd.ntmps5
 go_wp2_with fail
 rw [← HW1.out]
 refine HC.out.mono ?_
 rintro e w2 ⟨rfl, hb⟩
 have HB2 := Lib.hid (HB1.out.trans (hb.mono HB1.out.size))
 have hk2 := KX.out.below hb KX.out.lt
 have HMK := Lib.hid (law_MakeV p w2 HOK.out)
 clear HC hb KX
 go_wp2_with (first | refine wpList_load_prob rfl _ rfl w.heap.size p HOK.out (by rfl) hk2 ?_)
 clear hk2
 refine HMK.out.mono ?_
 rintro e w3 ⟨x, y, U, nu, cu, rfl, hxa, hya, hx, hy, hu, hb⟩
 have vx := VarA.new hx
 have hbx := box_below w3 (.cells #[.slice x.A x.na x.ca, .int .i64 x.a.st, .slice x.M x.nm x.cm, .slice x.E x.ne x.ce] 25)
 have vy := VarA.new (AutR.more (AutR.below hy hbx) hbx.size : y.ok (w3.alloc (.cells #[.slice x.A x.na x.ca, .int .i64 x.a.st, .slice x.M x.nm x.cm, .slice x.E x.ne x.ce] 25)) _)
 have hby := box_below (w3.alloc (.cells #[.slice x.A x.na x.ca, .int .i64 x.a.st, .slice x.M x.nm x.cm, .slice x.E x.ne x.ce] 25)) (.cells #[.slice y.A y.na y.ca, .int .i64 y.a.st, .slice y.M y.nm y.cm, .slice y.E y.ne y.ce] 25)
 have HP := Lib.hid (show Prob x.a y.a (unE p) q T by rw [hxa, hya]; exact HPR.out)
 have hu4 := (hu.below hbx).below hby
 have hb4 := hb.trans ((hbx.trans (hby.mono hbx.size)).mono hb.size)
 have HB4 := Lib.hid (HB2.out.trans (hb4.mono HB2.out.size))
 have hvx := vx.below hby
 clear hbx hby hb hb4 hx hy hu vx hxa hya HMK HPR HB2
 go_upto_region 4 with fail
 rw [show (w3.alloc (.cells #[.slice x.A x.na x.ca, .int .i64 x.a.st, .slice x.M x.nm x.cm, .slice x.E x.ne x.ce] 25)).heap.size = w3.heap.size + 1 by simp] at vy
 obtain ⟨bx, hbx⟩ : ∃ b, w3.heap.size = b := ⟨_, rfl⟩
 rw [hbx] at hvx vy ⊢
 generalize (w3.alloc (.cells #[.slice x.A x.na x.ca, .int .i64 x.a.st, .slice x.M x.nm x.cm, .slice x.E x.ne x.ce] 25)).alloc (.cells #[.slice y.A y.na y.ca, .int .i64 y.a.st, .slice y.M y.nm y.cm, .slice y.E y.ne y.ce] 25) = w4 at hvx vy hu4 HB4 ⊢
 clear hbx
 have HC := Lib.hid (supV hvx.ok vy.ok hu4 HP.out)
 have p0 := hvx.c0
 have p1 := hvx.c1
 have p2 := hvx.c2
 have p3 := hvx.c3
 have q0 := vy.c0
 have q1 := vy.c1
 have q2 := vy.c2
 have q3 := vy.c3
 have VX := Lib.hid hvx; clear hvx
 have VY := Lib.hid vy; clear vy
 have HU := Lib.hid hu4; clear hu4
 go_wp2_with fail
 clear p0 p1 p2 p3 q0 q1 q2 q3
 refine HC.out.mono ?_
 rintro e w5 ⟨z, rfl, hza, hz, hb⟩
 have HZA := Lib.hid hza; clear hza
 have hbz := box_below w5 (.cells #[.slice z.A z.na z.ca, .int .i64 z.a.st, .slice z.M z.nm z.cm, .slice z.E z.ne z.ce] 25)
 have hb5 := hb.trans (hbz.mono hb.size)
 have hvx := VX.out.below hb5
 have hvy := VY.out.below hb5
 have hu5 := HU.out.below hb5
 have hvz := VarA.new hz
 have HB5 := Lib.hid (HB4.out.trans (hb5.mono HB4.out.size))
 clear hbz hb hb5 hz VX VY HU HB4 HC
 go_upto_region 5 with fail
 obtain ⟨bz, hbz⟩ : ∃ b, w5.heap.size = b := ⟨_, rfl⟩
 rw [hbz] at hvz ⊢
 generalize w5.alloc (.cells #[.slice z.A z.na z.ca, .int .i64 z.a.st, .slice z.M z.nm z.cm, .slice z.E z.ne z.ce] 25) = w6 at hvx hvy hvz hu5 HB5 ⊢
 clear hbz
 have HC := Lib.hid (infV hvx.ok hvy.ok hu5 HP.out)
 have p0 := hvx.c0
 have p1 := hvx.c1
 have p2 := hvx.c2
 have p3 := hvx.c3
 have q0 := hvy.c0
 have q1 := hvy.c1
 have q2 := hvy.c2
 have q3 := hvy.c3
 have VX := Lib.hid hvx; clear hvx
 have VY := Lib.hid hvy; clear hvy
 have VZ := Lib.hid hvz; clear hvz
 have HU := Lib.hid hu5; clear hu5
 go_wp2_with fail
 clear p0 p1 p2 p3 q0 q1 q2 q3
 refine HC.out.mono ?_
 rintro e w7 ⟨v, rfl, hva, hv, hb⟩
 have HVA := Lib.hid hva; clear hva
 have hbz := box_below w7 (.cells #[.slice v.A v.na v.ca, .int .i64 v.a.st, .slice v.M v.nm v.cm, .slice v.E v.ne v.ce] 25)
 have hb5 := hb.trans (hbz.mono hb.size)
 have hvx := VX.out.below hb5
 have hvy := VY.out.below hb5
 have hvz := VZ.out.below hb5
 have hu5 := HU.out.below hb5
 have hvv := VarA.new hv
 have HB7 := Lib.hid (HB5.out.trans (hb5.mono HB5.out.size))
 clear hbz hb hb5 hv VX VY VZ HU HB5 HC
 go_upto_region 6 with fail
 obtain ⟨bv, hbv⟩ : ∃ b, w7.heap.size = b := ⟨_, rfl⟩
 rw [hbv] at hvv ⊢
 generalize w7.alloc (.cells #[.slice v.A v.na v.ca, .int .i64 v.a.st, .slice v.M v.nm v.cm, .slice v.E v.ne v.ce] 25) = w8 at hvx hvy hvz hvv hu5 HB7 ⊢
 clear hbv
 refine wp_region_U (fun W => CV W bx x ∧ CV W (bx + 1) y ∧ CV W bz z ∧ CV W bv v) (fun _ => True) 22 (by kernel_rfl) ?_
 change anyU _ _ _ _ _ _ _ 23 _ _ _
 have hB0 : True := trivial
 have hbe := below_dr w8
 have HAW := Lib.hid (fun (W : World) (hb : Below w8.heap.size w8 W) => (show CV W bx x ∧ CV W (bx + 1) y ∧ CV W bz z ∧ CV W bv v from ⟨(hvx.below hb).cv, (hvy.below hb).cv, (hvz.below hb).cv, (hvv.below hb).cv⟩))
 have VX := Lib.hid (hvx.below hbe)
 have VY := Lib.hid (hvy.below hbe)
 have VZ := Lib.hid (hvz.below hbe)
 have VV := Lib.hid (hvv.below hbe)
 have HU := Lib.hid (hu5.below hbe)
 have HBE := Lib.hid hbe
 clear hvx hvy hvz hvv hu5 hbe
 generalize w8.drew = we at VX VY VZ VV HU HBE ⊢
 have HLS := Lib.hid (lsupV VX.out.ok VY.out.ok HU.out HP.out)
 have hA0 := HAW.out we HBE.out
 (refine uA 0 ?_ rfl hA0 hB0 (fun W hA => ?_) ?_; rotate_left; (· (go_simp; try with_reducible rfl)); refine uA 1 ?_ rfl hA0 hB0 (fun W hA => ?_) ?_; rotate_left; (· (go_simp; try with_reducible rfl)); refine uA 2 ?_ rfl hA0 hB0 (fun W hA => ?_) ?_; rotate_left; (· (go_simp; try with_reducible rfl)); refine uA 3 ?_ rfl hA0 hB0 (fun W hA => ?_) ?_; rotate_left; (· (go_simp; try with_reducible rfl)); refine uA 4 ?_ rfl hA0 hB0 (fun W hA => ?_) ?_; rotate_left; (· (go_simp; try with_reducible rfl)); refine uA 5 ?_ rfl hA0 hB0 (fun W hA => ?_) ?_; rotate_left; (· (go_simp; try with_reducible rfl)); refine uA 6 ?_ rfl hA0 hB0 (fun W hA => ?_) ?_; rotate_left; (· (go_simp; try with_reducible rfl)); (try simp only [Act.put, List.setIfInBounds_toArray, List.set_cons_zero, List.set_cons_succ]))
 (refine uA 7 ?_ rfl hA0 hB0 (fun W hA => ?_) ?_; rotate_left; (· (obtain ⟨_, _, ⟨a0, a1, a2, a3⟩, _⟩ := hA; go_simp; try with_reducible rfl)); (try simp only [Act.put, List.setIfInBounds_toArray, List.set_cons_zero, List.set_cons_succ]))
 (refine uA 8 ?_ rfl hA0 hB0 (fun W hA => ?_) ?_; rotate_left; (· (obtain ⟨⟨a0, a1, a2, a3⟩, _⟩ := hA; go_simp; try with_reducible rfl)); (try simp only [Act.put, List.setIfInBounds_toArray, List.set_cons_zero, List.set_cons_succ]))
 (refine uA 9 ?_ rfl hA0 hB0 (fun W hA => ?_) ?_; rotate_left; (· (obtain ⟨_, ⟨a0, a1, a2, a3⟩, _⟩ := hA; go_simp; try with_reducible rfl)); (try simp only [Act.put, List.setIfInBounds_toArray, List.set_cons_zero, List.set_cons_succ]))
 (refine uA 10 ?_ rfl hA0 hB0 (fun W hA => ?_) ?_; rotate_left; (· (go_simp; try with_reducible rfl)); (try simp only [Act.put, List.setIfInBounds_toArray, List.set_cons_zero, List.set_cons_succ]))
 refine uOne (i := 11) rfl (by kernel_rfl) (fun K hK => ?_)
 go_simp
 go_at_call 28
 refine HLS.out.mono ?_
 rintro e wf ⟨s, rfl, hsa, hs, hb⟩
 have HSA := Lib.hid hsa; clear hsa
 have HBF := Lib.hid (HBE.out.trans (hb.mono HBE.out.size))
 have hA1 := HAW.out wf HBF.out
 have HEQ := Lib.hid (eqV true (VZ.out.below hb).ok hs (eqA_of (HZA.out.trans HSA.out.symm)))
 clear hA0
 (refine hK _ _ ⟨hA1, fun _ => hB0⟩ ?_; clear hK K; (try simp only [Act.put, List.setIfInBounds_toArray, List.set_cons_zero, List.set_cons_succ]))
 refine uOne (i := 12) rfl (by kernel_rfl) (fun K hK => ?_)
 go_simp
 go_at_call 27
 refine HEQ.out.mono ?_
 rintro e wg ⟨rfl, hb2⟩
 have hbg := hb.trans (hb2.mono hb.size)
 have HBG := Lib.hid (HBE.out.trans (hbg.mono HBE.out.size))
 have VV2 := Lib.hid (VV.out.below hbg)
 have HLI := Lib.hid (linfV (VX.out.below hbg).ok (VY.out.below hbg).ok (HU.out.below hbg) HP.out)
 clear hA1 hb hb2 hbg hs HSA HEQ HLS VX VY VZ VV HU
 have hA0 := HAW.out wg HBG.out
 (refine hK _ _ ⟨hA0, fun _ => hB0⟩ ?_; clear hK K; (try simp only [Act.put, List.setIfInBounds_toArray, List.set_cons_zero, List.set_cons_succ]))
 (refine uA 13 ?_ rfl hA0 hB0 (fun W hA => ?_) ?_; rotate_left; (· (go_simp; try with_reducible rfl)); refine uA 14 ?_ rfl hA0 hB0 (fun W hA => ?_) ?_; rotate_left; (· (go_simp; try with_reducible rfl)); (try simp only [Act.put, List.setIfInBounds_toArray, List.set_cons_zero, List.set_cons_succ]))
 (refine uA 15 ?_ rfl hA0 hB0 (fun W hA => ?_) ?_; rotate_left; (· (obtain ⟨_, _, _, ⟨a0, a1, a2, a3⟩⟩ := hA; go_simp; try with_reducible rfl)); (try simp only [Act.put, List.setIfInBounds_toArray, List.set_cons_zero, List.set_cons_succ]))
 (refine uA 16 ?_ rfl hA0 hB0 (fun W hA => ?_) ?_; rotate_left; (· (obtain ⟨⟨a0, a1, a2, a3⟩, _⟩ := hA; go_simp; try with_reducible rfl)); (try simp only [Act.put, List.setIfInBounds_toArray, List.set_cons_zero, List.set_cons_succ]))
 (refine uA 17 ?_ rfl hA0 hB0 (fun W hA => ?_) ?_; rotate_left; (· (obtain ⟨_, ⟨a0, a1, a2, a3⟩, _⟩ := hA; go_simp; try with_reducible rfl)); (try simp only [Act.put, List.setIfInBounds_toArray, List.set_cons_zero, List.set_cons_succ]))
 (refine uA 18 ?_ rfl hA0 hB0 (fun W hA => ?_) ?_; rotate_left; (· (go_simp; try with_reducible rfl)); (try simp only [Act.put, List.setIfInBounds_toArray, List.set_cons_zero, List.set_cons_succ]))
 refine uOne (i := 19) rfl (by kernel_rfl) (fun K hK => ?_)
 go_simp
 go_at_call 29
 refine HLI.out.mono ?_
 rintro e wh ⟨s, rfl, hsa, hs, hb⟩
 have HSA := Lib.hid hsa; clear hsa
 have HBH := Lib.hid (HBG.out.trans (hb.mono HBG.out.size))
 have hA1 := HAW.out wh HBH.out
 have HEQ := Lib.hid (eqV true (VV2.out.below hb).ok hs (eqA_of (HVA.out.trans HSA.out.symm)))
 clear hA0
 (refine hK _ _ ⟨hA1, fun _ => hB0⟩ ?_; clear hK K; (try simp only [Act.put, List.setIfInBounds_toArray, List.set_cons_zero, List.set_cons_succ]))
 refine uOne (i := 20) rfl (by kernel_rfl) (fun K hK => ?_)
 go_simp
 go_at_call 27
 refine HEQ.out.mono ?_
 rintro e wi ⟨rfl, hb2⟩
 have HBI := Lib.hid (HBH.out.trans (hb2.mono HBH.out.size))
 have hA0 := HAW.out wi HBI.out
 have HF := Lib.hid (HB7.out.trans (HBI.out.mono HB7.out.size))
 clear hA1 hb hb2 hs HSA HEQ HLI
 (refine hK _ _ ⟨hA0, fun _ => hB0⟩ ?_; clear hK K; (try simp only [Act.put, List.setIfInBounds_toArray, List.set_cons_zero, List.set_cons_succ]))
 (refine uA 21 ?_ rfl hA0 hB0 (fun W hA => ?_) ?_; rotate_left; (· (go_simp; try with_reducible rfl)); (try simp only [Act.put, List.setIfInBounds_toArray, List.set_cons_zero, List.set_cons_succ]))
 refine uOne (i := 22) rfl (by kernel_rfl) (fun K hK => ?_)
 go_simp
 (refine hK _ _ ⟨hA0, fun h => absurd (h.symm.trans (by kernel_rfl : _ = true)) Bool.false_ne_true⟩ ?_; clear hK K; (try simp only [Act.put, List.setIfInBounds_toArray, List.set_cons_zero, List.set_cons_succ]))
 refine anyU_done (by kernel_rfl) ?_ _
 clear hA0
 go_wp2
 go_ret
 exact ⟨rfl, HF.out⟩
end Go.Proofs.YtcchnibgehonoaaDoor

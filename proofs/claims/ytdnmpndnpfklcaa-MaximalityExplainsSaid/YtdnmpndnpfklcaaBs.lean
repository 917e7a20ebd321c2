/- Walk of the law MaximalityProves. -/
import Derived.Test.YtdnmpndnpfklcaaBr
import Derived.Test.YtdnmpndnpfklcaaBc
namespace Go.Proofs.Ytdnmpndnpfklcaa
open Go.RowKit Go Go.Maps
set_option maxRecDepth 100000 in
set_option maxHeartbeats 6400000 in
theorem proves_walk (g:Sm4) (u f:Int) (w:World) (h0:g.ok∧(0 ≤ u∧u ≤ 255)∧0 ≤ f∧f ≤ 255) :
    Calls Try.prog 3 #[.agg (sp4 g u f).toArray] w fun e w'=>e = .returned (.bool true)∧Below w.heap.size w w':=by
  obtain ⟨hg,hu,hf⟩:=h0
  have hlen:(sp4 g u f).length = 28:=by unfold sp4;rw [List.length_append,smc_len hg];rfl
  have hb1:=box_below w (.cells (sp4 g u f).toArray 27)
  have kx:=Blk.new w 27 (sp4 g u f)
  obtain ⟨w1,hw1⟩:∃ w1,w1 = w.alloc (.cells (sp4 g u f).toArray 27):=⟨_,rfl⟩
  rw [← hw1] at hb1 kx
  have HKN:=Lib.hid (law_Known28 w1)
  have HG:=Lib.hid hg
  have HU:=Lib.hid hu
  have HF:=Lib.hid hf
  have HLN:=Lib.hid hlen
  have HB1:=Lib.hid hb1
  have HKX:=Lib.hid kx
  have HW1:=Lib.hid hw1
  clear hg hu hf hlen hb1 kx hw1
  go_enter Try.func3,Try.ntmps3
  go_upto_region 1 with fail
  rw [← HW1.out]
  go_wp2_with fail
  refine HKN.out.mono ?_
  rintro e w2 ⟨rfl,hb2⟩
  have HB2:=Lib.hid (HB1.out.trans (hb2.mono HB1.out.size))
  have HK2:=Lib.hid (HKX.out.below hb2 HKX.out.lt)
  clear HKN hb2 HKX HB1 HW1
  have hrg:w2.rangeAt w.heap.size 0 (sp4 g u f):=fun j v hj=>by rw [Nat.zero_add];exact HK2.out.cell hj
  go_wp2_with (first | (refine wpList_load_mid rfl 27 (.tmp 1) rfl w.heap.size 0 rfl (sp4 g u f) _ hrg Try.underlying27 rfl (by rw [HLN.out];kernel_rfl) ?_) | fail)
  refine (law_Make28 g u f w2 HG.out HU.out HF.out).mono ?_
  rintro e w3 ⟨z1,rfl,hz1,hm1,hb3⟩
  have HM1:=Lib.hid hm1
  have HB3:=Lib.hid (HB2.out.trans (hb3.mono HB2.out.size))
  have HK3:=Lib.hid (HK2.out.below hb3 HK2.out.lt)
  clear hrg hb3 HB2 HK2 hm1
  have HPB:=Lib.hid (show ∀ z:PB,pbc z = [.slice z.x.A z.x.na z.x.ca,.int .i64 z.x.a.st,.slice z.x.M z.x.nm z.x.cm,.slice z.x.E z.x.ne z.x.ce,.slice z.u.A z.u.n z.u.c,.slice z.f.A z.f.n z.f.c] from fun z=>rfl)
  rw [HPB.out z1]
  have hbx:=box_below w3 (.cells #[.slice z1.x.A z1.x.na z1.x.ca,.int .i64 z1.x.a.st,.slice z1.x.M z1.x.nm z1.x.cm,.slice z1.x.E z1.x.ne z1.x.ce,.slice z1.u.A z1.u.n z1.u.c,.slice z1.f.A z1.f.n z1.f.c] 34)
  have k7:=Blk.new w3 34 [.slice z1.x.A z1.x.na z1.x.ca,.int .i64 z1.x.a.st,.slice z1.x.M z1.x.nm z1.x.cm,.slice z1.x.E z1.x.ne z1.x.ce,.slice z1.u.A z1.u.n z1.u.c,.slice z1.f.A z1.f.n z1.f.c]
  have HZ4:=Lib.hid ((hz1.below hbx).more hbx.size)
  have HB4:=Lib.hid (HB3.out.trans (hbx.mono HB3.out.size))
  clear hz1 HB3 HK3
  go_upto_region 4 with fail
  obtain ⟨b7,hb7⟩:∃ b,w3.heap.size = b:=⟨_,rfl⟩
  rw [hb7] at k7 ⊢
  clear hb7 hbx
  generalize w3.alloc (.cells #[.slice z1.x.A z1.x.na z1.x.ca,.int .i64 z1.x.a.st,.slice z1.x.M z1.x.nm z1.x.cm,.slice z1.x.E z1.x.ne z1.x.ce,.slice z1.u.A z1.u.n z1.u.c,.slice z1.f.A z1.f.n z1.f.c] 34) = w4 at k7 HZ4 HB4 ⊢
  have HZ:=Lib.hid (fun (W:World) (hb:Below w4.heap.size w4 W)=>(HZ4.out.below hb).more hb.size)
  have HP:=Lib.hid (fun (W:World) (hb:Below w4.heap.size w4 W)=>Blk.c6 (k7.below hb k7.lt))
  clear k7
  have HOK:=Lib.hid (show z1.m.ok by rw [HM1.out];exact prb4_ok g u f)
  have HPR:=Lib.hid (fun (W:World) (hb:Below w4.heap.size w4 W)=>max_Prove z1 W (HZ.out W hb) HOK.out)
  have HPD:=Lib.hid (fun (W:World) (hb:Below w4.heap.size w4 W)=>law_proved z1 z1.x.a.st.toNat W (HZ.out W hb) HOK.out (by have h9:=HOK.out.wf.st0;have e:z1.m.a.st = z1.x.a.st:=rfl;omega))
  rw [HPB.out z1] at HPR HPD
  obtain ⟨⟨a0,a1,a2,a3,a4⟩,a5⟩:=HP.out w4 (Below.refl _ _)
  go_wp2_with fail
  refine (HPR.out w4 (Below.refl _ _)).mono ?_
  rintro e w8 ⟨C,rfl,hC,hCe,hb8⟩
  have HCE:=Lib.hid hCe
  have HCV:=Lib.hid (show cvc C = [.slice C.k.A C.k.n C.k.c,.slice C.d.A C.d.n C.d.c,.slice C.R C.rn C.rc] from rfl)
  rw [HCV.out]
  clear a0 a1 a2 a3 a4 a5 hCe HPR
  have hbx:=box_below w8 (.cells #[.slice C.k.A C.k.n C.k.c,.slice C.d.A C.d.n C.d.c,.slice C.R C.rn C.rc] 38)
  have k9:=Blk.new w8 38 [.slice C.k.A C.k.n C.k.c,.slice C.d.A C.d.n C.d.c,.slice C.R C.rn C.rc]
  have hc9:=(hC.below hbx).more hbx.size
  have HB49:=Lib.hid (hb8.trans (hbx.mono hb8.size))
  go_upto_region 5 with fail
  obtain ⟨b9,hb9⟩:∃ b,w8.heap.size = b:=⟨_,rfl⟩
  rw [hb9] at k9 ⊢
  clear hb9 hbx hC hb8
  generalize w8.alloc (.cells #[.slice C.k.A C.k.n C.k.c,.slice C.d.A C.d.n C.d.c,.slice C.R C.rn C.rc] 38) = w9 at k9 hc9 HB49 ⊢
  have HCO:=Lib.hid (fun (W:World) (hb:Below w9.heap.size w9 W)=>(hc9.below hb).more hb.size)
  have HCK:=Lib.hid (fun (W:World) (hb:Below w9.heap.size w9 W)=>Blk.c3 (k9.below hb k9.lt))
  have H49:=Lib.hid (fun (W:World) (hb:Below w9.heap.size w9 W)=>HB49.out.trans (hb.mono HB49.out.size))
  clear k9 hc9
  have hcrn:C.rn ≤ 1000000:=by
    have h1:=prvC_few HOK.out
    rw [← HCE.out] at h1
    have h2:C.ce.rm.length = C.rn:=(HCO.out _ (Below.refl _ _)).rl
    omega
  have HVF:=Lib.hid (fun (W:World) (hb:Below w9.heap.size w9 W)=>max_Verify z1 C W (HZ.out W (H49.out W hb)) HOK.out (HCO.out W hb) hcrn)
  have HEQ:=Lib.hid (fun (d:CV) (W:World) (hb:Below w9.heap.size w9 W) (hd:d.ok W W.heap.size)=>law_equal C d W (HCO.out W hb) hd)
  rw [HPB.out z1,HCV.out] at HVF
  rw [HCV.out] at HEQ
  have HVC:=Lib.hid (show VerIs z1.m C.ce 0 by rw [HCE.out];exact VerIs.of (prvC_ok HOK.out).1 (prvC_ok HOK.out).2)
  clear hcrn
  refine wp_region_U (fun W=>Below w9.heap.size w9 W) (fun _=>True) 99 (by kernel_rfl) ?_
  change anyU _ _ _ _ _ _ _ 15 _ _ _
  have hB0:True:=trivial
  have hA0:=below_dr w9
  generalize w9.drew = wd at hA0 ⊢
  (refine uA 0 ?_ rfl hA0 hB0 (fun W hA=>?_) ?_;rotate_left;(· (go_simp;try with_reducible rfl));(try simp only [Act.put,List.setIfInBounds_toArray,List.set_cons_zero,List.set_cons_succ]))
  (refine uA 1 ?_ rfl hA0 hB0 (fun W hA=>?_) ?_;rotate_left;(· (go_simp;try with_reducible rfl));(try simp only [Act.put,List.setIfInBounds_toArray,List.set_cons_zero,List.set_cons_succ]))
  (refine uA 2 ?_ rfl hA0 hB0 (fun W hA=>?_) ?_;rotate_left;(· (go_simp;try with_reducible rfl));(try simp only [Act.put,List.setIfInBounds_toArray,List.set_cons_zero,List.set_cons_succ]))
  (refine uA 3 ?_ rfl hA0 hB0 (fun W hA=>?_) ?_;rotate_left;(· (obtain ⟨a0,a1,a2⟩:=HCK.out W hA;go_simp;try with_reducible rfl));(try simp only [Act.put,List.setIfInBounds_toArray,List.set_cons_zero,List.set_cons_succ]))
  (refine uA 4 ?_ rfl hA0 hB0 (fun W hA=>?_) ?_;rotate_left;(· (obtain ⟨⟨a0,a1,a2,a3,a4⟩,a5⟩:=HP.out W (H49.out W hA);go_simp;try with_reducible rfl));(try simp only [Act.put,List.setIfInBounds_toArray,List.set_cons_zero,List.set_cons_succ]))
  refine uOne (i:=5) rfl (by kernel_rfl) (fun K hK=>?_)
  go_simp
  go_at_call 14
  refine (HPD.out wd (H49.out wd hA0)).mono ?_
  rintro e we ⟨D,rfl,hD,hDe,_,hbe⟩
  have hA1:=hA0.trans (hbe.mono hA0.size)
  have HDV:=Lib.hid (show cvc D = [.slice D.k.A D.k.n D.k.c,.slice D.d.A D.d.n D.d.c,.slice D.R D.rn D.rc] from rfl)
  have HQ2:=Lib.hid (HEQ.out D we hA1 hD)
  rw [HDV.out] at HQ2 ⊢
  have HDE:=Lib.hid hDe
  (refine hK _ _ ⟨hA1,fun _=>hB0⟩ ?_;clear hK K;(try simp only [Act.put,List.setIfInBounds_toArray,List.set_cons_zero,List.set_cons_succ]))
  clear hA0 hbe hD hDe
  refine uOne (i:=6) rfl (by kernel_rfl) (fun K hK=>?_)
  go_simp
  go_at_call 13
  refine HQ2.out.mono ?_
  rintro e wf ⟨q,rfl,hq,hbf⟩
  obtain rfl:q = true:=hq.2 (by rw [HCE.out,HDE.out])
  have hA2:=hA1.trans (hbf.mono hA1.size)
  (refine hK _ _ ⟨hA2,fun _=>hB0⟩ ?_;clear hK K;(try simp only [Act.put,List.setIfInBounds_toArray,List.set_cons_zero,List.set_cons_succ]))
  clear hA1 hbf hq HQ2
  have hA0:=hA2
  clear hA2
  (refine uA 7 ?_ rfl hA0 hB0 (fun W hA=>?_) ?_;rotate_left;(· (go_simp;try with_reducible rfl));(try simp only [Act.put,List.setIfInBounds_toArray,List.set_cons_zero,List.set_cons_succ]))
  (refine uA 8 ?_ rfl hA0 hB0 (fun W hA=>?_) ?_;rotate_left;(· (go_simp;try with_reducible rfl));(try simp only [Act.put,List.setIfInBounds_toArray,List.set_cons_zero,List.set_cons_succ]))
  (refine uA 9 ?_ rfl hA0 hB0 (fun W hA=>?_) ?_;rotate_left;(· (obtain ⟨⟨a0,a1,a2,a3,a4⟩,a5⟩:=HP.out W (H49.out W hA);go_simp;try with_reducible rfl));(try simp only [Act.put,List.setIfInBounds_toArray,List.set_cons_zero,List.set_cons_succ]))
  (refine uA 10 ?_ rfl hA0 hB0 (fun W hA=>?_) ?_;rotate_left;(· (obtain ⟨a0,a1,a2⟩:=HCK.out W hA;go_simp;try with_reducible rfl));(try simp only [Act.put,List.setIfInBounds_toArray,List.set_cons_zero,List.set_cons_succ]))
  refine uOne (i:=11) rfl (by kernel_rfl) (fun K hK=>?_)
  go_simp
  go_at_call 15
  refine (HVF.out wf hA0).mono ?_
  rintro e wg ⟨v,rfl,hv,hbg⟩
  obtain rfl:v = 0:=hv.unique HVC.out
  have hA3:=hA0.trans (hbg.mono hA0.size)
  (refine hK _ _ ⟨hA3,fun _=>hB0⟩ ?_;clear hK K;(try simp only [Act.put,List.setIfInBounds_toArray,List.set_cons_zero,List.set_cons_succ]))
  clear hA0 hbg hv
  have hA0:=hA3
  clear hA3
  (refine uA 12 ?_ rfl hA0 hB0 (fun W hA=>?_) ?_;rotate_left;(· (go_simp;try with_reducible rfl));(try simp only [Act.put,List.setIfInBounds_toArray,List.set_cons_zero,List.set_cons_succ]))
  (refine uA 13 ?_ rfl hA0 hB0 (fun W hA=>?_) ?_;rotate_left;(· (go_simp;try with_reducible rfl));(try simp only [Act.put,List.setIfInBounds_toArray,List.set_cons_zero,List.set_cons_succ]))
  (refine uA 14 ?_ rfl hA0 hB0 (fun W hA=>?_) ?_;rotate_left;(· (go_simp;try with_reducible rfl));(try simp only [Act.put,List.setIfInBounds_toArray,List.set_cons_zero,List.set_cons_succ]))
  refine anyU_done (by kernel_rfl) ?_ _
  have HBN:=Lib.hid (H49.out _ hA0)
  clear hA0
  go_wp2
  go_ret
  exact ⟨rfl,HB4.out.trans (HBN.out.mono HB4.out.size)⟩
end Go.Proofs.Ytdnmpndnpfklcaa

/- Walk of the law MaximalityAgrees. -/
import Derived.Test.YtdnmpndnpfklcaaX9
namespace Go.Proofs.Ytdnmpndnpfklcaa
open Go.RowKit Go Go.Maps
set_option maxRecDepth 100000 in
set_option maxHeartbeats 6400000 in
theorem agrees_walk (g:Sm4) (u f:Int) (w:World) (h0:g.ok∧(0 ≤ u∧u ≤ 255)∧0 ≤ f∧f ≤ 255) :
  Calls Try.prog 9 #[.agg (sp4 g u f).toArray] w fun e w'=>e = .returned (.bool true)∧Below w.heap.size w w':=by
 obtain ⟨hg,hu,hf⟩:=h0
 have hlen:(sp4 g u f).length = 28:=by unfold sp4;rw [List.length_append,smc_len hg];rfl
 have hb1:=box_below w (.cells (sp4 g u f).toArray 27)
 have kx:=Blk.new w 27 (sp4 g u f)
 obtain ⟨w1,hw1⟩:∃ w1,w1 = w.alloc (.cells (sp4 g u f).toArray 27):=⟨_,rfl⟩
 rw [← hw1] at hb1 kx
 have HKN:=Lib.hid (law_Known28 w1)
 have HG:=Lib.hid hg
 have HU:=Lib.hid hu
 have HF:=Lib.hid hf
 have HLN:=Lib.hid hlen
 have HB1:=Lib.hid hb1
 have HKX:=Lib.hid kx
 have HW1:=Lib.hid hw1
 clear hg hu hf hlen hb1 kx hw1
 go_enter Try.func9,Try.ntmps9
 go_upto_region 1 with fail
 rw [← HW1.out]
 go_wp2_with fail
 refine HKN.out.mono ?_
 rintro e w2 ⟨rfl,hb2⟩
 have HB2:=Lib.hid (HB1.out.trans (hb2.mono HB1.out.size))
 have HK2:=Lib.hid (HKX.out.below hb2 HKX.out.lt)
 clear HKN hb2 HKX HB1 HW1
 have hrg:w2.rangeAt w.heap.size 0 (sp4 g u f):=fun j v hj=>by rw [Nat.zero_add];exact HK2.out.cell hj
 go_wp2_with (first | (refine wpList_load_mid rfl 27 (.tmp 1) rfl w.heap.size 0 rfl (sp4 g u f) _ hrg Try.underlying27 rfl (by rw [HLN.out];kernel_rfl) ?_) | fail)
 refine (law_Make28 g u f w2 HG.out HU.out HF.out).mono ?_
 rintro e w3 ⟨z1,rfl,hz1,hm1,hb3⟩
 have HM1:=Lib.hid hm1
 have HB3:=Lib.hid (HB2.out.trans (hb3.mono HB2.out.size))
 have HK3:=Lib.hid (HK2.out.below hb3 HK2.out.lt)
 clear hrg hb3 HB2 HK2 hm1
 have HPB:=Lib.hid (show ∀ z:PB,pbc z = [.slice z.x.A z.x.na z.x.ca,.int .i64 z.x.a.st,.slice z.x.M z.x.nm z.x.cm,.slice z.x.E z.x.ne z.x.ce,.slice z.u.A z.u.n z.u.c,.slice z.f.A z.f.n z.f.c] from fun z=>rfl)
 rw [HPB.out z1]
 have hbx:=box_below w3 (.cells #[.slice z1.x.A z1.x.na z1.x.ca,.int .i64 z1.x.a.st,.slice z1.x.M z1.x.nm z1.x.cm,.slice z1.x.E z1.x.ne z1.x.ce,.slice z1.u.A z1.u.n z1.u.c,.slice z1.f.A z1.f.n z1.f.c] 34)
 have k7:=Blk.new w3 34 [.slice z1.x.A z1.x.na z1.x.ca,.int .i64 z1.x.a.st,.slice z1.x.M z1.x.nm z1.x.cm,.slice z1.x.E z1.x.ne z1.x.ce,.slice z1.u.A z1.u.n z1.u.c,.slice z1.f.A z1.f.n z1.f.c]
 have HZ4:=Lib.hid ((hz1.below hbx).more hbx.size)
 have HB4:=Lib.hid (HB3.out.trans (hbx.mono HB3.out.size))
 clear hz1 HB3 HK3
 go_upto_region 4 with fail
 obtain ⟨b7,hb7⟩:∃ b,w3.heap.size = b:=⟨_,rfl⟩
 rw [hb7] at k7 ⊢
 clear hb7 hbx
 generalize w3.alloc (.cells #[.slice z1.x.A z1.x.na z1.x.ca,.int .i64 z1.x.a.st,.slice z1.x.M z1.x.nm z1.x.cm,.slice z1.x.E z1.x.ne z1.x.ce,.slice z1.u.A z1.u.n z1.u.c,.slice z1.f.A z1.f.n z1.f.c] 34) = w4 at k7 HZ4 HB4 ⊢
 have HZ:=Lib.hid (fun (W:World) (hb:Below w4.heap.size w4 W)=>(HZ4.out.below hb).more hb.size)
 have HP:=Lib.hid (fun (W:World) (hb:Below w4.heap.size w4 W)=>Blk.c6 (k7.below hb k7.lt))
 clear k7
 have HOK:=Lib.hid (show z1.m.ok by rw [HM1.out];exact prb4_ok g u f)
 obtain ⟨n1,hn1⟩:∃ n:Nat,z1.x.a.st = (n:Int):=⟨z1.x.a.st.toNat,by have h9:=HOK.out.wf.st0;have e:z1.m.a.st = z1.x.a.st:=rfl;omega⟩
 have HPR:=Lib.hid (fun (W:World) (hb:Below w4.heap.size w4 W)=>max_Prove z1 W (HZ.out W hb) HOK.out)
 have HSY:=Lib.hid (fun (W:World) (hb:Below w4.heap.size w4 W)=>syn_Synthesize z1.x z1.u z1.f n1 W (HZ.out W hb).x (HZ.out W hb).u (HZ.out W hb).f HOK.out hn1)
 rw [← hn1] at HSY
 clear hn1
 rw [HPB.out z1] at HPR
 obtain ⟨⟨a0,a1,a2,a3,a4⟩,a5⟩:=HP.out w4 (Below.refl _ _)
 go_wp2_with fail
 refine (HPR.out w4 (Below.refl _ _)).mono ?_
 rintro e w8 ⟨C,rfl,hC,hCe,hb8⟩
 have HCE:=Lib.hid hCe
 have HCV:=Lib.hid (show cvc C = [.slice C.k.A C.k.n C.k.c,.slice C.d.A C.d.n C.d.c,.slice C.R C.rn C.rc] from rfl)
 rw [HCV.out]
 clear a0 a1 a2 a3 a4 a5 hCe HPR
 have hbx:=box_below w8 (.cells #[.slice C.k.A C.k.n C.k.c,.slice C.d.A C.d.n C.d.c,.slice C.R C.rn C.rc] 38)
 have k9:=Blk.new w8 38 [.slice C.k.A C.k.n C.k.c,.slice C.d.A C.d.n C.d.c,.slice C.R C.rn C.rc]
 have hc9:=(hC.below hbx).more hbx.size
 have HB49:=Lib.hid (hb8.trans (hbx.mono hb8.size))
 go_upto_region 5 with fail
 obtain ⟨b9,hb9⟩:∃ b,w8.heap.size = b:=⟨_,rfl⟩
 rw [hb9] at k9 ⊢
 clear hb9 hbx hC hb8
 generalize w8.alloc (.cells #[.slice C.k.A C.k.n C.k.c,.slice C.d.A C.d.n C.d.c,.slice C.R C.rn C.rc] 38) = w9 at k9 hc9 HB49 ⊢
 have HCO:=Lib.hid (fun (W:World) (hb:Below w9.heap.size w9 W)=>(hc9.below hb).more hb.size)
 have HCK:=Lib.hid (fun (W:World) (hb:Below w9.heap.size w9 W)=>Blk.c3 (k9.below hb k9.lt))
 have H49:=Lib.hid (fun (W:World) (hb:Below w9.heap.size w9 W)=>HB49.out.trans (hb.mono HB49.out.size))
 clear k9 hc9
 have hcrn:C.rn ≤ 1000000:=by
  have h1:=prvC_few HOK.out
  rw [← HCE.out] at h1
  have h2:C.ce.rm.length = C.rn:=(HCO.out _ (Below.refl _ _)).rl
  omega
 have HPC:=Lib.hid (show FOk z1.m.a.st C.ce∧VOk z1.m C.ce by rw [HCE.out];exact prvC_ok HOK.out)
 have HSV:=Lib.hid (fun (W:World) (hb:Below w9.heap.size w9 W)=>max_Supervisor z1 C W (HZ.out W (H49.out W hb)) HOK.out (HCO.out W hb) hcrn HPC.out.1 HPC.out.2)
 rw [HPB.out z1,HCV.out] at HSV
 clear hcrn
 obtain ⟨⟨a0,a1,a2,a3,a4⟩,a5⟩:=HP.out w9 HB49.out
 go_wp2_with fail
 refine (HSY.out w9 HB49.out).mono ?_
 rintro e wA ⟨D,y,rk,OA,on,oc,rfl,hD,hDe,hy,hya,hbA⟩
 clear a0 a1 a2 a3 a4 a5 HSY
 have HDE:=Lib.hid (show D.ce = prvC z1.m from hDe)
 have HYA:=Lib.hid (show y.a = rsA z1.x.a (prvC z1.m).kp from hya)
 obtain ⟨ys,hys⟩:∃ z,y.a.st = z:=⟨_,rfl⟩
 rw [hys]
 have HYS:=Lib.hid hys
 have hbx:=box_below wA (.cells #[.slice D.k.A D.k.n D.k.c,.slice D.d.A D.d.n D.d.c,.slice D.R D.rn D.rc,.int .i64 rk,.slice y.A y.na y.ca,.int .i64 ys,.slice y.M y.nm y.cm,.slice y.E y.ne y.ce,.slice OA on oc] 81)
 have kA:=Blk.new wA 81 [.slice D.k.A D.k.n D.k.c,.slice D.d.A D.d.n D.d.c,.slice D.R D.rn D.rc,.int .i64 rk,.slice y.A y.na y.ca,.int .i64 ys,.slice y.M y.nm y.cm,.slice y.E y.ne y.ce,.slice OA on oc]
 have hd9:=(hD.ok.below hbx).more hbx.size
 have hy9:=(AutR.below hy.ok hbx).more hbx.size
 have HB9A:=Lib.hid (hbA.trans (hbx.mono hbA.size))
 go_upto_region 6 with fail
 obtain ⟨bA,hbA'⟩:∃ b,wA.heap.size = b:=⟨_,rfl⟩
 rw [hbA'] at kA ⊢
 clear hbA' hbx hD hy hbA hDe hya hys
 generalize wA.alloc (.cells #[.slice D.k.A D.k.n D.k.c,.slice D.d.A D.d.n D.d.c,.slice D.R D.rn D.rc,.int .i64 rk,.slice y.A y.na y.ca,.int .i64 ys,.slice y.M y.nm y.cm,.slice y.E y.ne y.ce,.slice OA on oc] 81) = wB at kA hd9 hy9 HB9A ⊢
 have HDO:=Lib.hid (fun (W:World) (hb:Below wB.heap.size wB W)=>(hd9.below hb).more hb.size)
 have HYO:=Lib.hid (fun (W:World) (hb:Below wB.heap.size wB W)=>(AutR.below hy9 hb).more hb.size)
 have HRK:=Lib.hid (fun (W:World) (hb:Below wB.heap.size wB W)=>kA.below hb kA.lt)
 have H9B:=Lib.hid (fun (W:World) (hb:Below wB.heap.size wB W)=>HB9A.out.trans (hb.mono HB9A.out.size))
 clear kA hd9 hy9
 obtain ⟨⟨a0,a1,a2,a3,a4⟩,a5⟩:=HP.out wB (H49.out wB HB9A.out)
 obtain ⟨c0,c1,c2⟩:=HCK.out wB HB9A.out
 go_wp2_with fail
 refine (HSV.out wB HB9A.out).mono ?_
 rintro e wC ⟨x,rfl,hx,hxa,hbC⟩
 clear a0 a1 a2 a3 a4 a5 c0 c1 c2 HSV
 rw [show avc x = [.slice x.A x.na x.ca,.int .i64 x.a.st,.slice x.M x.nm x.cm,.slice x.E x.ne x.ce] from rfl]
 have HXA:=Lib.hid hxa
 obtain ⟨xs,hxs⟩:∃ z,x.a.st = z:=⟨_,rfl⟩
 rw [hxs]
 have HXS:=Lib.hid hxs
 have hbx:=box_below wC (.cells #[.slice x.A x.na x.ca,.int .i64 xs,.slice x.M x.nm x.cm,.slice x.E x.ne x.ce] 32)
 have kD:=Blk.new wC 32 [.slice x.A x.na x.ca,.int .i64 xs,.slice x.M x.nm x.cm,.slice x.E x.ne x.ce]
 have hxD:=(AutR.below hx.ok hbx).more hbx.size
 have HBBD:=Lib.hid (hbC.trans (hbx.mono hbC.size))
 go_upto_region 7 with fail
 obtain ⟨bD,hbD⟩:∃ b,wC.heap.size = b:=⟨_,rfl⟩
 rw [hbD] at kD ⊢
 clear hbD hbx hx hbC hxa hxs
 generalize wC.alloc (.cells #[.slice x.A x.na x.ca,.int .i64 xs,.slice x.M x.nm x.cm,.slice x.E x.ne x.ce] 32) = wD at kD hxD HBBD ⊢
 have HXO:=Lib.hid (fun (W:World) (hb:Below wD.heap.size wD W)=>(AutR.below hxD hb).more hb.size)
 have HXK:=Lib.hid (fun (W:World) (hb:Below wD.heap.size wD W)=>Blk.c4 (kD.below hb kD.lt))
 have HBD:=Lib.hid (fun (W:World) (hb:Below wD.heap.size wD W)=>HBBD.out.trans (hb.mono HBBD.out.size))
 clear kD hxD
 have HEQ:=Lib.hid (law_equal C D wD (HCO.out wD (H9B.out wD HBBD.out)) (HDO.out wD HBBD.out))
 rw [HCV.out,show cvc D = [.slice D.k.A D.k.n D.k.c,.slice D.d.A D.d.n D.d.c,.slice D.R D.rn D.rc] from rfl] at HEQ
 obtain ⟨c0,c1,c2⟩:=HCK.out wD (H9B.out wD HBBD.out)
 have hrk:=HRK.out wD HBBD.out
 have d0:=hrk.cell (j:=0) rfl
 have d1:=hrk.cell (j:=1) rfl
 have d2:=hrk.cell (j:=2) rfl
 clear hrk
 go_wp2_with fail
 refine HEQ.out.mono ?_
 rintro e wE ⟨q,rfl,hq,hbE⟩
 obtain rfl:q = true:=hq.2 (by rw [HCE.out,HDE.out])
 have HBE:=Lib.hid hbE
 clear c0 c1 c2 d0 d1 d2 HEQ hq hbE
 have HAE:=Lib.hid (automaton_Equal x.A x.M x.E y.A y.M y.E x.na x.ca x.nm x.cm x.ne x.ce y.na y.ca y.nm y.cm y.ne y.ce x.a y.a true wE (eqA_of (by rw [HXA.out,HYA.out,← HCE.out];rfl)) (HXO.out wE HBE.out) (HYO.out wE (HBD.out wE HBE.out)))
 rw [HXS.out,HYS.out] at HAE
 obtain ⟨x0,x1,x2,x3⟩:=HXK.out wE HBE.out
 have hrk:=HRK.out wE (HBD.out wE HBE.out)
 have d4:=hrk.cell (j:=4) rfl
 have d5:=hrk.cell (j:=5) rfl
 have d6:=hrk.cell (j:=6) rfl
 have d7:=hrk.cell (j:=7) rfl
 clear hrk
 go_wp2_with fail
 refine HAE.out.mono ?_
 rintro e wF ⟨rfl,hbF⟩
 have HBF:=Lib.hid (HB4.out.trans ((H49.out wF (H9B.out wF (HBD.out wF (HBE.out.trans (hbF.mono HBE.out.size))))).mono HB4.out.size))
 clear x0 x1 x2 x3 d4 d5 d6 d7 HAE hbF
 go_wp2
 go_ret
 exact ⟨rfl,HBF.out⟩
end Go.Proofs.Ytdnmpndnpfklcaa

/- Walk of the law MaximalitySupervises. -/
import Derived.Test.YtdnmpndnpfklcaaW4
import Derived.Test.YtdnmpndnpfklcaaBr
import Derived.Test.YtdnmpndnpfklcaaV6
namespace Go.Proofs.Ytdnmpndnpfklcaa
open Go.RowKit Go Go.Maps
theorem rsA_st {a:Aut} (hw:WF a) (K:List Int):0 ≤ (rsA a K).st∧(rsA a K).st ≤ a.st:=by
  unfold rsA
  split
  · have:=canA_st (kpA_wf (K:=K) hw)
    exact ⟨this.1,this.2.1⟩
  · exact ⟨Int.le_refl _,hw.st0⟩
theorem vsN_few {a b:Aut} (h0:0 ≤ a.st) (h1:a.st ≤ 6) (h2:0 ≤ b.st) (h3:b.st ≤ 6):vsN a b ≤ 900000:=by
  unfold vsN
  have e1:a.st.toNat + 1 ≤ 7:=by omega
  have e2:b.st.toNat + 1 ≤ 7:=by omega
  exact Nat.le_trans (Nat.mul_le_mul e1 e2) (by omega)
theorem RetInc.uni {r:Option (List Int)} {w w':World} {e:Ending} (h:RetInc r w e w'):∃ (ws:List Int) (A:Option Addr) (c:Nat),e = .returned (.tuple #[.slice A ws.length c,.bool r.isNone,.int .i64 0])∧ws = r.getD []∧RdI w' w'.heap.size A ws∧ws.length ≤ c∧c ≤ 9223372036854775807∧Below w.heap.size w w':=by
  obtain ⟨h1 | ⟨ws,A,c,h1,h2,h3,h4,h5⟩,hb⟩:=h
  · obtain ⟨rfl,rfl⟩:=h1
    exact ⟨[],none,0,rfl,rfl,RdI.nil,by simp,by omega,hb⟩
  · subst h1 h2
    exact ⟨ws,A,c,rfl,rfl,h3,h4,h5,hb⟩
set_option maxRecDepth 100000 in
set_option maxHeartbeats 12800000 in
theorem supervises_walk (g:Sm4) (u f:Int) (s:Sm4) (w:World) (h0:g.ok∧(0 ≤ u∧u ≤ 255)∧0 ≤ f∧f ≤ 255) (h1:s.ok) :
    Calls Try.prog 8 #[.agg (sp4 g u f).toArray,.agg (smc s).toArray] w fun e w'=>e = .returned (.bool true)∧Below w.heap.size w w':=by
  obtain ⟨hg,hu,hf⟩:=h0
  have hlen:(sp4 g u f).length = 28:=by unfold sp4;rw [List.length_append,smc_len hg];rfl
  have hb1:=box_below w (.cells (sp4 g u f).toArray 27)
  have kx:=Blk.new w 27 (sp4 g u f)
  obtain ⟨w0,hw0⟩:∃ w1,w1 = w.alloc (.cells (sp4 g u f).toArray 27):=⟨_,rfl⟩
  rw [← hw0] at hb1 kx
  have hs0:w0.heap.size = w.heap.size + 1:=by rw [hw0];simp
  have hb2:=box_below w0 (.cells (smc s).toArray 25)
  have kx2:=kx.below hb2 kx.lt
  have ks:=Blk.new w0 25 (smc s)
  rw [hs0] at ks
  obtain ⟨w1,hw1⟩:∃ w1,w1 = w0.alloc (.cells (smc s).toArray 25):=⟨_,rfl⟩
  rw [← hw1] at hb2 kx2
  have ks':Blk w1 (w.heap.size + 1) 25 (smc s):=by rw [hw1];exact ks
  have HKN:=Lib.hid (law_Known28 w1)
  have HG:=Lib.hid hg
  have HSO:=Lib.hid h1
  have HU:=Lib.hid hu
  have HF:=Lib.hid hf
  have HLN:=Lib.hid hlen
  have HLS:=Lib.hid (smc_len h1)
  have HB1:=Lib.hid (hb1.trans (hb2.mono hb1.size))
  have HKX:=Lib.hid kx2
  have HKS:=Lib.hid ks'
  have HW1:=Lib.hid (show w1 = (w.alloc (.cells (sp4 g u f).toArray 27)).alloc (.cells (smc s).toArray 25) by rw [hw1,hw0])
  clear hg hu hf hlen hb1 hb2 kx kx2 ks ks' hw0 hw1 hs0 h1
  go_enter Try.func8,Try.ntmps8
  go_upto_region 1 with fail
  rw [← HW1.out]
  go_wp2_with fail
  refine HKN.out.mono ?_
  rintro e w2 ⟨rfl,hb2⟩
  have HB2:=Lib.hid (HB1.out.trans (hb2.mono HB1.out.size))
  have HK2:=Lib.hid (HKX.out.below hb2 HKX.out.lt)
  have HS2:=Lib.hid (HKS.out.below hb2 HKS.out.lt)
  clear HKN hb2 HKX HKS HB1 HW1
  have hrg:w2.rangeAt w.heap.size 0 (sp4 g u f):=fun j v hj=>by rw [Nat.zero_add];exact HK2.out.cell hj
  go_wp2_with (first | (refine wpList_load_mid rfl 27 (.tmp 2) rfl w.heap.size 0 rfl (sp4 g u f) _ hrg Try.underlying27 rfl (by rw [HLN.out];kernel_rfl) ?_) | fail)
  refine (law_Make28 g u f w2 HG.out HU.out HF.out).mono ?_
  rintro e w3 ⟨z1,rfl,hz1,hm1,hb3⟩
  have HM1:=Lib.hid hm1
  have HB3:=Lib.hid (HB2.out.trans (hb3.mono HB2.out.size))
  have HS3:=Lib.hid (HS2.out.below hb3 HS2.out.lt)
  clear hrg hb3 HB2 HK2 HS2 hm1
  have HPB:=Lib.hid (show ∀ z:PB,pbc z = [.slice z.x.A z.x.na z.x.ca,.int .i64 z.x.a.st,.slice z.x.M z.x.nm z.x.cm,.slice z.x.E z.x.ne z.x.ce,.slice z.u.A z.u.n z.u.c,.slice z.f.A z.f.n z.f.c] from fun z=>rfl)
  rw [HPB.out z1]
  have hbx:=box_below w3 (.cells #[.slice z1.x.A z1.x.na z1.x.ca,.int .i64 z1.x.a.st,.slice z1.x.M z1.x.nm z1.x.cm,.slice z1.x.E z1.x.ne z1.x.ce,.slice z1.u.A z1.u.n z1.u.c,.slice z1.f.A z1.f.n z1.f.c] 34)
  have k7:=Blk.new w3 34 [.slice z1.x.A z1.x.na z1.x.ca,.int .i64 z1.x.a.st,.slice z1.x.M z1.x.nm z1.x.cm,.slice z1.x.E z1.x.ne z1.x.ce,.slice z1.u.A z1.u.n z1.u.c,.slice z1.f.A z1.f.n z1.f.c]
  have HZ4:=Lib.hid ((hz1.below hbx).more hbx.size)
  have HB4:=Lib.hid (HB3.out.trans (hbx.mono HB3.out.size))
  have HS4:=Lib.hid (HS3.out.below hbx HS3.out.lt)
  clear hz1 HB3 HS3
  go_upto_region 4 with fail
  obtain ⟨b7,hb7⟩:∃ b,w3.heap.size = b:=⟨_,rfl⟩
  rw [hb7] at k7 ⊢
  clear hb7 hbx
  generalize w3.alloc (.cells #[.slice z1.x.A z1.x.na z1.x.ca,.int .i64 z1.x.a.st,.slice z1.x.M z1.x.nm z1.x.cm,.slice z1.x.E z1.x.ne z1.x.ce,.slice z1.u.A z1.u.n z1.u.c,.slice z1.f.A z1.f.n z1.f.c] 34) = w4 at k7 HZ4 HB4 HS4 ⊢
  have HZ:=Lib.hid (fun (W:World) (hb:Below w4.heap.size w4 W)=>(HZ4.out.below hb).more hb.size)
  have HP:=Lib.hid (fun (W:World) (hb:Below w4.heap.size w4 W)=>Blk.c6 (k7.below hb k7.lt))
  have HSM:=Lib.hid (fun (W:World) (hb:Below w4.heap.size w4 W)=>HS4.out.below hb HS4.out.lt)
  clear k7 HS4
  have HOK:=Lib.hid (show z1.m.ok by rw [HM1.out];exact prb4_ok g u f)
  have HST:=Lib.hid (show z1.x.a.st ≤ 6 from by
    have h9:=HM1.out
    have e:z1.x.a = aut4 g:=congrArg Mx.a h9
    rw [e]
    show (g.n:Int) ≤ 6
    have:=g.n_le
    omega)
  have HPD:=Lib.hid (law_proved z1 z1.x.a.st.toNat w4 HZ4.out HOK.out (by have h9:=HOK.out.wf.st0;have e:z1.m.a.st = z1.x.a.st:=rfl;omega))
  rw [HPB.out z1] at HPD
  obtain ⟨⟨a0,a1,a2,a3,a4⟩,a5⟩:=HP.out w4 (Below.refl _ _)
  go_wp2_with fail
  refine HPD.out.mono ?_
  rintro e w8 ⟨C,rfl,hC,hCe,_,hb8⟩
  have HCE:=Lib.hid hCe
  have HCV:=Lib.hid (show cvc C = [.slice C.k.A C.k.n C.k.c,.slice C.d.A C.d.n C.d.c,.slice C.R C.rn C.rc] from rfl)
  rw [HCV.out]
  clear a0 a1 a2 a3 a4 a5 hCe HPD
  have hbx:=box_below w8 (.cells #[.slice C.k.A C.k.n C.k.c,.slice C.d.A C.d.n C.d.c,.slice C.R C.rn C.rc] 38)
  have k9:=Blk.new w8 38 [.slice C.k.A C.k.n C.k.c,.slice C.d.A C.d.n C.d.c,.slice C.R C.rn C.rc]
  have hc9:=(hC.below hbx).more hbx.size
  have HB49:=Lib.hid (hb8.trans (hbx.mono hb8.size))
  go_upto_region 5 with fail
  obtain ⟨b9,hb9⟩:∃ b,w8.heap.size = b:=⟨_,rfl⟩
  rw [hb9] at k9 ⊢
  clear hb9 hbx hC hb8
  generalize w8.alloc (.cells #[.slice C.k.A C.k.n C.k.c,.slice C.d.A C.d.n C.d.c,.slice C.R C.rn C.rc] 38) = w9 at k9 hc9 HB49 ⊢
  have HCO:=Lib.hid (fun (W:World) (hb:Below w9.heap.size w9 W)=>(hc9.below hb).more hb.size)
  have HCK:=Lib.hid (fun (W:World) (hb:Below w9.heap.size w9 W)=>Blk.c3 (k9.below hb k9.lt))
  have H49:=Lib.hid (fun (W:World) (hb:Below w9.heap.size w9 W)=>HB49.out.trans (hb.mono HB49.out.size))
  clear k9 hc9
  have hcrn:C.rn ≤ 1000000:=by
    have h1:=prvC_few HOK.out
    rw [← HCE.out] at h1
    have h2:C.ce.rm.length = C.rn:=(HCO.out _ (Below.refl _ _)).rl
    omega
  have HPC:=Lib.hid (show FOk z1.m.a.st C.ce∧VOk z1.m C.ce by rw [HCE.out];exact prvC_ok HOK.out)
  have HSV:=Lib.hid (fun (W:World) (hb:Below w9.heap.size w9 W)=>max_Supervisor z1 C W (HZ.out W (H49.out W hb)) HOK.out (HCO.out W hb) hcrn HPC.out.1 HPC.out.2)
  have HRR:=Lib.hid (fun (W:World) (hb:Below w9.heap.size w9 W) (n:Nat) (hn:z1.x.a.st = (n:Int))=>reach_Restrict z1.x n C.k.A C.k.c C.k.n C.k.l W (HZ.out W (H49.out W hb)).x HOK.out.wf hn (HCO.out W hb).k.la (HCO.out W hb).k.ra (HCO.out W hb).k.ac (HCO.out W hb).k.cA HPC.out.1.kinc (fun t ht=>by have:=HPC.out.1.krng t ht;have e:z1.m.a.st = z1.x.a.st:=rfl;omega))
  have HRS:=Lib.hid (show 0 ≤ (rsA z1.x.a C.k.l).st∧(rsA z1.x.a C.k.l).st ≤ 6 from by have h:=rsA_st (a:=z1.x.a) HOK.out.wf C.k.l;have:=HST.out;omega)
  have HRW:=Lib.hid (show WF (rsA z1.x.a C.k.l) from rsA_wf HOK.out.wf)
  have HPM:=Lib.hid (fun (W:World) (hb:Below w9.heap.size w9 W) (y:AV) (hy:y.ok W W.heap.size) (hwy:WF y.a) (hy6:y.a.st ≤ 6)=>max_Permits z1 C y W (HZ.out W (H49.out W hb)) HOK.out (HCO.out W hb) hcrn HPC.out.1 HPC.out.2 hy hwy (vsN_few hwy.st0 hy6 HRS.out.1 HRS.out.2))
  rw [HPB.out z1,HCV.out] at HSV HPM
  obtain ⟨R,hR⟩:∃ R,rsA z1.x.a C.k.l = R:=⟨_,rfl⟩
  rw [hR] at HSV HRR HRS HRW HPM
  obtain ⟨n1,hn1⟩:∃ n:Nat,z1.x.a.st = (n:Int):=⟨z1.x.a.st.toNat,by have h9:=HOK.out.wf.st0;have e:z1.m.a.st = z1.x.a.st:=rfl;omega⟩
  have HRR2:=Lib.hid (fun (W:World) (hb:Below w9.heap.size w9 W)=>HRR.out W hb n1 hn1)
  clear hcrn hR HRR hn1
  obtain ⟨⟨a0,a1,a2,a3,a4⟩,a5⟩:=HP.out w9 HB49.out
  obtain ⟨c0,c1,c2⟩:=HCK.out w9 (Below.refl _ _)
  go_wp2_with fail
  refine (HSV.out w9 (Below.refl _ _)).mono ?_
  rintro e wC ⟨y,rfl,hy,hya,hbC⟩
  clear a0 a1 a2 a3 a4 a5 c0 c1 c2 HSV
  have HYV:=Lib.hid (show ∀ y:AV,avc y = [.slice y.A y.na y.ca,.int .i64 y.a.st,.slice y.M y.nm y.cm,.slice y.E y.ne y.ce] from fun _=>rfl)
  rw [HYV.out y]
  have HYA:=Lib.hid hya
  clear hya
  have hbx:=box_below wC (.cells #[.slice y.A y.na y.ca,.int .i64 y.a.st,.slice y.M y.nm y.cm,.slice y.E y.ne y.ce] 32)
  have kD:=Blk.new wC 32 [.slice y.A y.na y.ca,.int .i64 y.a.st,.slice y.M y.nm y.cm,.slice y.E y.ne y.ce]
  have hyD:=(AutR.below hy.ok hbx).more hbx.size
  have HB9D:=Lib.hid (hbC.trans (hbx.mono hbC.size))
  go_upto_region 6 with fail
  obtain ⟨bD,hbD⟩:∃ b,wC.heap.size = b:=⟨_,rfl⟩
  rw [hbD] at kD ⊢
  clear hbD hbx hy hbC
  generalize wC.alloc (.cells #[.slice y.A y.na y.ca,.int .i64 y.a.st,.slice y.M y.nm y.cm,.slice y.E y.ne y.ce] 32) = wD at kD hyD HB9D ⊢
  have HYO:=Lib.hid (fun (W:World) (hb:Below wD.heap.size wD W)=>(AutR.below hyD hb).more hb.size)
  have HYK:=Lib.hid (fun (W:World) (hb:Below wD.heap.size wD W)=>Blk.c4 (kD.below hb kD.lt))
  have H9D:=Lib.hid (fun (W:World) (hb:Below wD.heap.size wD W)=>HB9D.out.trans (hb.mono HB9D.out.size))
  clear kD hyD
  obtain ⟨⟨a0,a1,a2,a3,a4⟩,a5⟩:=HP.out wD (H49.out wD HB9D.out)
  obtain ⟨c0,c1,c2⟩:=HCK.out wD HB9D.out
  go_wp2_with fail
  refine (HRR2.out wD HB9D.out).mono ?_
  rintro e wE ⟨x,rfl,hx,hxa,hbE⟩
  clear a0 a1 a2 a3 a4 a5 c0 c1 c2 HRR2
  rw [HYV.out x]
  have HXA:=Lib.hid hxa
  clear hxa
  have hbx:=box_below wE (.cells #[.slice x.A x.na x.ca,.int .i64 x.a.st,.slice x.M x.nm x.cm,.slice x.E x.ne x.ce] 32)
  have kF:=Blk.new wE 32 [.slice x.A x.na x.ca,.int .i64 x.a.st,.slice x.M x.nm x.cm,.slice x.E x.ne x.ce]
  have hxF:=(AutR.below hx.ok hbx).more hbx.size
  have HBDF:=Lib.hid (hbE.trans (hbx.mono hbE.size))
  go_upto_region 7 with fail
  obtain ⟨bF,hbF⟩:∃ b,wE.heap.size = b:=⟨_,rfl⟩
  rw [hbF] at kF ⊢
  clear hbF hbx hx hbE
  generalize wE.alloc (.cells #[.slice x.A x.na x.ca,.int .i64 x.a.st,.slice x.M x.nm x.cm,.slice x.E x.ne x.ce] 32) = wF at kF hxF HBDF ⊢
  have HXO:=Lib.hid (fun (W:World) (hb:Below wF.heap.size wF W)=>(AutR.below hxF hb).more hb.size)
  have HXK:=Lib.hid (fun (W:World) (hb:Below wF.heap.size wF W)=>Blk.c4 (kF.below hb kF.lt))
  have HDF:=Lib.hid (fun (W:World) (hb:Below wF.heap.size wF W)=>HBDF.out.trans (hb.mono HBDF.out.size))
  have H9F:=Lib.hid (fun (W:World) (hb:Below wF.heap.size wF W)=>H9D.out W (HDF.out W hb))
  have H4F:=Lib.hid (fun (W:World) (hb:Below wF.heap.size wF W)=>H49.out W (H9F.out W hb))
  clear kF hxF
  obtain ⟨RI,hRI⟩:∃ r,incS (aut4 s) R = r:=⟨_,rfl⟩
  have HRI:=Lib.hid hRI
  have HA4:=Lib.hid (And.intro (aut4_wf s) (show (aut4 s).st ≤ 6 from by show (s.n:Int) ≤ 6;have:=s.n_le;omega))
  have HLI:=Lib.hid (fun (W:World) (hb:Below wF.heap.size wF W) (v:AV) (hv:v.ok W W.heap.size) (hva:v.a = aut4 s)=>lng_Included v x W hv (HXO.out W hb) (by rw [hva];exact HA4.out.1) (by rw [HXA.out];exact HRW.out) (by rw [hva,HXA.out];exact vsN_few HA4.out.1.st0 HA4.out.2 HRS.out.1 HRS.out.2))
  clear hRI
  -- region 7
  refine wp_region_U (fun W=>Below wF.heap.size wF W) (fun _=>True) 99 (by kernel_rfl) ?_
  change anyU _ _ _ _ _ _ _ 12 _ _ _
  have hB0:True:=trivial
  have hA0:=below_dr wF
  generalize wF.drew = wd at hA0 ⊢
  (refine uA 0 ?_ rfl hA0 hB0 (fun W hA=>?_) ?_;rotate_left;(· (obtain ⟨⟨a0,a1,a2,a3,a4⟩,a5⟩:=HP.out W (H4F.out W hA);go_simp;try with_reducible rfl));(try simp only [Act.put,List.setIfInBounds_toArray,List.set_cons_zero,List.set_cons_succ]))
  (refine uA 1 ?_ rfl hA0 hB0 (fun W hA=>?_) ?_;rotate_left;(· (obtain ⟨c0,c1,c2⟩:=HCK.out W (H9F.out W hA);go_simp;try with_reducible rfl));(try simp only [Act.put,List.setIfInBounds_toArray,List.set_cons_zero,List.set_cons_succ]))
  refine uTakeY (i:=2) (v:=.agg (smc s).toArray) rfl (by kernel_rfl) (fun _ _ _ h=>h) ?_ ⟨hA0,fun _=>hB0⟩ ?_
  · exact yieldsIf_load_mid (by rfl) 25 (.tmp 3) rfl (w.heap.size + 1) 0 rfl (smc s) _ (fun W hW=>fun j v hj=>by rw [Nat.zero_add];exact (HSM.out W (H4F.out W hW)).cell hj) Try.underlying25 rfl (by rw [HLS.out];kernel_rfl)
  (try simp only [Act.put,List.setIfInBounds_toArray,List.set_cons_zero,List.set_cons_succ])
  refine uOne (i:=3) rfl (by kernel_rfl) (fun K hK=>?_)
  go_simp
  go_at_call 30
  refine (law_Make4 s wd HSO.out).mono ?_
  rintro e wg ⟨v,rfl,hv,hva,hbg⟩
  have hA1:=hA0.trans (hbg.mono hA0.size)
  have HQ:=Lib.hid (HPM.out wg (H9F.out wg hA1) v hv.rd (by rw [hva];exact HA4.out.1) (by rw [hva];exact HA4.out.2))
  rw [HYV.out v,hva,HRI.out] at HQ
  rw [hva]
  (refine hK _ _ ⟨hA1,fun _=>hB0⟩ ?_;clear hK K;(try simp only [Act.put,List.setIfInBounds_toArray,List.set_cons_zero,List.set_cons_succ]))
  clear hA0 hbg hv hva
  refine uOne (i:=4) rfl (by kernel_rfl) (fun K hK=>?_)
  go_simp
  go_at_call 29
  refine HQ.out.mono ?_
  rintro e wh hh
  obtain ⟨ws1,A1,q1,rfl,hws1,hr1,hq1,hq2,hbh⟩:=hh.uni
  have hA2:=hA1.trans (hbh.mono hA1.size)
  have HW1:=Lib.hid (fun (W:World) (hb:Below wh.heap.size wh W)=>And.intro ((hr1.below hb).more hb.size) (And.intro hq1 hq2))
  have HWS1:=Lib.hid hws1
  (refine hK _ _ ⟨hA2,fun _=>hB0⟩ ?_;clear hK K;(try simp only [Act.put,List.setIfInBounds_toArray,List.set_cons_zero,List.set_cons_succ]))
  clear hA1 hbh hr1 hq1 hq2 hws1 hh HQ
  have hA0:=hA2
  clear hA2
  (refine uA 5 ?_ rfl hA0 hB0 (fun W hA=>?_) ?_;rotate_left;(· (go_simp;try with_reducible rfl));(try simp only [Act.put,List.setIfInBounds_toArray,List.set_cons_zero,List.set_cons_succ]))
  (refine uA 6 ?_ rfl hA0 hB0 (fun W hA=>?_) ?_;rotate_left;(· (go_simp;try with_reducible rfl));refine uA 7 ?_ rfl hA0 hB0 (fun W hA=>?_) ?_;rotate_left;(· (go_simp;try with_reducible rfl));refine uA 8 ?_ rfl hA0 hB0 (fun W hA=>?_) ?_;rotate_left;(· (go_simp;try with_reducible rfl));(try simp only [Act.put,List.setIfInBounds_toArray,List.set_cons_zero,List.set_cons_succ]))
  (refine uA 9 ?_ rfl hA0 hB0 (fun W hA=>?_) ?_;rotate_left;(· (go_simp;try with_reducible rfl));refine uA 10 ?_ rfl hA0 hB0 (fun W hA=>?_) ?_;rotate_left;(· (go_simp;try with_reducible rfl));refine uA 11 ?_ rfl hA0 hB0 (fun W hA=>?_) ?_;rotate_left;(· (go_simp;try with_reducible rfl));(try simp only [Act.put,List.setIfInBounds_toArray,List.set_cons_zero,List.set_cons_succ]))
  refine anyU_done (by kernel_rfl) ?_ _
  have HFH:=Lib.hid (fun (W:World) (hb:Below wh.heap.size wh W)=>hA0.trans (hb.mono hA0.size))
  clear hA0
  go_upto_region 8 with fail
  -- region 8
  refine wp_region_U (fun W=>Below wh.heap.size wh W) (fun _=>True) 99 (by kernel_rfl) ?_
  change anyU _ _ _ _ _ _ _ 11 _ _ _
  have hB0:True:=trivial
  have hA0:=below_dr wh
  generalize wh.drew = wd2 at hA0 ⊢
  refine uTakeY (i:=0) (v:=.agg (smc s).toArray) rfl (by kernel_rfl) (fun _ _ _ h=>h) ?_ ⟨hA0,fun _=>hB0⟩ ?_
  · exact yieldsIf_load_mid (by rfl) 25 (.tmp 3) rfl (w.heap.size + 1) 0 rfl (smc s) _ (fun W hW=>fun j v hj=>by rw [Nat.zero_add];exact (HSM.out W (H4F.out W (HFH.out W hW))).cell hj) Try.underlying25 rfl (by rw [HLS.out];kernel_rfl)
  (try simp only [Act.put,List.setIfInBounds_toArray,List.set_cons_zero,List.set_cons_succ])
  (refine uA 2 ?_ rfl hA0 hB0 (fun W hA=>?_) ?_;rotate_left;(· (obtain ⟨a0,a1,a2,a3⟩:=HXK.out W (HFH.out W hA);go_simp;try with_reducible rfl));(try simp only [Act.put,List.setIfInBounds_toArray,List.set_cons_zero,List.set_cons_succ]))
  refine uOne (i:=1) rfl (by kernel_rfl) (fun K hK=>?_)
  go_simp
  go_at_call 30
  refine (law_Make4 s wd2 HSO.out).mono ?_
  rintro e wg2 ⟨v,rfl,hv,hva,hbg⟩
  have hA1:=hA0.trans (hbg.mono hA0.size)
  have HQ:=Lib.hid (HLI.out wg2 (HFH.out wg2 hA1) v hv.rd hva)
  rw [HYV.out v,HYV.out x,hva,HXA.out,HRI.out] at HQ
  rw [hva]
  (refine hK _ _ ⟨hA1,fun _=>hB0⟩ ?_;clear hK K;(try simp only [Act.put,List.setIfInBounds_toArray,List.set_cons_zero,List.set_cons_succ]))
  clear hA0 hbg hv hva
  refine uOne (i:=3) rfl (by kernel_rfl) (fun K hK=>?_)
  go_simp
  go_at_call 31
  rw [HXA.out]
  refine HQ.out.mono ?_
  rintro e wi hh
  obtain ⟨ws2,A2,q2,rfl,hws2,hr2,hq1,hq2,hbh⟩:=hh.uni
  have hA2:=hA1.trans (hbh.mono hA1.size)
  have HW2:=Lib.hid (fun (W:World) (hb:Below wi.heap.size wi W)=>And.intro ((hr2.below hb).more hb.size) (And.intro hq1 hq2))
  have HWS2:=Lib.hid hws2
  (refine hK _ _ ⟨hA2,fun _=>hB0⟩ ?_;clear hK K;(try simp only [Act.put,List.setIfInBounds_toArray,List.set_cons_zero,List.set_cons_succ]))
  clear hA1 hbh hr2 hq1 hq2 hws2 hh HQ
  have hA0:=hA2
  clear hA2
  (refine uA 4 ?_ rfl hA0 hB0 (fun W hA=>?_) ?_;rotate_left;(· (go_simp;try with_reducible rfl));(try simp only [Act.put,List.setIfInBounds_toArray,List.set_cons_zero,List.set_cons_succ]))
  (refine uA 5 ?_ rfl hA0 hB0 (fun W hA=>?_) ?_;rotate_left;(· (go_simp;try with_reducible rfl));refine uA 6 ?_ rfl hA0 hB0 (fun W hA=>?_) ?_;rotate_left;(· (go_simp;try with_reducible rfl));refine uA 7 ?_ rfl hA0 hB0 (fun W hA=>?_) ?_;rotate_left;(· (go_simp;try with_reducible rfl));(try simp only [Act.put,List.setIfInBounds_toArray,List.set_cons_zero,List.set_cons_succ]))
  (refine uA 8 ?_ rfl hA0 hB0 (fun W hA=>?_) ?_;rotate_left;(· (go_simp;try with_reducible rfl));refine uA 9 ?_ rfl hA0 hB0 (fun W hA=>?_) ?_;rotate_left;(· (go_simp;try with_reducible rfl));refine uA 10 ?_ rfl hA0 hB0 (fun W hA=>?_) ?_;rotate_left;(· (go_simp;try with_reducible rfl));(try simp only [Act.put,List.setIfInBounds_toArray,List.set_cons_zero,List.set_cons_succ]))
  refine anyU_done (by kernel_rfl) ?_ _
  have HHI:=Lib.hid (fun (W:World) (hb:Below wi.heap.size wi W)=>hA0.trans (hb.mono hA0.size))
  have HFI:=Lib.hid (fun (W:World) (hb:Below wi.heap.size wi W)=>HFH.out W (hA0.trans (hb.mono hA0.size)))
  clear hA0
  -- region 9
  have HQ:=Lib.hid (HPM.out wi (H9F.out wi (HFI.out wi (Below.refl _ _))) y (HYO.out wi (HDF.out wi (HFI.out wi (Below.refl _ _)))) (by rw [HYA.out];exact HRW.out) (by rw [HYA.out];exact HRS.out.2))
  rw [HYV.out y,HYA.out,incS_self] at HQ
  obtain ⟨⟨a0,a1,a2,a3,a4⟩,a5⟩:=HP.out wi (H4F.out wi (HFI.out wi (Below.refl _ _)))
  obtain ⟨c0,c1,c2⟩:=HCK.out wi (H9F.out wi (HFI.out wi (Below.refl _ _)))
  obtain ⟨y0,y1,y2,y3⟩:=HYK.out wi (HDF.out wi (HFI.out wi (Below.refl _ _)))
  rw [HYA.out] at y1
  go_wp2_with fail
  refine HQ.out.mono ?_
  rintro e wj ⟨hh,hbj⟩
  have hh':e = .returned (.tuple #[.slice none 0 0,.bool true,.int .i64 0]):=by
    rcases hh with h | ⟨_,_,_,h,_⟩
    · exact h.2
    · cases h
  subst hh'
  clear a0 a1 a2 a3 a4 a5 c0 c1 c2 y0 y1 y2 y3 hh HQ HPM
  have HIJ:=Lib.hid hbj
  clear hbj
  -- region 10
  obtain ⟨y0,y1,y2,y3⟩:=HYK.out wj (HDF.out wj (HFI.out wj HIJ.out))
  obtain ⟨x0,x1,x2,x3⟩:=HXK.out wj (HFI.out wj HIJ.out)
  have HEQ:=Lib.hid (automaton_Equal y.A y.M y.E x.A x.M x.E y.na y.ca y.nm y.cm y.ne y.ce x.na x.ca x.nm x.cm x.ne x.ce y.a x.a true wj (eqA_of (by rw [HYA.out,HXA.out])) (HYO.out wj (HDF.out wj (HFI.out wj HIJ.out))) (HXO.out wj (HFI.out wj HIJ.out)))
  rw [HYA.out,HXA.out] at HEQ
  rw [HYA.out] at y1
  rw [HXA.out] at x1
  go_wp2_with fail
  refine HEQ.out.mono ?_
  rintro e wk ⟨rfl,hbk⟩
  have HBK:=Lib.hid (HIJ.out.trans (hbk.mono HIJ.out.size))
  clear y0 y1 y2 y3 x0 x1 x2 x3 HEQ hbk
  obtain ⟨g1,g2,g3⟩:=HW1.out wk (HHI.out wk HBK.out)
  obtain ⟨k1,k2,k3⟩:=HW2.out wk HBK.out
  have HSA:=Lib.hid (law_same28 A1 A2 q1 q2 ws1 ws2 wk g1 g2 g3 k1)
  rw [show eqB ws1 ws2 = true from by rw [HWS1.out,HWS2.out];unfold eqB;simp] at HSA
  have HBW:=Lib.hid (HB4.out.trans ((H4F.out wk (HFI.out wk HBK.out)).mono HB4.out.size))
  clear g1 g2 g3 k1 k2 k3
  obtain ⟨qn,hqn⟩:∃ q,RI.isNone = q:=⟨_,rfl⟩
  rw [hqn]
  clear hqn
  have hqq:(qn == qn) = true:=by cases qn <;> rfl
  go_wp2_with fail
  refine HSA.out.mono ?_
  rintro e wl ⟨rfl,n,rfl⟩
  have HBL:=Lib.hid (below_drewN HBW.out n)
  go_wp2
  go_ret
  exact ⟨rfl,HBL.out⟩
end Go.Proofs.Ytdnmpndnpfklcaa

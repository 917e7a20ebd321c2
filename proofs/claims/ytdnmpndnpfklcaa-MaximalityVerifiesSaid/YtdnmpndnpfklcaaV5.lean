/- Walk of the law MaximalityVerifies. -/
import Derived.Test.YtdnmpndnpfklcaaBx
import Derived.Test.YtdnmpndnpfklcaaV3
import Derived.Test.YtdnmpndnpfklcaaV4
import Derived.Test.YtdnmpndnpfklcaaXm
namespace Go.Proofs.Ytdnmpndnpfklcaa
open Go.RowKit Go Go.Maps
set_option maxRecDepth 100000 in
set_option maxHeartbeats 12800000 in
theorem verifies_walk (g:Sm4) (u f:Int) (LA:Option Addr) (ln lc:Nat) (L:List Ch) (w:World) (h0:g.ok∧(0 ≤ u∧u ≤ 255)∧0 ≤ f∧f ≤ 255) (hL:ChArg w LA ln lc L) :
  Calls Try.prog 4 #[.agg (sp4 g u f).toArray,.slice LA ln lc] w fun e w'=>e = .returned (.bool true)∧Below w.heap.size w w':=by
 obtain ⟨hg,hu,hf⟩:=h0
 have hlen:(sp4 g u f).length = 28:=by unfold sp4;rw [List.length_append,smc_len hg];rfl
 have hb1:=box_below w (.cells (sp4 g u f).toArray 27)
 have kx:=Blk.new w 27 (sp4 g u f)
 obtain ⟨w1,hw1⟩:∃ w1,w1 = w.alloc (.cells (sp4 g u f).toArray 27):=⟨_,rfl⟩
 rw [← hw1] at hb1 kx
 have HKN:=Lib.hid (fun (W:World)=>law_Known28 W)
 have HL0:=Lib.hid (fun (W:World) (hb:Below w.heap.size w W)=>hL.below hb)
 have HLL:=Lib.hid hL.1
 have hlc1:ln ≤ lc:=hL.2.1
 have hlc2:lc ≤ 9223372036854775807:=hL.2.2.1
 clear hL
 have HG:=Lib.hid hg
 have HU:=Lib.hid hu
 have HF:=Lib.hid hf
 have HLN:=Lib.hid hlen
 have HB1:=Lib.hid hb1
 have HKX:=Lib.hid kx
 have HW1:=Lib.hid hw1
 clear hg hu hf hlen hb1 kx hw1
 go_enter Try.func4,Try.ntmps4
 go_upto_region 1 with fail
 rw [← HW1.out]
 go_wp2_with fail
 refine (HKN.out w1).mono ?_
 rintro e w2 ⟨rfl,hb2⟩
 have HB2:=Lib.hid (HB1.out.trans (hb2.mono HB1.out.size))
 have HK2:=Lib.hid (HKX.out.below hb2 HKX.out.lt)
 clear hb2 HKX HB1 HW1
 by_cases hln:(ln:Int) > 2
 case pos =>
  go_wp2_with fail
  refine (HKN.out w2).mono ?_
  rintro e w3 ⟨rfl,hb3⟩
  have HB3:=Lib.hid (HB2.out.trans (hb3.mono HB2.out.size))
  clear hb3
  go_wp2
  go_ret
  exact ⟨rfl,HB3.out⟩
 have hln2:ln ≤ 2:=by omega
 have hlnd:decide ((ln:Int) > 2) = false:=by simpa using hln
 clear HKN hln
 have hrg:w2.rangeAt w.heap.size 0 (sp4 g u f):=fun j v hj=>by rw [Nat.zero_add];exact HK2.out.cell hj
 go_wp2_with (first | (refine wpList_load_mid rfl 27 (.tmp 2) rfl w.heap.size 0 rfl (sp4 g u f) _ hrg Try.underlying27 rfl (by rw [HLN.out];kernel_rfl) ?_) | fail)
 refine (law_Make28 g u f w2 HG.out HU.out HF.out).mono ?_
 rintro e w3 ⟨z1,rfl,hz1,hm1,hb3⟩
 have HM1:=Lib.hid hm1
 have HB3:=Lib.hid (HB2.out.trans (hb3.mono HB2.out.size))
 have HK3:=Lib.hid (HK2.out.below hb3 HK2.out.lt)
 clear hrg hb3 HB2 HK2 hm1
 have HPB:=Lib.hid (show ∀ z:PB,pbc z = [.slice z.x.A z.x.na z.x.ca,.int .i64 z.x.a.st,.slice z.x.M z.x.nm z.x.cm,.slice z.x.E z.x.ne z.x.ce,.slice z.u.A z.u.n z.u.c,.slice z.f.A z.f.n z.f.c] from fun z=>rfl)
 rw [HPB.out z1]
 have hbx:=box_below w3 (.cells #[.slice z1.x.A z1.x.na z1.x.ca,.int .i64 z1.x.a.st,.slice z1.x.M z1.x.nm z1.x.cm,.slice z1.x.E z1.x.ne z1.x.ce,.slice z1.u.A z1.u.n z1.u.c,.slice z1.f.A z1.f.n z1.f.c] 34)
 have k7:=Blk.new w3 34 [.slice z1.x.A z1.x.na z1.x.ca,.int .i64 z1.x.a.st,.slice z1.x.M z1.x.nm z1.x.cm,.slice z1.x.E z1.x.ne z1.x.ce,.slice z1.u.A z1.u.n z1.u.c,.slice z1.f.A z1.f.n z1.f.c]
 have HZ4:=Lib.hid ((hz1.below hbx).more hbx.size)
 have HB4:=Lib.hid (HB3.out.trans (hbx.mono HB3.out.size))
 clear hz1 HB3 HK3
 go_upto_region 4 with fail
 obtain ⟨b7,hb7⟩:∃ b,w3.heap.size = b:=⟨_,rfl⟩
 rw [hb7] at k7 ⊢
 clear hb7 hbx
 generalize w3.alloc (.cells #[.slice z1.x.A z1.x.na z1.x.ca,.int .i64 z1.x.a.st,.slice z1.x.M z1.x.nm z1.x.cm,.slice z1.x.E z1.x.ne z1.x.ce,.slice z1.u.A z1.u.n z1.u.c,.slice z1.f.A z1.f.n z1.f.c] 34) = w4 at k7 HZ4 HB4 ⊢
 have HZ:=Lib.hid (fun (W:World) (hb:Below w4.heap.size w4 W)=>(HZ4.out.below hb).more hb.size)
 have HP:=Lib.hid (fun (W:World) (hb:Below w4.heap.size w4 W)=>Blk.c6 (k7.below hb k7.lt))
 clear k7
 have HOK:=Lib.hid (show z1.m.ok by rw [HM1.out];exact prb4_ok g u f)
 obtain ⟨n,hn,hn1,hn6⟩:∃ n:Nat,z1.x.a.st = (n:Int)∧1 ≤ n∧n ≤ 6:=⟨g.n,by have e:z1.m.a.st = z1.x.a.st:=rfl;rw [← e,HM1.out];rfl,g.n_le⟩
 have HST:=Lib.hid (show z1.m.a.st = (n:Int) from hn)
 have HEL:=Lib.hid (show z1.x.ne ≤ 1000000 by have h1:=HOK.out.wf.ed_le;have h2:z1.m.a.ed.length = z1.x.ne:=(HZ.out w4 (Below.refl _ _)).x.le;omega)
 have HPD:=Lib.hid (fun (W:World) (hb:Below w4.heap.size w4 W)=>law_proved z1 n W (HZ.out W hb) HOK.out hn)
 have HVE:=Lib.hid (fun (c:CV) (W:World) (hb:Below w4.heap.size w4 W) (hc:c.ok W W.heap.size) (hrn:c.rn ≤ 1000000)=>max_Verify z1 c W (HZ.out W hb) HOK.out hc hrn)
 have HLV:=Lib.hid (fun (c:CV) (W:World) (hb:Below w4.heap.size w4 W) (hc:c.ok W W.heap.size) (hrn:c.rn ≤ 1000000) (hkn:c.k.n ≤ 1000000)=>law_verify z1 c n W (HZ.out W hb) hc HEL.out hrn hkn hn (by omega))
 rw [HPB.out z1] at HPD HVE HLV
 rw [hn] at HPD HVE HLV HP ⊢
 clear hn
 obtain ⟨⟨a0,a1,a2,a3,a4⟩,a5⟩:=HP.out w4 (Below.refl _ _)
 go_wp2_with fail
 refine (HPD.out w4 (Below.refl _ _)).mono ?_
 rintro e w8 ⟨C,rfl,hC,hCe,hrn,hb8⟩
 have HCF:=Lib.hid (show FOk z1.m.a.st C.ce∧VOk z1.m C.ce by rw [hCe];exact prvC_ok HOK.out)
 have hKS:C.k.n ≤ n:=by
  have h1:=inc_len (n:=n) HCF.out.1.kinc (fun x hx=>by have h:=HCF.out.1.krng x hx;rw [HST.out] at h;exact h)
  rw [show C.ce.kp.length = C.k.n from hC.k.la] at h1
  exact h1
 have hDN:C.d.n = C.k.n:=by
  have h1:=HCF.out.1.dlen
  rw [show C.ce.kp.length = C.k.n from hC.k.la,show C.ce.ds.length = C.d.n from hC.d.la] at h1
  exact h1
 have hRN:C.rn ≤ n:=by
  have h1:(C.rm.map (·.s)).length ≤ n:=inc_len (by
   unfold Inc
   rw [List.pairwise_map]
   exact HCF.out.1.rinc) (fun x hx=>by
   obtain ⟨r,hr,rfl⟩:=List.mem_map.1 hx
   have h:=HCF.out.1.rrng r hr
   rw [HST.out] at h
   exact h)
  rw [List.length_map,hC.rl] at h1
  exact h1
 have HDN:=Lib.hid hDN;clear hDN
 have HCV:=Lib.hid (show ∀ c:CV,cvc c = [.slice c.k.A c.k.n c.k.c,.slice c.d.A c.d.n c.d.c,.slice c.R c.rn c.rc] from fun c=>rfl)
 rw [HCV.out C]
 clear a0 a1 a2 a3 a4 a5 hCe HPD
 have hbx:=box_below w8 (.cells #[.slice C.k.A C.k.n C.k.c,.slice C.d.A C.d.n C.d.c,.slice C.R C.rn C.rc] 38)
 have k9:=Blk.new w8 38 [.slice C.k.A C.k.n C.k.c,.slice C.d.A C.d.n C.d.c,.slice C.R C.rn C.rc]
 have hc9:=(hC.below hbx).more hbx.size
 have HB49:=Lib.hid (hb8.trans (hbx.mono hb8.size))
 go_upto_region 5 with fail
 obtain ⟨b9,hb9⟩:∃ b,w8.heap.size = b:=⟨_,rfl⟩
 rw [hb9] at k9 ⊢
 clear hb9 hbx hC hb8
 generalize w8.alloc (.cells #[.slice C.k.A C.k.n C.k.c,.slice C.d.A C.d.n C.d.c,.slice C.R C.rn C.rc] 38) = w9 at k9 hc9 HB49 ⊢
 have HCO:=Lib.hid (fun (W:World) (hb:Below w9.heap.size w9 W)=>(hc9.below hb).more hb.size)
 have HCK:=Lib.hid (fun (W:World) (hb:Below w9.heap.size w9 W)=>Blk.c3 (k9.below hb k9.lt))
 have H49:=Lib.hid (fun (W:World) (hb:Below w9.heap.size w9 W)=>HB49.out.trans (hb.mono HB49.out.size))
 clear k9 hc9
 obtain ⟨c0,c1,c2⟩:=HCK.out w9 (Below.refl _ _)
 have kd:=Blk.new w9 38 [.slice C.k.A C.k.n C.k.c,.slice C.d.A C.d.n C.d.c,.slice C.R C.rn C.rc]
 have hbx:=box_below w9 (.cells #[.slice C.k.A C.k.n C.k.c,.slice C.d.A C.d.n C.d.c,.slice C.R C.rn C.rc] 38)
 have HBX:=Lib.hid hbx
 go_upto_region 6 with fail
 clear c0 c1 c2
 obtain ⟨bD,hbD⟩:∃ b,w9.heap.size = b:=⟨_,rfl⟩
 have HBD:=Lib.hid hbD
 rw [hbD] at kd ⊢
 clear hbD hbx
 obtain ⟨wa,hwa⟩:∃ q,w9.alloc (.cells #[.slice C.k.A C.k.n C.k.c,.slice C.d.A C.d.n C.d.c,.slice C.R C.rn C.rc] 38) = q:=⟨_,rfl⟩
 rw [hwa] at kd HBX ⊢
 clear hwa
 have HSTART:=Lib.hid (show Below w9.heap.size w9 wa∧∃ D:CV,Blk wa bD 38 (cvc D)∧D.ok wa wa.heap.size∧D.d.n = D.k.n∧D.k.n ≤ 6∧D.rn ≤ 6 + 0 from ⟨HBX.out,C,kd,HCO.out wa HBX.out,HDN.out,by omega,by omega⟩)
 have H0W:=Lib.hid (fun (W:World) (hb:Below w9.heap.size w9 W)=>HB4.out.trans ((H49.out W hb).mono HB4.out.size))
 have H4X:=Lib.hid (fun (W:World) (hb:Below w9.heap.size w9 W)=>H49.out W hb)
 clear kd
 go_wp2
 go_loopw [8] (fun s8 wr=>∃ i:Nat,s8 = .int .i64 i∧i ≤ ln∧Hid (Below w9.heap.size w9 wr∧∃ D:CV,Blk wr bD 38 (cvc D)∧D.ok wr wr.heap.size∧D.d.n = D.k.n∧D.k.n ≤ 6∧D.rn ≤ 6 + i)) (fun s8 _=>ln - (intOf s8).toNat)
 case atStart=>exact ⟨0,rfl,Nat.zero_le _,HSTART⟩
 case round =>
  clear HSTART
  obtain ⟨i,rfl,hi,HI⟩:=hrel
  obtain ⟨wi,rfl⟩:∃ q,q = wr:=⟨_,rfl⟩
  obtain ⟨hbi,D,kd,hdo,hd1,hd2,hd3⟩:=HI.out
  have HBI:=Lib.hid hbi
  have HKD:=Lib.hid kd
  have HDO:=Lib.hid hdo
  have HD1:=Lib.hid hd1
  have HD2:=Lib.hid hd2
  have HD3:=Lib.hid hd3
  clear hbi kd hdo hd1 hd2 hd3 HI
  rw [HCV.out D] at HKD
  by_cases hlt:(i:Int) < (ln:Int)
  case neg =>
   obtain rfl:i = ln:=by omega
   have hld:decide ((i:Int) < (i:Int)) = false:=by simp
   have HVR:=Lib.hid (HVE.out D wi (H49.out wi HBI.out) HDO.out (by have:=HD3.out;omega))
   have HLR:=Lib.hid (fun (W:World) (hb:Below wi.heap.size wi W)=>HLV.out D W ((H49.out wi HBI.out).trans (hb.mono (H49.out wi HBI.out).size)) ((HDO.out.below hb).more hb.size) (by have:=HD3.out;omega) (by have:=HD2.out;omega))
   rw [HCV.out D] at HVR HLR
   have HKK:=Lib.hid (fun (W:World) (hb:Below wi.heap.size wi W)=>HKD.out.below hb HKD.out.lt)
   have H4I:=Lib.hid (fun (W:World) (hb:Below wi.heap.size wi W)=>(H49.out wi HBI.out).trans (hb.mono (H49.out wi HBI.out).size))
   have H9I:=Lib.hid (fun (W:World) (hb:Below wi.heap.size wi W)=>HBI.out.trans (hb.mono HBI.out.size))
   obtain ⟨⟨a0,a1,a2,a3,a4⟩,a5⟩:=HP.out wi (H4I.out wi (Below.refl _ _))
   obtain ⟨c0,c1,c2⟩:=Blk.c3 HKD.out
   go_wp2_with fail
   refine HVR.out.mono ?_
   rintro e wv ⟨v,rfl,hv,hbv⟩
   have HV:=Lib.hid hv
   have HBV:=Lib.hid hbv
   clear a0 a1 a2 a3 a4 a5 c0 c1 c2 hv hbv HVR
   obtain ⟨⟨a0,a1,a2,a3,a4⟩,a5⟩:=HP.out wv (H4I.out wv HBV.out)
   obtain ⟨c0,c1,c2⟩:=Blk.c3 (HKK.out wv HBV.out)
   go_wp2_with fail
   refine (HLR.out wv HBV.out).mono ?_
   rintro e wx ⟨v2,rfl,hv2,hbx2⟩
   obtain rfl:v = v2:=HV.out.unique hv2
   have HBW:=Lib.hid (HBV.out.trans (hbx2.mono HBV.out.size))
   clear a0 a1 a2 a3 a4 a5 c0 c1 c2 hv2 hbx2 HLR
   have HFN:=Lib.hid (fun (W:World) (hb:Below wi.heap.size wi W)=>HB4.out.trans ((H4I.out W hb).mono HB4.out.size))
   obtain ⟨c0,c1,c2⟩:=Blk.c3 (HKK.out wx HBW.out)
   obtain ⟨d0,d1,d2⟩:=HCK.out wx (H9I.out wx HBW.out)
   have hvv:(v == v) = true:=by simp
   by_cases hv0:v = 0
   case neg =>
    have hvn:(v != 0) = true:=by simpa using hv0
    clear hv0
    go_wp2
    go_ret
    exact ⟨rfl,HFN.out _ HBW.out⟩
   subst hv0
   have HSM:=Lib.hid (show eqB D.k.l C.k.l = true from by
    have h1:=HV.out.ok
    have h2:=kept_same HOK.out.wf HCF.out.2 HCF.out.1 h1.2 h1.1
    unfold eqB
    exact decide_eq_true (show D.ce.kp = C.ce.kp from h2.symm))
   have HDW:=Lib.hid ((HDO.out.below HBW.out).more HBW.out.size)
   have HCW:=Lib.hid (HCO.out wx (H9I.out wx HBW.out))
   have HSA:=Lib.hid (law_same_n D.k.A C.k.A D.k.c C.k.c D.k.n C.k.n D.k.l C.k.l true wx HDW.out.k.la HCW.out.k.la HSM.out HDW.out.k.ra HDW.out.k.ac HDW.out.k.cA HCW.out.k.ra)
   go_wp2_with fail
   refine HSA.out.mono ?_
   rintro e wy ⟨rfl,hby⟩
   have HBY:=Lib.hid (HBW.out.trans (hby.mono HBW.out.size))
   clear c0 c1 c2 d0 d1 d2 hby
   go_wp2
   go_ret
   exact ⟨rfl,HFN.out _ HBY.out⟩
  have b1:(i:Int) < (ln:Int):=hlt
  have hdr:=below_dr wi
  obtain ⟨la,ch,hA,hab,hch,hcc⟩:=(HL0.out _ (H0W.out _ (HBI.out.trans (hdr.mono HBI.out.size)))).2.2.2.1.get (k:=i) (by rw [HLL.out];omega)
  subst hA
  have HCH:=Lib.hid ((HL0.out wi (H0W.out wi HBI.out)).2.2.2.2 ch (List.mem_of_getElem? hch))
  have HLC:=Lib.hid (fun (W:World) (hb:Below w9.heap.size w9 W)=>(show W.cell? (la.add (i * 3)) = some (.int .u8 ch.wh)∧W.cell? ⟨(la.add (i * 3)).block,(la.add (i * 3)).off + 1,none⟩ = some (.int .u8 ch.qa)∧W.cell? ⟨(la.add (i * 3)).block,(la.add (i * 3)).off + 2,none⟩ = some (.int .i8 ch.qb) from by
   obtain ⟨la2,c2,e1,_,e2,e3⟩:=(HL0.out W (H0W.out W hb)).2.2.2.1.get (k:=i) (by rw [HLL.out];omega)
   injection e1 with e1
   subst e1
   rw [hch] at e2
   injection e2 with e2
   subst e2
   exact ⟨e3 0 _ rfl,st_cells (j:=0) (e3 1 _ rfl),st_cells (j:=1) (e3 2 _ rfl)⟩))
  clear hch hcc hab hdr
  go_upto_region 9 with fail
  refine wp_region_U (fun V=>V.cell? (la.add (i * 3)) = some (.int .u8 ch.wh)∧V.cell? ⟨(la.add (i * 3)).block,(la.add (i * 3)).off + 1,none⟩ = some (.int .u8 ch.qa)∧V.cell? ⟨(la.add (i * 3)).block,(la.add (i * 3)).off + 2,none⟩ = some (.int .i8 ch.qb)) (fun V=>V.cell? ⟨bD,0,none⟩ = some (.slice D.k.A D.k.n D.k.c)∧V.cell? ⟨bD,1,none⟩ = some (.slice D.d.A D.d.n D.d.c)∧V.cell? ⟨bD,2,none⟩ = some (.slice D.R D.rn D.rc)) 5 (by kernel_rfl) ?_
  change anyU _ _ _ _ _ _ _ 7 _ _ _
  have HBX2:=Lib.hid (HBI.out.trans ((below_dr wi).mono HBI.out.size))
  have HKX2:=Lib.hid (HKD.out.below (below_dr wi) HKD.out.lt)
  have HDX2:=Lib.hid ((HDO.out.below (below_dr wi)).more (below_dr wi).size)
  generalize wi.drew = wd at HBX2 HKX2 HDX2 ⊢
  have hA0:=HLC.out wd HBX2.out
  have hB0:=Blk.c3 HKX2.out
  (refine uB 0 ?_ rfl hA0 hB0 (fun W hA hB=>?_) ?_;rotate_left;(· (obtain ⟨b0,b1,b2⟩:=hB;go_simp;try with_reducible rfl));(try simp only [Act.put,List.setIfInBounds_toArray,List.set_cons_zero,List.set_cons_succ]))
  (refine uA 1 ?_ rfl hA0 hB0 (fun W hA=>?_) ?_;rotate_left;(· (go_simp;try with_reducible rfl));refine uA 2 ?_ rfl hA0 hB0 (fun W hA=>?_) ?_;rotate_left;(· (go_simp;try with_reducible rfl));(try simp only [Act.put,List.setIfInBounds_toArray,List.set_cons_zero,List.set_cons_succ]))
  (refine uA 3 ?_ rfl hA0 hB0 (fun W hA=>?_) ?_;rotate_left;(· (go_simp;try with_reducible rfl));(try simp only [Act.put,List.setIfInBounds_toArray,List.set_cons_zero,List.set_cons_succ]))
  (refine uA 4 ?_ rfl hA0 hB0 (fun W hA=>?_) ?_;rotate_left;(· (obtain ⟨a0,a1,a2⟩:=hA;go_simp;try with_reducible rfl));(try simp only [Act.put,List.setIfInBounds_toArray,List.set_cons_zero,List.set_cons_succ]))
  refine uOne (i:=5) rfl (by kernel_rfl) (fun K hK=>?_)
  go_simp
  go_at_call 16
  have hspo:=law_spoilt D ch.wh ch.qa ch.qb wd HDX2.out HD1.out (by have:=HD2.out;omega) (by have:=HD3.out;omega) HCH.out.1 HCH.out.2.1 HCH.out.2.2
  rw [HCV.out D] at hspo
  refine hspo.mono ?_
  rintro e we ⟨D2,rfl,g1,g2,g3,g4,hbe⟩
  rw [HCV.out D2]
  have HBE:=Lib.hid (HBX2.out.trans (hbe.mono HBX2.out.size))
  have HKE:=Lib.hid (HKX2.out.below hbe HKX2.out.lt)
  have HG1:=Lib.hid g1
  have HG2:=Lib.hid g2
  have HG3:=Lib.hid g3
  have HG4:=Lib.hid g4
  clear hA0 hB0 hspo g1 g2 g3 g4 hbe
  have hA1:=HLC.out we HBE.out
  go_simp
  (refine hK _ _ ⟨hA1,fun h=>absurd (h.symm.trans (by kernel_rfl:_ = true)) Bool.false_ne_true⟩ ?_;clear hK K;(try simp only [Act.put,List.setIfInBounds_toArray,List.set_cons_zero,List.set_cons_succ]))
  refine uOne (i:=6) rfl (by kernel_rfl) (fun K hK=>?_)
  refine step_store rfl 38 (.tmp 7) (.tmp 34) (by rfl) bD 0 #[.slice D2.k.A D2.k.n D2.k.c,.slice D2.d.A D2.d.n D2.d.c,.slice D2.R D2.rn D2.rc] (by rfl) (by rfl) (HKE.out.there (o:=0) (n:=3) (by simp)) cert_size (by simp [Value.oneCell']) ?_
  have k1:=HKE.out.sets [.slice D2.k.A D2.k.n D2.k.c,.slice D2.d.A D2.d.n D2.d.c,.slice D2.R D2.rn D2.rc] (o:=0) (by simp)
  have h64:=keeps64_blk HKE.out (by intro v hv y e;subst e;simp at hv) k1.2
  have hbf:=HBE.out.grown k1.2 HBE.out.size (fun j e=>by injection e with e;rw [← e,← HBD.out];exact Nat.le_refl _)
  have HNEW:=Lib.hid (show Below w9.heap.size w9 (we.setCells bD 0 [.slice D2.k.A D2.k.n D2.k.c,.slice D2.d.A D2.d.n D2.d.c,.slice D2.R D2.rn D2.rc])∧∃ D:CV,Blk (we.setCells bD 0 [.slice D2.k.A D2.k.n D2.k.c,.slice D2.d.A D2.d.n D2.d.c,.slice D2.R D2.rn D2.rc]) bD 38 (cvc D)∧D.ok (we.setCells bD 0 [.slice D2.k.A D2.k.n D2.k.c,.slice D2.d.A D2.d.n D2.d.c,.slice D2.R D2.rn D2.rc]) (we.setCells bD 0 [.slice D2.k.A D2.k.n D2.k.c,.slice D2.d.A D2.d.n D2.d.c,.slice D2.R D2.rn D2.rc]).heap.size∧D.d.n = D.k.n∧D.k.n ≤ 6∧D.rn ≤ 6 + (i + 1) from ⟨hbf,D2,k1.1,HG1.out.k64 h64,HG2.out,Nat.le_trans HG3.out HD2.out,by have h1:=HG4.out;have h2:=HD3.out;omega⟩)
  have hA2:=HLC.out _ hbf
  clear k1 h64 hbf
  have hA3:(we.setCells bD 0 (#[.slice D2.k.A D2.k.n D2.k.c,.slice D2.d.A D2.d.n D2.d.c,.slice D2.R D2.rn D2.rc]:Array Value).toList).cell? (la.add (i * 3)) = some (.int .u8 ch.wh)∧(we.setCells bD 0 (#[.slice D2.k.A D2.k.n D2.k.c,.slice D2.d.A D2.d.n D2.d.c,.slice D2.R D2.rn D2.rc]:Array Value).toList).cell? ⟨(la.add (i * 3)).block,(la.add (i * 3)).off + 1,none⟩ = some (.int .u8 ch.qa)∧(we.setCells bD 0 (#[.slice D2.k.A D2.k.n D2.k.c,.slice D2.d.A D2.d.n D2.d.c,.slice D2.R D2.rn D2.rc]:Array Value).toList).cell? ⟨(la.add (i * 3)).block,(la.add (i * 3)).off + 2,none⟩ = some (.int .i8 ch.qb):=hA2
  refine hK _ _ ⟨hA3,fun h=>absurd (h.symm.trans (by kernel_rfl:_ = true)) Bool.false_ne_true⟩ ?_
  clear hK K
  refine anyU_done (by kernel_rfl) ?_ _
  clear hA1 hA2 hA3
  go_wp2
  go_roundw
  case rel=>exact ⟨i + 1,by go_num,by omega,HNEW⟩
  case measure=>simp [intOf];omega
end Go.Proofs.Ytdnmpndnpfklcaa

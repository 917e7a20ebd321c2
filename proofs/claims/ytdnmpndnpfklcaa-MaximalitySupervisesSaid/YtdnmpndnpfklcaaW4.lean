/- Walk: maximality.Supervisor. -/
import Derived.Test.YtdnmpndnpfklcaaXo
import Derived.Test.YtdnmpndnpfklcaaBi
import Derived.Test.YtdnmpndnpfklcaaI1

namespace Go.Proofs.Ytdnmpndnpfklcaa
open Go.RowKit Go Go.Maps
set_option maxRecDepth 100000 in
set_option maxHeartbeats 3200000 in
theorem max_Supervisor (z:PB) (c:CV) (w:World) (h:z.ok w w.heap.size) (hm:z.m.ok) (hc:c.ok w w.heap.size) (hrn:c.rn ≤ 1000000) (hf:FOk z.m.a.st c.ce) (hv:VOk z.m c.ce) :
  Calls Try.prog 19 #[.agg (pbc z).toArray,.agg (cvc c).toArray] w (RetAQ (rsA z.x.a c.k.l) w):=by
 have hst:0 ≤ z.x.a.st:=hm.wf.st0
 have hst1:z.x.a.st ≤ 4096:=hm.wf.st1
 obtain ⟨n,hn⟩:∃ n:Nat,z.x.a.st = (n:Int):=⟨z.x.a.st.toNat,by omega⟩
 have HC:=Lib.hid (fun (W:World) (h9:z.ok W W.heap.size) (h8:c.ok W W.heap.size)=>max_check z c W h9 hm h8 hrn)
 have HR:=Lib.hid (fun (W:World) (h9:z.ok W W.heap.size) (h8:c.ok W W.heap.size)=>reach_Restrict z.x n c.k.A c.k.c c.k.n c.k.l W h9.x hm.wf hn h8.k.la h8.k.ra h8.k.ac h8.k.cA hf.kinc (fun s hs=>by have:=hf.krng s hs;have e:z.m.a.st = z.x.a.st:=rfl;omega))
 have HV0:=Lib.hid (fun (v:Int) (h9:VerIs z.m c.ce v)=>VerIs.unique h9 (VerIs.of hf hv))
 have hb1:=box_below w (.cells (pbc z).toArray 34)
 have kx:=Blk.new w 34 (pbc z)
 obtain ⟨w1,hw1⟩:∃ w1,w1 = w.alloc (.cells (pbc z).toArray 34):=⟨_,rfl⟩
 rw [← hw1] at hb1 kx
 have hb2:=box_below w1 (.cells (cvc c).toArray 38)
 have kx2:=kx.below hb2 kx.lt
 have kc:=Blk.new w1 38 (cvc c)
 have hs1:w1.heap.size = w.heap.size + 1:=by rw [hw1];simp
 rw [hs1] at kc
 obtain ⟨w2,hw2⟩:∃ w2,w2 = w1.alloc (.cells (cvc c).toArray 38):=⟨_,rfl⟩
 rw [← hw2] at hb2 kx2 kc
 have hs2:w2.heap.size = w.heap.size + 1 + 1:=by rw [hw2];simp [hs1]
 have hb3:=box_below w2 (.cells #[.slice none 0 0,.int .i64 0,.slice none 0 0,.slice none 0 0] 32)
 have kx3:=kx2.below hb3 kx2.lt
 have kc3:=kc.below hb3 kc.lt
 have kr:=Blk.new w2 32 [.slice none 0 0,.int .i64 0,.slice none 0 0,.slice none 0 0]
 rw [hs2] at kr
 obtain ⟨w3,hw3⟩:∃ w3,w3 = w2.alloc (.cells #[.slice none 0 0,.int .i64 0,.slice none 0 0,.slice none 0 0] 32):=⟨_,rfl⟩
 have kr':Blk w3 (w.heap.size + 1 + 1) 32 [.slice none 0 0,.int .i64 0,.slice none 0 0,.slice none 0 0]:=by rw [hw3];exact kr
 rw [← hw3] at hb3 kx3 kc3
 have hb12:=hb1.trans ((hb2.trans (hb3.mono hb2.size)).mono hb1.size)
 have HZ:=Lib.hid (fun (W:World) (hb:Below w3.heap.size w3 W)=>(h.below (hb12.trans (hb.mono hb12.size))).more (hb12.trans (hb.mono hb12.size)).size)
 have HZC:=Lib.hid (fun (W:World) (hb:Below w3.heap.size w3 W)=>(hc.below (hb12.trans (hb.mono hb12.size))).more (hb12.trans (hb.mono hb12.size)).size)
 have HK:=Lib.hid (fun (W:World) (hb:Below w3.heap.size w3 W)=>kx3.below hb kx3.lt)
 have HKC:=Lib.hid (fun (W:World) (hb:Below w3.heap.size w3 W)=>kc3.below hb kc3.lt)
 have HKR:=Lib.hid (fun (W:World) (hb:Below w3.heap.size w3 W)=>kr'.below hb kr'.lt)
 have HB:=Lib.hid (fun (W:World) (hb:Below w3.heap.size w3 W)=>hb12.trans (hb.mono hb12.size))
 have HW3:=Lib.hid (show ((w.alloc (.cells (pbc z).toArray 34)).alloc (.cells (cvc c).toArray 38)).alloc (.cells #[.slice none 0 0,.int .i64 0,.slice none 0 0,.slice none 0 0] 32) = w3 by rw [hw3,hw2,hw1])
 clear hb1 hb2 hb3 hb12 kx kx2 kx3 kc kc3 kr kr' hw1 hw2 hw3 hs1 hs2 h hm hc hf hv hst hst1
 unfold pbc at HC HK HW3 ⊢
 unfold cvc at HC HKC HW3 ⊢
 rw [hn] at HC HR HK HW3 ⊢
 clear hn
 obtain ⟨⟨a0,a1,a2,a3,a4⟩,a5⟩:=Blk.c6 (HK.out w3 (Below.refl _ _))
 obtain ⟨c0,c1,c2⟩:=Blk.c3 (HKC.out w3 (Below.refl _ _))
 go_enter Try.func19,Try.ntmps19
 go_upto_region 1 with fail
 rw [HW3.out]
 go_wp2_with fail
 refine (HC.out w3 (HZ.out w3 (Below.refl _ _)) (HZC.out w3 (Below.refl _ _))).mono ?_
 rintro _ w4 ⟨v,rfl,hvi,hb4⟩
 obtain rfl:=HV0.out v hvi
 have HB4:=Lib.hid hb4
 clear a0 a1 a2 a3 a4 a5 c0 c1 c2 HC hb4 hvi HV0
 obtain ⟨⟨a0,a1,a2,a3,a4⟩,a5⟩:=Blk.c6 (HK.out w4 HB4.out)
 obtain ⟨c0,c1,c2⟩:=Blk.c3 (HKC.out w4 HB4.out)
 go_wp2_with fail
 refine (HR.out w4 (HZ.out w4 HB4.out) (HZC.out w4 HB4.out)).mono ?_
 rintro _ w5 ⟨⟨A9,na9,ca9,M9,nm9,cm9,E9,ne9,ce9,a9⟩,rfl,ho9,ha9,hb9⟩
 have HLT:=Lib.hid (show w.heap.size + 1 + 1 < w4.heap.size from by have:=(HKR.out w4 HB4.out).lt;omega)
 clear a0 a1 a2 a3 a4 a5 c0 c1 c2
 have HB5:=Lib.hid (HB4.out.trans (hb9.mono HB4.out.size))
 have kR9:=HKR.out w5 HB5.out
 have hB9:=HB.out w5 HB5.out
 have HO9:=Lib.hid ho9
 have HA9:=Lib.hid ha9
 obtain ⟨s9,hs9⟩:∃ s,a9.st = s:=⟨_,rfl⟩
 have HS9:=Lib.hid hs9
 unfold avc
 dsimp only
 rw [hs9]
 clear hb9 ho9 ha9 hs9
 have f0:=kR9.free 0
 have f1:=kR9.free 1
 have f2:=kR9.free 2
 have f3:=kR9.free 3
 have e0:=kR9.cell (j:=0) rfl
 have e1:=kR9.cell (j:=1) rfl
 have e2:=kR9.cell (j:=2) rfl
 have e3:=kR9.cell (j:=3) rfl
 have l9:=kR9.lt
 go_wp2
 have hb4:=(((kR9.set (j:=0) (by simp) (.slice A9 na9 ca9)).set (j:=1) (by simp) (.int .i64 s9)).set (j:=2) (by simp) (.slice M9 nm9 cm9)).set (j:=3) (by simp) (.slice E9 ne9 ce9)
 have z0:=hb4.cell (j:=0) rfl
 have z1:=hb4.cell (j:=1) rfl
 have z2:=hb4.cell (j:=2) rfl
 have z3:=hb4.cell (j:=3) rfl
 have hq:∀ k:Nat,w.heap.size ≤ (⟨w.heap.size + 1 + 1,k,none⟩:Addr).block:=fun k=>by show w.heap.size ≤ w.heap.size + 1 + 1;omega
 have F:=(((hB9.setCell (p:=⟨w.heap.size + 1 + 1,0,none⟩) (hq 0) (.slice A9 na9 ca9)).setCell (p:=⟨w.heap.size + 1 + 1,1,none⟩) (hq 1) (.int .i64 s9)).setCell (p:=⟨w.heap.size + 1 + 1,2,none⟩) (hq 2) (.slice M9 nm9 cm9)).setCell (p:=⟨w.heap.size + 1 + 1,3,none⟩) (hq 3) (.slice E9 ne9 ce9)
 refine bodyPost_ret (v:=.tuple #[.agg #[.slice A9 na9 ca9,.int .i64 s9,.slice M9 nm9 cm9,.slice E9 ne9 ce9],.int .i64 0]) (by simp [results,Try.results19,go_sem,z0,z1,z2,z3]) rfl ?_
 have hg:=(((grown_setCell w5 (w.heap.size + 1 + 1) 0 (.slice A9 na9 ca9)).trans (grown_setCell _ _ 1 (.int .i64 s9))).trans (grown_setCell _ _ 2 (.slice M9 nm9 cm9))).trans (grown_setCell _ _ 3 (.slice E9 ne9 ce9))
 exact ⟨⟨A9,na9,ca9,M9,nm9,cm9,E9,ne9,ce9,a9⟩,by unfold avc;dsimp only;rw [HS9.out],(HO9.out.low hg HLT.out).down (by have:=HLT.out;omega),HA9.out,F⟩
end Go.Proofs.Ytdnmpndnpfklcaa
/- Walk of maximality.Permits. -/
namespace Go.Proofs.Ytdnmpndnpfklcaa
open Go.RowKit Go Go.Maps
set_option maxRecDepth 100000 in
set_option maxHeartbeats 6400000 in
theorem max_Permits (z:PB) (c:CV) (y:AV) (w:World) (h:z.ok w w.heap.size) (hm:z.m.ok) (hc:c.ok w w.heap.size) (hrn:c.rn ≤ 1000000) (hf:FOk z.m.a.st c.ce) (hv:VOk z.m c.ce) (hy:y.ok w w.heap.size) (hwy:WF y.a) (hNN:vsN y.a (rsA z.x.a c.k.l) ≤ 900000) :
  Calls Try.prog 29 #[.agg (pbc z).toArray,.agg (cvc c).toArray,.agg (avc y).toArray] w (RetInc (incS y.a (rsA z.x.a c.k.l)) w):=by
 have HS:=Lib.hid (fun (W:World) (h9:z.ok W W.heap.size) (h8:c.ok W W.heap.size)=>max_Supervisor z c W h9 hm h8 hrn hf hv)
 have HWR:=Lib.hid (show WF (rsA z.x.a c.k.l) from rsA_wf hm.wf)
 have HWY:=Lib.hid hwy
 have HNN:=Lib.hid hNN
 have hb1:=box_below w (.cells (pbc z).toArray 34)
 have kx:=Blk.new w 34 (pbc z)
 obtain ⟨w1,hw1⟩:∃ w1,w1 = w.alloc (.cells (pbc z).toArray 34):=⟨_,rfl⟩
 rw [← hw1] at hb1 kx
 have hb2:=box_below w1 (.cells (cvc c).toArray 38)
 have kx2:=kx.below hb2 kx.lt
 have kc:=Blk.new w1 38 (cvc c)
 have hs1:w1.heap.size = w.heap.size + 1:=by rw [hw1];simp
 rw [hs1] at kc
 obtain ⟨w2,hw2⟩:∃ w2,w2 = w1.alloc (.cells (cvc c).toArray 38):=⟨_,rfl⟩
 rw [← hw2] at hb2 kx2 kc
 have hs2:w2.heap.size = w.heap.size + 1 + 1:=by rw [hw2];simp [hs1]
 have hb3:=box_below w2 (.cells (avc y).toArray 32)
 have kx3:=kx2.below hb3 kx2.lt
 have kc3:=kc.below hb3 kc.lt
 have ky:=Blk.new w2 32 (avc y)
 rw [hs2] at ky
 obtain ⟨w3,hw3⟩:∃ w3,w3 = w2.alloc (.cells (avc y).toArray 32):=⟨_,rfl⟩
 have ky':Blk w3 (w.heap.size + 1 + 1) 32 (avc y):=by rw [hw3];exact ky
 rw [← hw3] at hb3 kx3 kc3
 have hb12:=hb1.trans ((hb2.trans (hb3.mono hb2.size)).mono hb1.size)
 have HZ:=Lib.hid ((h.below hb12).more hb12.size)
 have HZC:=Lib.hid ((hc.below hb12).more hb12.size)
 have HY:=Lib.hid (fun (W:World) (hb:Below w3.heap.size w3 W)=>(hy.below (hb12.trans (hb.mono hb12.size))).more (hb12.trans (hb.mono hb12.size)).size)
 have HK:=Lib.hid kx3
 have HKC:=Lib.hid kc3
 have HKY:=Lib.hid (fun (W:World) (hb:Below w3.heap.size w3 W)=>ky'.below hb ky'.lt)
 have HB:=Lib.hid (fun (W:World) (hb:Below w3.heap.size w3 W)=>hb12.trans (hb.mono hb12.size))
 have HW3:=Lib.hid (show ((w.alloc (.cells (pbc z).toArray 34)).alloc (.cells (cvc c).toArray 38)).alloc (.cells (avc y).toArray 32) = w3 by rw [hw3,hw2,hw1])
 have hS1:=HS.out w3 HZ.out HZC.out
 clear hb1 hb2 hb3 hb12 kx kx2 kx3 kc kc3 ky ky' hw1 hw2 hw3 hs1 hs2 h hm hc hf hv hy hwy HS HZ HZC hNN
 have HS:=Lib.hid hS1
 clear hS1
 have HPB:=Lib.hid (show pbc z = [.slice z.x.A z.x.na z.x.ca,.int .i64 z.x.a.st,.slice z.x.M z.x.nm z.x.cm,.slice z.x.E z.x.ne z.x.ce,.slice z.u.A z.u.n z.u.c,.slice z.f.A z.f.n z.f.c] from rfl)
 have HCB:=Lib.hid (show cvc c = [.slice c.k.A c.k.n c.k.c,.slice c.d.A c.d.n c.d.c,.slice c.R c.rn c.rc] from rfl)
 have HYB:=Lib.hid (show avc y = [.slice y.A y.na y.ca,.int .i64 y.a.st,.slice y.M y.nm y.cm,.slice y.E y.ne y.ce] from rfl)
 rw [HPB.out] at HS HK HW3 ⊢
 rw [HCB.out] at HS HKC HW3 ⊢
 rw [HYB.out] at HKY HW3 ⊢
 obtain ⟨⟨a0,a1,a2,a3,a4⟩,a5⟩:=Blk.c6 HK.out
 obtain ⟨c0,c1,c2⟩:=Blk.c3 HKC.out
 go_enter Try.func29,Try.ntmps29
 go_upto_region 1 with fail
 rw [HW3.out]
 go_wp2_with fail
 refine HS.out.mono ?_
 rintro _ w5 ⟨r,rfl,hr,hra,hb5⟩
 have HRB:=Lib.hid (show avc r = [.slice r.A r.na r.ca,.int .i64 r.a.st,.slice r.M r.nm r.cm,.slice r.E r.ne r.ce] from rfl)
 rw [HRB.out]
 have HRA:=Lib.hid hra
 clear a0 a1 a2 a3 a4 a5 c0 c1 c2 HS hra HK HKC
 have hbx:=box_below w5 (.cells #[.slice r.A r.na r.ca,.int .i64 r.a.st,.slice r.M r.nm r.cm,.slice r.E r.ne r.ce] 32)
 have k6:=Blk.new w5 32 [.slice r.A r.na r.ca,.int .i64 r.a.st,.slice r.M r.nm r.cm,.slice r.E r.ne r.ce]
 have HR6:=Lib.hid ((AutR.below hr.ok hbx).more hbx.size)
 have HB6:=Lib.hid (hb5.trans (hbx.mono hb5.size))
 go_upto_region 2 with fail
 obtain ⟨b6,hb6⟩:∃ b,w5.heap.size = b:=⟨_,rfl⟩
 rw [hb6] at k6 ⊢
 clear hb6 hbx hr hb5
 generalize w5.alloc (.cells #[.slice r.A r.na r.ca,.int .i64 r.a.st,.slice r.M r.nm r.cm,.slice r.E r.ne r.ce] 32) = w6 at k6 HR6 HB6 ⊢
 have HI:=Lib.hid (lng_Included y r w6 (HY.out w6 HB6.out) HR6.out HWY.out (by rw [HRA.out];exact HWR.out) (by rw [HRA.out];exact HNN.out))
 rw [HYB.out,HRB.out,HRA.out] at HI
 obtain ⟨e0,e1,e2,e3⟩:=Blk.c4 (HKY.out w6 HB6.out)
 obtain ⟨f0,f1,f2,f3⟩:=Blk.c4 k6
 rw [HRA.out] at f1
 clear k6
 go_wp2_with fail
 refine HI.out.mono ?_
 rintro e w7 ⟨hr7,hb7⟩
 have HBZ:=Lib.hid (HB.out w7 (HB6.out.trans (hb7.mono HB6.out.size)))
 clear e0 e1 e2 e3 f0 f1 f2 f3 HI hb7
 rcases hr7 with ⟨hn,rfl⟩ | ⟨ws,A9,c9,hn,rfl,hw9,hc9,hd9⟩
 ·have HNN2:=Lib.hid hn
  clear hn
  go_wp2
  go_ret3
  exact ⟨.inl ⟨HNN2.out,rfl⟩,HBZ.out⟩
 ·have HNN2:=Lib.hid (And.intro hn (And.intro hw9 (And.intro hc9 hd9)))
  clear hn hw9 hc9 hd9
  go_wp2
  go_ret3
  exact ⟨.inr ⟨ws,A9,c9,HNN2.out.1,rfl,HNN2.out.2.1,HNN2.out.2.2.1,HNN2.out.2.2.2⟩,HBZ.out⟩
end Go.Proofs.Ytdnmpndnpfklcaa

/- Walk: maximality.Supervisor. -/
import Derived.Test.YtdnmpndnpfklcaaXo
import Derived.Test.YtdnmpndnpfklcaaBi
import Derived.Test.YtdnmpndnpfklcaaBn

namespace Go.Proofs.Ytdnmpndnpfklcaa
open Go.RowKit Go Go.Maps
set_option maxRecDepth 100000 in
set_option maxHeartbeats 3200000 in
theorem max_Supervisor (z:PB) (c:CV) (w:World) (h:z.ok w w.heap.size) (hm:z.m.ok) (hc:c.ok w w.heap.size) (hrn:c.rn ≤ 1000000) (hf:FOk z.m.a.st c.ce) (hv:VOk z.m c.ce) :
  Calls Try.prog 19 #[.agg (pbc z).toArray,.agg (cvc c).toArray] w (RetAQ (rsA z.x.a c.k.l) w):=by
 have hst:0 ≤ z.x.a.st:=hm.wf.st0
 have hst1:z.x.a.st ≤ 4096:=hm.wf.st1
 obtain ⟨n,hn⟩:∃ n:Nat,z.x.a.st = (n:Int):=⟨z.x.a.st.toNat,by omega⟩
 have HC:=Lib.hid (fun (W:World) (h9:z.ok W W.heap.size) (h8:c.ok W W.heap.size)=>max_check z c W h9 hm h8 hrn)
 have HR:=Lib.hid (fun (W:World) (h9:z.ok W W.heap.size) (h8:c.ok W W.heap.size)=>reach_Restrict z.x n c.k.A c.k.c c.k.n c.k.l W h9.x hm.wf hn h8.k.la h8.k.ra h8.k.ac h8.k.cA hf.kinc (fun s hs=>by have:=hf.krng s hs;have e:z.m.a.st = z.x.a.st:=rfl;omega))
 have HV0:=Lib.hid (fun (v:Int) (h9:VerIs z.m c.ce v)=>VerIs.unique h9 (VerIs.of hf hv))
 have hb1:=box_below w (.cells (pbc z).toArray 34)
 have kx:=Blk.new w 34 (pbc z)
 obtain ⟨w1,hw1⟩:∃ w1,w1 = w.alloc (.cells (pbc z).toArray 34):=⟨_,rfl⟩
 rw [← hw1] at hb1 kx
 have hb2:=box_below w1 (.cells (cvc c).toArray 38)
 have kx2:=kx.below hb2 kx.lt
 have kc:=Blk.new w1 38 (cvc c)
 have hs1:w1.heap.size = w.heap.size + 1:=by rw [hw1];simp
 rw [hs1] at kc
 obtain ⟨w2,hw2⟩:∃ w2,w2 = w1.alloc (.cells (cvc c).toArray 38):=⟨_,rfl⟩
 rw [← hw2] at hb2 kx2 kc
 have hs2:w2.heap.size = w.heap.size + 1 + 1:=by rw [hw2];simp [hs1]
 have hb3:=box_below w2 (.cells #[.slice none 0 0,.int .i64 0,.slice none 0 0,.slice none 0 0] 32)
 have kx3:=kx2.below hb3 kx2.lt
 have kc3:=kc.below hb3 kc.lt
 have kr:=Blk.new w2 32 [.slice none 0 0,.int .i64 0,.slice none 0 0,.slice none 0 0]
 rw [hs2] at kr
 obtain ⟨w3,hw3⟩:∃ w3,w3 = w2.alloc (.cells #[.slice none 0 0,.int .i64 0,.slice none 0 0,.slice none 0 0] 32):=⟨_,rfl⟩
 have kr':Blk w3 (w.heap.size + 1 + 1) 32 [.slice none 0 0,.int .i64 0,.slice none 0 0,.slice none 0 0]:=by rw [hw3];exact kr
 rw [← hw3] at hb3 kx3 kc3
 have hb12:=hb1.trans ((hb2.trans (hb3.mono hb2.size)).mono hb1.size)
 have HZ:=Lib.hid (fun (W:World) (hb:Below w3.heap.size w3 W)=>(h.below (hb12.trans (hb.mono hb12.size))).more (hb12.trans (hb.mono hb12.size)).size)
 have HZC:=Lib.hid (fun (W:World) (hb:Below w3.heap.size w3 W)=>(hc.below (hb12.trans (hb.mono hb12.size))).more (hb12.trans (hb.mono hb12.size)).size)
 have HK:=Lib.hid (fun (W:World) (hb:Below w3.heap.size w3 W)=>kx3.below hb kx3.lt)
 have HKC:=Lib.hid (fun (W:World) (hb:Below w3.heap.size w3 W)=>kc3.below hb kc3.lt)
 have HKR:=Lib.hid (fun (W:World) (hb:Below w3.heap.size w3 W)=>kr'.below hb kr'.lt)
 have HB:=Lib.hid (fun (W:World) (hb:Below w3.heap.size w3 W)=>hb12.trans (hb.mono hb12.size))
 have HW3:=Lib.hid (show ((w.alloc (.cells (pbc z).toArray 34)).alloc (.cells (cvc c).toArray 38)).alloc (.cells #[.slice none 0 0,.int .i64 0,.slice none 0 0,.slice none 0 0] 32) = w3 by rw [hw3,hw2,hw1])
 clear hb1 hb2 hb3 hb12 kx kx2 kx3 kc kc3 kr kr' hw1 hw2 hw3 hs1 hs2 h hm hc hf hv hst hst1
 unfold pbc at HC HK HW3 ⊢
 unfold cvc at HC HKC HW3 ⊢
 rw [hn] at HC HR HK HW3 ⊢
 clear hn
 obtain ⟨⟨a0,a1,a2,a3,a4⟩,a5⟩:=Blk.c6 (HK.out w3 (Below.refl _ _))
 obtain ⟨c0,c1,c2⟩:=Blk.c3 (HKC.out w3 (Below.refl _ _))
 go_enter Try.func19,Try.ntmps19
 go_upto_region 1 with fail
 rw [HW3.out]
 go_wp2_with fail
 refine (HC.out w3 (HZ.out w3 (Below.refl _ _)) (HZC.out w3 (Below.refl _ _))).mono ?_
 rintro _ w4 ⟨v,rfl,hvi,hb4⟩
 obtain rfl:=HV0.out v hvi
 have HB4:=Lib.hid hb4
 clear a0 a1 a2 a3 a4 a5 c0 c1 c2 HC hb4 hvi HV0
 obtain ⟨⟨a0,a1,a2,a3,a4⟩,a5⟩:=Blk.c6 (HK.out w4 HB4.out)
 obtain ⟨c0,c1,c2⟩:=Blk.c3 (HKC.out w4 HB4.out)
 go_wp2_with fail
 refine (HR.out w4 (HZ.out w4 HB4.out) (HZC.out w4 HB4.out)).mono ?_
 rintro _ w5 ⟨⟨A9,na9,ca9,M9,nm9,cm9,E9,ne9,ce9,a9⟩,rfl,ho9,ha9,hb9⟩
 have HLT:=Lib.hid (show w.heap.size + 1 + 1 < w4.heap.size from by have:=(HKR.out w4 HB4.out).lt;omega)
 clear a0 a1 a2 a3 a4 a5 c0 c1 c2
 have HB5:=Lib.hid (HB4.out.trans (hb9.mono HB4.out.size))
 have kR9:=HKR.out w5 HB5.out
 have hB9:=HB.out w5 HB5.out
 have HO9:=Lib.hid ho9
 have HA9:=Lib.hid ha9
 obtain ⟨s9,hs9⟩:∃ s,a9.st = s:=⟨_,rfl⟩
 have HS9:=Lib.hid hs9
 unfold avc
 dsimp only
 rw [hs9]
 clear hb9 ho9 ha9 hs9
 have f0:=kR9.free 0
 have f1:=kR9.free 1
 have f2:=kR9.free 2
 have f3:=kR9.free 3
 have e0:=kR9.cell (j:=0) rfl
 have e1:=kR9.cell (j:=1) rfl
 have e2:=kR9.cell (j:=2) rfl
 have e3:=kR9.cell (j:=3) rfl
 have l9:=kR9.lt
 go_wp2
 have hb4:=(((kR9.set (j:=0) (by simp) (.slice A9 na9 ca9)).set (j:=1) (by simp) (.int .i64 s9)).set (j:=2) (by simp) (.slice M9 nm9 cm9)).set (j:=3) (by simp) (.slice E9 ne9 ce9)
 have z0:=hb4.cell (j:=0) rfl
 have z1:=hb4.cell (j:=1) rfl
 have z2:=hb4.cell (j:=2) rfl
 have z3:=hb4.cell (j:=3) rfl
 have hq:∀ k:Nat,w.heap.size ≤ (⟨w.heap.size + 1 + 1,k,none⟩:Addr).block:=fun k=>by show w.heap.size ≤ w.heap.size + 1 + 1;omega
 have F:=(((hB9.setCell (p:=⟨w.heap.size + 1 + 1,0,none⟩) (hq 0) (.slice A9 na9 ca9)).setCell (p:=⟨w.heap.size + 1 + 1,1,none⟩) (hq 1) (.int .i64 s9)).setCell (p:=⟨w.heap.size + 1 + 1,2,none⟩) (hq 2) (.slice M9 nm9 cm9)).setCell (p:=⟨w.heap.size + 1 + 1,3,none⟩) (hq 3) (.slice E9 ne9 ce9)
 refine bodyPost_ret (v:=.tuple #[.agg #[.slice A9 na9 ca9,.int .i64 s9,.slice M9 nm9 cm9,.slice E9 ne9 ce9],.int .i64 0]) (by simp [results,Try.results19,go_sem,z0,z1,z2,z3]) rfl ?_
 have hg:=(((grown_setCell w5 (w.heap.size + 1 + 1) 0 (.slice A9 na9 ca9)).trans (grown_setCell _ _ 1 (.int .i64 s9))).trans (grown_setCell _ _ 2 (.slice M9 nm9 cm9))).trans (grown_setCell _ _ 3 (.slice E9 ne9 ce9))
 exact ⟨⟨A9,na9,ca9,M9,nm9,cm9,E9,ne9,ce9,a9⟩,by unfold avc;dsimp only;rw [HS9.out],(HO9.out.low hg HLT.out).down (by have:=HLT.out;omega),HA9.out,F⟩
end Go.Proofs.Ytdnmpndnpfklcaa
/- The law's equal. -/
namespace Go.Proofs.Ytdnmpndnpfklcaa
open Go.RowKit Go Go.Maps
end Go.Proofs.Ytdnmpndnpfklcaa

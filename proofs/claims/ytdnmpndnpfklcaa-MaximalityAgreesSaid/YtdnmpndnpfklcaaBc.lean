/- The law's round. -/
import Derived.Test.YtdnmpndnpfklcaaXz
import Derived.Test.YtdnmpndnpfklcaaXe
import Derived.Deep.Cut
import Derived.Deep.CutRange
import Derived.Test.YtdnmpndnpfklcaaIf
import Derived.Test.YtdnmpndnpfklcaaXo
import Derived.Test.YtdnmpndnpfklcaaBi
import Derived.Test.YtdnmpndnpfklcaaX1

namespace Go.Proofs.Ytdnmpndnpfklcaa
open Go.RowKit Go Go.Maps
end Go.Proofs.Ytdnmpndnpfklcaa
/- Plain: the law's rounds are Prove's (chapter 28). -/
namespace Go.Proofs.Ytdnmpndnpfklcaa
open Go
section
variable {p:Mx} {N:List Bool} {n:Nat} {l:List Int} {R:List Rm} {rk:Int}
theorem hasB_onF {s:Int} (h0:0 ≤ s) (h1:s < (N.length:Int)):hasB (onF N) s = fl N s:=by
 rw [Bool.eq_iff_iff,hasB_mem,onF_mem]
 exact ⟨fun h=>h.2,fun h=>⟨⟨h0,h1⟩,h⟩⟩
end
end Go.Proofs.Ytdnmpndnpfklcaa

/- Walk: maximality.Supervisor. -/
namespace Go.Proofs.Ytdnmpndnpfklcaa
open Go.RowKit Go Go.Maps
set_option maxRecDepth 100000 in
set_option maxHeartbeats 3200000 in
theorem max_Supervisor (z:PB) (c:CV) (w:World) (h:z.ok w w.heap.size) (hm:z.m.ok) (hc:c.ok w w.heap.size) (hrn:c.rn ≤ 1000000) (hf:FOk z.m.a.st c.ce) (hv:VOk z.m c.ce) :
  Calls Try.prog 19 #[.agg (pbc z).toArray,.agg (cvc c).toArray] w (RetAQ (rsA z.x.a c.k.l) w):=by
 have hst:0 ≤ z.x.a.st:=hm.wf.st0
 have hst1:z.x.a.st ≤ 4096:=hm.wf.st1
 obtain ⟨n,hn⟩:∃ n:Nat,z.x.a.st = (n:Int):=⟨z.x.a.st.toNat,by omega⟩
 have HC:=Lib.hid (fun (W:World) (h9:z.ok W W.heap.size) (h8:c.ok W W.heap.size)=>max_check z c W h9 hm h8 hrn)
 have HR:=Lib.hid (fun (W:World) (h9:z.ok W W.heap.size) (h8:c.ok W W.heap.size)=>reach_Restrict z.x n c.k.A c.k.c c.k.n c.k.l W h9.x hm.wf hn h8.k.la h8.k.ra h8.k.ac h8.k.cA hf.kinc (fun s hs=>by have:=hf.krng s hs;have e:z.m.a.st = z.x.a.st:=rfl;omega))
 have HV0:=Lib.hid (fun (v:Int) (h9:VerIs z.m c.ce v)=>VerIs.unique h9 (VerIs.of hf hv))
 have hb1:=box_below w (.cells (pbc z).toArray 34)
 have kx:=Blk.new w 34 (pbc z)
 obtain ⟨w1,hw1⟩:∃ w1,w1 = w.alloc (.cells (pbc z).toArray 34):=⟨_,rfl⟩
 rw [← hw1] at hb1 kx
 have hb2:=box_below w1 (.cells (cvc c).toArray 38)
 have kx2:=kx.below hb2 kx.lt
 have kc:=Blk.new w1 38 (cvc c)
 have hs1:w1.heap.size = w.heap.size + 1:=by rw [hw1];simp
 rw [hs1] at kc
 obtain ⟨w2,hw2⟩:∃ w2,w2 = w1.alloc (.cells (cvc c).toArray 38):=⟨_,rfl⟩
 rw [← hw2] at hb2 kx2 kc
 have hs2:w2.heap.size = w.heap.size + 1 + 1:=by rw [hw2];simp [hs1]
 have hb3:=box_below w2 (.cells #[.slice none 0 0,.int .i64 0,.slice none 0 0,.slice none 0 0] 32)
 have kx3:=kx2.below hb3 kx2.lt
 have kc3:=kc.below hb3 kc.lt
 have kr:=Blk.new w2 32 [.slice none 0 0,.int .i64 0,.slice none 0 0,.slice none 0 0]
 rw [hs2] at kr
 obtain ⟨w3,hw3⟩:∃ w3,w3 = w2.alloc (.cells #[.slice none 0 0,.int .i64 0,.slice none 0 0,.slice none 0 0] 32):=⟨_,rfl⟩
 have kr':Blk w3 (w.heap.size + 1 + 1) 32 [.slice none 0 0,.int .i64 0,.slice none 0 0,.slice none 0 0]:=by rw [hw3];exact kr
 rw [← hw3] at hb3 kx3 kc3
 have hb12:=hb1.trans ((hb2.trans (hb3.mono hb2.size)).mono hb1.size)
 have HZ:=Lib.hid (fun (W:World) (hb:Below w3.heap.size w3 W)=>(h.below (hb12.trans (hb.mono hb12.size))).more (hb12.trans (hb.mono hb12.size)).size)
 have HZC:=Lib.hid (fun (W:World) (hb:Below w3.heap.size w3 W)=>(hc.below (hb12.trans (hb.mono hb12.size))).more (hb12.trans (hb.mono hb12.size)).size)
 have HK:=Lib.hid (fun (W:World) (hb:Below w3.heap.size w3 W)=>kx3.below hb kx3.lt)
 have HKC:=Lib.hid (fun (W:World) (hb:Below w3.heap.size w3 W)=>kc3.below hb kc3.lt)
 have HKR:=Lib.hid (fun (W:World) (hb:Below w3.heap.size w3 W)=>kr'.below hb kr'.lt)
 have HB:=Lib.hid (fun (W:World) (hb:Below w3.heap.size w3 W)=>hb12.trans (hb.mono hb12.size))
 have HW3:=Lib.hid (show ((w.alloc (.cells (pbc z).toArray 34)).alloc (.cells (cvc c).toArray 38)).alloc (.cells #[.slice none 0 0,.int .i64 0,.slice none 0 0,.slice none 0 0] 32) = w3 by rw [hw3,hw2,hw1])
 clear hb1 hb2 hb3 hb12 kx kx2 kx3 kc kc3 kr kr' hw1 hw2 hw3 hs1 hs2 h hm hc hf hv hst hst1
 unfold pbc at HC HK HW3 ⊢
 unfold cvc at HC HKC HW3 ⊢
 rw [hn] at HC HR HK HW3 ⊢
 clear hn
 obtain ⟨⟨a0,a1,a2,a3,a4⟩,a5⟩:=Blk.c6 (HK.out w3 (Below.refl _ _))
 obtain ⟨c0,c1,c2⟩:=Blk.c3 (HKC.out w3 (Below.refl _ _))
 go_enter Try.func19,Try.ntmps19
 go_upto_region 1 with fail
 rw [HW3.out]
 go_wp2_with fail
 refine (HC.out w3 (HZ.out w3 (Below.refl _ _)) (HZC.out w3 (Below.refl _ _))).mono ?_
 rintro _ w4 ⟨v,rfl,hvi,hb4⟩
 obtain rfl:=HV0.out v hvi
 have HB4:=Lib.hid hb4
 clear a0 a1 a2 a3 a4 a5 c0 c1 c2 HC hb4 hvi HV0
 obtain ⟨⟨a0,a1,a2,a3,a4⟩,a5⟩:=Blk.c6 (HK.out w4 HB4.out)
 obtain ⟨c0,c1,c2⟩:=Blk.c3 (HKC.out w4 HB4.out)
 go_wp2_with fail
 refine (HR.out w4 (HZ.out w4 HB4.out) (HZC.out w4 HB4.out)).mono ?_
 rintro _ w5 ⟨⟨A9,na9,ca9,M9,nm9,cm9,E9,ne9,ce9,a9⟩,rfl,ho9,ha9,hb9⟩
 have HLT:=Lib.hid (show w.heap.size + 1 + 1 < w4.heap.size from by have:=(HKR.out w4 HB4.out).lt;omega)
 clear a0 a1 a2 a3 a4 a5 c0 c1 c2
 have HB5:=Lib.hid (HB4.out.trans (hb9.mono HB4.out.size))
 have kR9:=HKR.out w5 HB5.out
 have hB9:=HB.out w5 HB5.out
 have HO9:=Lib.hid ho9
 have HA9:=Lib.hid ha9
 obtain ⟨s9,hs9⟩:∃ s,a9.st = s:=⟨_,rfl⟩
 have HS9:=Lib.hid hs9
 unfold avc
 dsimp only
 rw [hs9]
 clear hb9 ho9 ha9 hs9
 have f0:=kR9.free 0
 have f1:=kR9.free 1
 have f2:=kR9.free 2
 have f3:=kR9.free 3
 have e0:=kR9.cell (j:=0) rfl
 have e1:=kR9.cell (j:=1) rfl
 have e2:=kR9.cell (j:=2) rfl
 have e3:=kR9.cell (j:=3) rfl
 have l9:=kR9.lt
 go_wp2
 have hb4:=(((kR9.set (j:=0) (by simp) (.slice A9 na9 ca9)).set (j:=1) (by simp) (.int .i64 s9)).set (j:=2) (by simp) (.slice M9 nm9 cm9)).set (j:=3) (by simp) (.slice E9 ne9 ce9)
 have z0:=hb4.cell (j:=0) rfl
 have z1:=hb4.cell (j:=1) rfl
 have z2:=hb4.cell (j:=2) rfl
 have z3:=hb4.cell (j:=3) rfl
 have hq:∀ k:Nat,w.heap.size ≤ (⟨w.heap.size + 1 + 1,k,none⟩:Addr).block:=fun k=>by show w.heap.size ≤ w.heap.size + 1 + 1;omega
 have F:=(((hB9.setCell (p:=⟨w.heap.size + 1 + 1,0,none⟩) (hq 0) (.slice A9 na9 ca9)).setCell (p:=⟨w.heap.size + 1 + 1,1,none⟩) (hq 1) (.int .i64 s9)).setCell (p:=⟨w.heap.size + 1 + 1,2,none⟩) (hq 2) (.slice M9 nm9 cm9)).setCell (p:=⟨w.heap.size + 1 + 1,3,none⟩) (hq 3) (.slice E9 ne9 ce9)
 refine bodyPost_ret (v:=.tuple #[.agg #[.slice A9 na9 ca9,.int .i64 s9,.slice M9 nm9 cm9,.slice E9 ne9 ce9],.int .i64 0]) (by simp [results,Try.results19,go_sem,z0,z1,z2,z3]) rfl ?_
 have hg:=(((grown_setCell w5 (w.heap.size + 1 + 1) 0 (.slice A9 na9 ca9)).trans (grown_setCell _ _ 1 (.int .i64 s9))).trans (grown_setCell _ _ 2 (.slice M9 nm9 cm9))).trans (grown_setCell _ _ 3 (.slice E9 ne9 ce9))
 exact ⟨⟨A9,na9,ca9,M9,nm9,cm9,E9,ne9,ce9,a9⟩,by unfold avc;dsimp only;rw [HS9.out],(HO9.out.low hg HLT.out).down (by have:=HLT.out;omega),HA9.out,F⟩
end Go.Proofs.Ytdnmpndnpfklcaa

/- The law's equal. -/
namespace Go.Proofs.Ytdnmpndnpfklcaa
open Go.RowKit Go Go.Maps
def RetEq (c d:Ce) (w:World) (e:Ending) (w':World):Prop:=∃ q:Bool,e = .returned (.bool q)∧(q = true ↔ c = d)∧Below w.heap.size w w'
theorem rm_take_eq {l m:List Rm} {k:Nat} {x:Rm} (hl:l[k]? = some x) (hm:m[k]? = some x) (h:l.take k = m.take k):l.take (k + 1) = m.take (k + 1):=by
 rw [take_snoc' hl,take_snoc' hm,h]
set_option maxRecDepth 100000 in
set_option maxHeartbeats 3200000 in
theorem law_equal (c d:CV) (w:World) (hc:c.ok w w.heap.size) (hd:d.ok w w.heap.size) :
  Calls Try.prog 13 #[.agg (cvc c).toArray,.agg (cvc d).toArray] w (RetEq c.ce d.ce w):=by
 have hb1:=box_below w (.cells (cvc c).toArray 38)
 have kx:=Blk.new w 38 (cvc c)
 obtain ⟨w1,hw1⟩:∃ w1,w1 = w.alloc (.cells (cvc c).toArray 38):=⟨_,rfl⟩
 rw [← hw1] at hb1 kx
 have hb2:=box_below w1 (.cells (cvc d).toArray 38)
 have kx2:=kx.below hb2 kx.lt
 have kd:=Blk.new w1 38 (cvc d)
 have hs1:w1.heap.size = w.heap.size + 1:=by rw [hw1];simp
 rw [hs1] at kd
 obtain ⟨w2,hw2⟩:∃ w2,w2 = w1.alloc (.cells (cvc d).toArray 38):=⟨_,rfl⟩
 rw [← hw2] at hb2 kx2 kd
 have hb12:=hb1.trans (hb2.mono hb1.size)
 have HC:=Lib.hid (fun (W:World) (hb:Below w2.heap.size w2 W)=>(hc.below (hb12.trans (hb.mono hb12.size))).more (hb12.trans (hb.mono hb12.size)).size)
 have HD:=Lib.hid (fun (W:World) (hb:Below w2.heap.size w2 W)=>(hd.below (hb12.trans (hb.mono hb12.size))).more (hb12.trans (hb.mono hb12.size)).size)
 have HKC:=Lib.hid (fun (W:World) (hb:Below w2.heap.size w2 W)=>kx2.below hb kx2.lt)
 have HKD:=Lib.hid (fun (W:World) (hb:Below w2.heap.size w2 W)=>kd.below hb kd.lt)
 have HB:=Lib.hid (fun (W:World) (hb:Below w2.heap.size w2 W)=>hb12.trans (hb.mono hb12.size))
 have HW2:=Lib.hid (show (w.alloc (.cells (cvc c).toArray 38)).alloc (.cells (cvc d).toArray 38) = w2 by rw [hw2,hw1])
 have HCL:=Lib.hid hc.rl
 have HDL:=Lib.hid hd.rl
 have hcc:=hc.r1
 have hcc2:=hc.r2
 have hdc:=hd.r1
 have hdc2:=hd.r2
 obtain ⟨q1,hq1⟩:∃ q,eqB c.k.l d.k.l = q:=⟨_,rfl⟩
 obtain ⟨q2,hq2⟩:∃ q,eqB c.d.l d.d.l = q:=⟨_,rfl⟩
 have HS1:=Lib.hid (fun (W:World) (hb:Below w2.heap.size w2 W)=>law_same_n c.k.A d.k.A c.k.c d.k.c c.k.n d.k.n c.k.l d.k.l q1 W (HC.out W hb).k.la (HD.out W hb).k.la hq1 (HC.out W hb).k.ra (HC.out W hb).k.ac (HC.out W hb).k.cA (HD.out W hb).k.ra)
 have HS2:=Lib.hid (fun (W:World) (hb:Below w2.heap.size w2 W)=>law_same_n c.d.A d.d.A c.d.c d.d.c c.d.n d.d.n c.d.l d.d.l q2 W (HC.out W hb).d.la (HD.out W hb).d.la hq2 (HC.out W hb).d.ra (HC.out W hb).d.ac (HC.out W hb).d.cA (HD.out W hb).d.ra)
 have HQ1:=Lib.hid (show q1 = true ↔ c.k.l = d.k.l by rw [← hq1];unfold eqB;exact decide_eq_true_iff)
 have HQ2:=Lib.hid (show q2 = true ↔ c.d.l = d.d.l by rw [← hq2];unfold eqB;exact decide_eq_true_iff)
 have HEQ:=Lib.hid (show c.ce = d.ce ↔ c.k.l = d.k.l∧c.d.l = d.d.l∧c.rm = d.rm from Ce.eq_iff)
 obtain ⟨XC,hXC⟩:∃ q,c.ce = q:=⟨_,rfl⟩
 obtain ⟨XD,hXD⟩:∃ q,d.ce = q:=⟨_,rfl⟩
 rw [hXC,hXD] at HEQ ⊢
 clear hb1 kx hw1 hb2 kx2 kd hw2 hs1 hb12 hc hd hq1 hq2 hXC hXD
 unfold cvc at HKC HKD HW2 ⊢
 obtain ⟨c0,c1,c2⟩:=Blk.c3 (HKC.out w2 (Below.refl _ _))
 obtain ⟨d0,d1,d2⟩:=Blk.c3 (HKD.out w2 (Below.refl _ _))
 go_enter Try.func13,Try.ntmps13
 go_upto_region 1 with fail
 rw [HW2.out]
 go_wp2_with fail
 refine (HS1.out w2 (Below.refl _ _)).mono ?_
 rintro e w3 ⟨rfl,hb3⟩
 have HB3:=Lib.hid hb3
 clear hb3 c0 c1 c2 d0 d1 d2
 obtain ⟨c0,c1,c2⟩:=Blk.c3 (HKC.out w3 HB3.out)
 obtain ⟨d0,d1,d2⟩:=Blk.c3 (HKD.out w3 HB3.out)
 cases q1 with
 | false =>
  go_wp2
  go_ret
  exact ⟨false,rfl,⟨(fun h=>by cases h),fun h=>HQ1.out.2 (HEQ.out.1 h).1⟩,HB.out _ HB3.out⟩
 | true =>
 go_wp2_with fail
 refine (HS2.out w3 HB3.out).mono ?_
 rintro e w4 ⟨rfl,hb4⟩
 have HB4:=Lib.hid (HB3.out.trans (hb4.mono HB3.out.size))
 clear hb4 c0 c1 c2 d0 d1 d2
 obtain ⟨c0,c1,c2⟩:=Blk.c3 (HKC.out w4 HB4.out)
 obtain ⟨d0,d1,d2⟩:=Blk.c3 (HKD.out w4 HB4.out)
 cases q2 with
 | false =>
  go_wp2
  go_ret
  exact ⟨false,rfl,⟨(fun h=>by cases h),fun h=>HQ2.out.2 (HEQ.out.1 h).2.1⟩,HB.out _ HB4.out⟩
 | true =>
 by_cases hl:c.rn = d.rn
 case neg =>
  have hl':((c.rn:Int) != (d.rn:Int)) = true:=by rw [bne_iff_ne];omega
  have HLL:=Lib.hid hl
  clear hl
  go_wp2
  go_ret
  refine ⟨false,rfl,⟨(fun h=>by cases h),fun h=>?_⟩,HB.out _ HB4.out⟩
  have h1:=(HEQ.out.1 h).2.2
  have h2:=HCL.out
  rw [h1,HDL.out] at h2
  exact absurd h2.symm HLL.out
 have hl':((c.rn:Int) != (d.rn:Int)) = false:=by rw [bne_eq_false_iff_eq];omega
 have HH0:=Lib.hid (show c.rm.take 0 = d.rm.take 0 from rfl)
 go_wp2
 clear c0 c1 c2 d0 d1 d2
 go_loopw [5] (fun s5 wr=>∃ k:Nat,s5 = .int .i64 k∧k ≤ c.rn∧Hid (c.rm.take k = d.rm.take k)∧Hid (Below w2.heap.size w2 wr)) (fun s5 _=>c.rn - (intOf s5).toNat)
 case atStart=>exact ⟨0,rfl,Nat.zero_le _,HH0,HB4⟩
 case round =>
  clear HH0
  obtain ⟨k,rfl,hk,HTK,HBL⟩:=hrel
  obtain ⟨c0,c1,c2⟩:=Blk.c3 (HKC.out wr HBL.out)
  obtain ⟨d0,d1,d2⟩:=Blk.c3 (HKD.out wr HBL.out)
  by_cases hlt:k < c.rn
  case neg =>
   have b1:¬ (k:Int) < (c.rn:Int):=by omega
   have HRM:=Lib.hid (show c.rm = d.rm from by
    have h1:=HTK.out
    rw [List.take_of_length_le (by rw [HCL.out];omega),List.take_of_length_le (by rw [HDL.out];omega)] at h1
    exact h1)
   go_wp2
   go_ret
   exact ⟨true,rfl,⟨fun _=>HEQ.out.2 ⟨HQ1.out.1 trivial,HQ2.out.1 trivial,HRM.out⟩,fun _=>rfl⟩,HB.out _ HBL.out⟩
  have b1:(k:Int) < (c.rn:Int):=by omega
  have b2:(k:Int) < (d.rn:Int):=by omega
  obtain ⟨ad,r,hA,hr,g0,g1,g2,g3⟩:=rm_reads (HC.out wr HBL.out).rr (j:=k) (by rw [HCL.out];exact hlt)
  obtain ⟨bd,t,hB,ht,f0,f1,f2,f3⟩:=rm_reads (HD.out wr HBL.out).rr (j:=k) (by rw [HDL.out];omega)
  rw [hA] at c2
  rw [hB] at d2
  have HRI:=Lib.hid hr
  have HTI:=Lib.hid ht
  clear hr ht
  go_upto_region 6 with fail
  clear c0 c1 d0 d1
  have hA0:(wr.drew.cell? ⟨w.heap.size,2,none⟩ = some (.slice (some ad) c.rn c.rc)∧wr.drew.cell? ⟨w.heap.size + 1,2,none⟩ = some (.slice (some bd) d.rn d.rc))∧(wr.drew.cell? (ad.add (k * 4)) = some (.int .i64 r.s)∧wr.drew.cell? ⟨(ad.add (k * 4)).block,(ad.add (k * 4)).off + 1,none⟩ = some (.int .i64 r.k)∧wr.drew.cell? ⟨(ad.add (k * 4)).block,(ad.add (k * 4)).off + 2,none⟩ = some (.int .i64 r.r)∧wr.drew.cell? ⟨(ad.add (k * 4)).block,(ad.add (k * 4)).off + 3,none⟩ = some (.int .i64 r.e))∧(wr.drew.cell? (bd.add (k * 4)) = some (.int .i64 t.s)∧wr.drew.cell? ⟨(bd.add (k * 4)).block,(bd.add (k * 4)).off + 1,none⟩ = some (.int .i64 t.k)∧wr.drew.cell? ⟨(bd.add (k * 4)).block,(bd.add (k * 4)).off + 2,none⟩ = some (.int .i64 t.r)∧wr.drew.cell? ⟨(bd.add (k * 4)).block,(bd.add (k * 4)).off + 3,none⟩ = some (.int .i64 t.e)):=⟨⟨c2,d2⟩,⟨g0,g1,g2,g3⟩,f0,f1,f2,f3⟩
  refine wp_region_U (fun V=>(V.cell? ⟨w.heap.size,2,none⟩ = some (.slice (some ad) c.rn c.rc)∧V.cell? ⟨w.heap.size + 1,2,none⟩ = some (.slice (some bd) d.rn d.rc))∧(V.cell? (ad.add (k * 4)) = some (.int .i64 r.s)∧V.cell? ⟨(ad.add (k * 4)).block,(ad.add (k * 4)).off + 1,none⟩ = some (.int .i64 r.k)∧V.cell? ⟨(ad.add (k * 4)).block,(ad.add (k * 4)).off + 2,none⟩ = some (.int .i64 r.r)∧V.cell? ⟨(ad.add (k * 4)).block,(ad.add (k * 4)).off + 3,none⟩ = some (.int .i64 r.e))∧(V.cell? (bd.add (k * 4)) = some (.int .i64 t.s)∧V.cell? ⟨(bd.add (k * 4)).block,(bd.add (k * 4)).off + 1,none⟩ = some (.int .i64 t.k)∧V.cell? ⟨(bd.add (k * 4)).block,(bd.add (k * 4)).off + 2,none⟩ = some (.int .i64 t.r)∧V.cell? ⟨(bd.add (k * 4)).block,(bd.add (k * 4)).off + 3,none⟩ = some (.int .i64 t.e))) (fun _=>True) 99 (by kernel_rfl) ?_
  change anyU _ _ _ _ _ _ _ 11 _ _ _
  have HD6:=Lib.hid (HBL.out.trans ((below_dr wr).mono HBL.out.size))
  have hB0:True:=trivial
  clear c2 d2 g0 g1 g2 g3 f0 f1 f2 f3
  generalize wr.drew = w6 at hA0 HD6 ⊢
  (refine uA 0 ?_ rfl hA0 hB0 (fun W hA=>?_) ?_;rotate_left;(· (go_simp;try with_reducible rfl));(try simp only [Act.put,List.setIfInBounds_toArray,List.set_cons_zero,List.set_cons_succ]))
  (refine uA 1 ?_ rfl hA0 hB0 (fun W hA=>?_) ?_;rotate_left;(· (obtain ⟨⟨a0,a1⟩,_⟩:=hA;go_simp;try with_reducible rfl));(try simp only [Act.put,List.setIfInBounds_toArray,List.set_cons_zero,List.set_cons_succ]))
  (refine uA 2 ?_ rfl hA0 hB0 (fun W hA=>?_) ?_;rotate_left;(· (go_simp;try with_reducible rfl));refine uA 3 ?_ rfl hA0 hB0 (fun W hA=>?_) ?_;rotate_left;(· (go_simp;try with_reducible rfl));(try simp only [Act.put,List.setIfInBounds_toArray,List.set_cons_zero,List.set_cons_succ]))
  (refine uA 4 ?_ rfl hA0 hB0 (fun W hA=>?_) ?_;rotate_left;(· (obtain ⟨_,⟨a0,a1,a2,a3⟩,_⟩:=hA;go_simp;try with_reducible rfl));(try simp only [Act.put,List.setIfInBounds_toArray,List.set_cons_zero,List.set_cons_succ]))
  (refine uA 5 ?_ rfl hA0 hB0 (fun W hA=>?_) ?_;rotate_left;(· (go_simp;try with_reducible rfl));(try simp only [Act.put,List.setIfInBounds_toArray,List.set_cons_zero,List.set_cons_succ]))
  (refine uA 6 ?_ rfl hA0 hB0 (fun W hA=>?_) ?_;rotate_left;(· (obtain ⟨⟨a0,a1⟩,_⟩:=hA;go_simp;try with_reducible rfl));(try simp only [Act.put,List.setIfInBounds_toArray,List.set_cons_zero,List.set_cons_succ]))
  (refine uA 7 ?_ rfl hA0 hB0 (fun W hA=>?_) ?_;rotate_left;(· (go_simp;try with_reducible rfl));refine uA 8 ?_ rfl hA0 hB0 (fun W hA=>?_) ?_;rotate_left;(· (go_simp;try with_reducible rfl));(try simp only [Act.put,List.setIfInBounds_toArray,List.set_cons_zero,List.set_cons_succ]))
  (refine uA 9 ?_ rfl hA0 hB0 (fun W hA=>?_) ?_;rotate_left;(· (obtain ⟨_,_,a0,a1,a2,a3⟩:=hA;go_simp;try with_reducible rfl));(try simp only [Act.put,List.setIfInBounds_toArray,List.set_cons_zero,List.set_cons_succ]))
  by_cases hrt:r = t
  ·have HT9:=Lib.hid (rm_take_eq HRI.out (by rw [HTI.out,hrt]) HTK.out)
   subst hrt
   refine uA 10 (.bool false) rfl hA0 hB0 (fun W hA=>?_) ?_
   ·go_simp
   simp only [Act.put,List.setIfInBounds_toArray,List.set_cons_zero,List.set_cons_succ]
   refine anyU_done (by kernel_rfl) ?_ _
   clear hA0 hB0
   go_wp2
   go_roundw
   case rel=>exact ⟨k + 1,by go_num,by omega,HT9,HD6⟩
   case measure=>simp [intOf];omega
  ·have HNE:=Lib.hid (show c.rm ≠ d.rm from fun h=>hrt (by
    have h1:=HRI.out
    rw [h,HTI.out] at h1
    exact (Option.some.inj h1).symm))
   refine uA 10 (.bool true) rfl hA0 hB0 (fun W hA=>?_) ?_
   ·go_simp
    intro h1 h2 h3 h4
    exact hrt (by cases r;cases t;simp_all)
   simp only [Act.put,List.setIfInBounds_toArray,List.set_cons_zero,List.set_cons_succ]
   refine anyU_done (by kernel_rfl) ?_ _
   clear hA0 hB0 hrt
   go_wp2
   go_ret
   exact ⟨false,rfl,⟨(fun h=>by cases h),fun h=>absurd (HEQ.out.1 h).2.2 HNE.out⟩,HB.out _ HD6.out⟩
end Go.Proofs.Ytdnmpndnpfklcaa

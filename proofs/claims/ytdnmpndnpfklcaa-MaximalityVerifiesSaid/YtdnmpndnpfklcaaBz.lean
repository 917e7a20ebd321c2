/- The law's verify. -/
import Derived.Test.YtdnmpndnpfklcaaBy
import Derived.Test.YtdnmpndnpfklcaaXm
namespace Go.Proofs.Ytdnmpndnpfklcaa
open Go.RowKit Go Go.Maps
theorem VerIs.err {p:Mx} {c:Ce} {v:Int} (h:frmE p.a.st c = v) (hv:v ≠ 0):VerIs p c v:=.inl ⟨by rw [h];exact hv,h.symm⟩
def PaOk (c:Ce) (s:Int):Prop:=s ∈ c.kp ↔ ¬ ∃ r ∈ c.rm,r.s = s
theorem paOk_iff {c:Ce} {s:Int} {b q:Bool} (hb:b = (rmOf c s).isSome) (hq:hasB c.kp s = q):PaOk c s ↔ b ≠ q:=by
 unfold PaOk
 rw [← hasB_mem,hq,← rmOf_none,hb]
 cases rmOf c s <;> cases q <;> simp
set_option maxRecDepth 100000 in
set_option maxHeartbeats 12800000 in
theorem law_verify (z:PB) (C:CV) (n:Nat) (w:World) (h:z.ok w w.heap.size) (hc:C.ok w w.heap.size) (hel:z.x.ne ≤ 1000000) (hrn:C.rn ≤ 1000000) (hkn:C.k.n ≤ 1000000) (hn:z.x.a.st = (n:Int)) (hn4:n ≤ 4096) :
  Calls Try.prog 17 #[.agg (pbc z).toArray,.agg (cvc C).toArray] w (RetVer z.m C.ce w):=by
 have hb1:=box_below w (.cells (pbc z).toArray 34)
 have kx:=Blk.new w 34 (pbc z)
 obtain ⟨w1,hw1⟩:∃ w1,w1 = w.alloc (.cells (pbc z).toArray 34):=⟨_,rfl⟩
 rw [← hw1] at hb1 kx
 have hb2:=box_below w1 (.cells (cvc C).toArray 38)
 have kx2:=kx.below hb2 kx.lt
 have kc:=Blk.new w1 38 (cvc C)
 have hs1:w1.heap.size = w.heap.size + 1:=by rw [hw1];simp
 rw [hs1] at kc
 obtain ⟨w2,hw2⟩:∃ w2,w2 = w1.alloc (.cells (cvc C).toArray 38):=⟨_,rfl⟩
 rw [← hw2] at hb2 kx2 kc
 have hb12:=hb1.trans (hb2.mono hb1.size)
 have HZ:=Lib.hid (fun (W:World) (hb:Below w2.heap.size w2 W)=>(h.below (hb12.trans (hb.mono hb12.size))).more (hb12.trans (hb.mono hb12.size)).size)
 have HC:=Lib.hid (fun (W:World) (hb:Below w2.heap.size w2 W)=>(hc.below (hb12.trans (hb.mono hb12.size))).more (hb12.trans (hb.mono hb12.size)).size)
 have HKP:=Lib.hid (fun (W:World) (hb:Below w2.heap.size w2 W)=>Blk.c6 (kx2.below hb kx2.lt))
 have HKC:=Lib.hid (fun (W:World) (hb:Below w2.heap.size w2 W)=>Blk.c3 (kc.below hb kc.lt))
 have HB:=Lib.hid (fun (W:World) (hb:Below w2.heap.size w2 W)=>hb12.trans (hb.mono hb12.size))
 have HW2:=Lib.hid (show (w.alloc (.cells (pbc z).toArray 34)).alloc (.cells (cvc C).toArray 38) = w2 by rw [hw2,hw1])
 have HEL:=Lib.hid (show z.m.a.ed.length = z.x.ne from h.x.le)
 have HKL:=Lib.hid (show C.k.l.length = C.k.n from hc.k.la)
 have HRL:=Lib.hid (show C.rm.length = C.rn from hc.rl)
 have HDL:=Lib.hid (show C.d.l.length = C.d.n from hc.d.la)
 have hec:z.x.ne ≤ z.x.ce:=h.x.ec
 have hec2:z.x.ce ≤ 9223372036854775807:=h.x.cE
 have HPV:=Lib.hid (show pbc z = [.slice z.x.A z.x.na z.x.ca,.int .i64 z.x.a.st,.slice z.x.M z.x.nm z.x.cm,.slice z.x.E z.x.ne z.x.ce,.slice z.u.A z.u.n z.u.c,.slice z.f.A z.f.n z.f.c] from rfl)
 have HCV:=Lib.hid (show cvc C = [.slice C.k.A C.k.n C.k.c,.slice C.d.A C.d.n C.d.c,.slice C.R C.rn C.rc] from rfl)
 have HST:=Lib.hid (show z.m.a.st = (n:Int) from hn)
 have hz0:=(HC.out w2 (Below.refl _ _)).k
 have HCS:=Lib.hid (alphabet_CheckSet_n C.k.A C.k.c C.k.n C.k.l (n:Int) _ w2 hz0.la rfl hz0.ra hz0.ac hz0.cA)
 have HKE:=Lib.hid (fun (s d:Int) (W:World) (hb:Below w2.heap.size w2 W) (hdl:C.d.n = C.k.n)=>law_keeps z C s d W (HZ.out W hb) (HC.out W hb) hel hkn hdl)
 have HRE:=Lib.hid (fun (r:Rm) (W:World) (hb:Below w2.heap.size w2 W) (hf:FOk z.m.a.st C.ce) (hr:r.r = 1 ∨ r.r = 2 ∨ r.r = 3)=>law_removes z C r W (HZ.out W hb) (HC.out W hb) hf hr)
 have HRV:=Lib.hid (fun (x:Int) (W:World) (hb:Below w2.heap.size w2 W)=>law_removal C x W (HC.out W hb))
 have HHA:=Lib.hid (fun (x:Int) (q:Bool) (W:World) (hb:Below w2.heap.size w2 W) (hq:hasB C.k.l x = q)=>law_has C.k.A C.k.c C.k.n C.k.l x q W (HC.out W hb).k.la (HC.out W hb).k.ra (Nat.le_trans (HC.out W hb).k.ac (HC.out W hb).k.cA) hq)
 obtain ⟨RES,hRES⟩:∃ r,frmE z.m.a.st C.ce = r:=⟨_,rfl⟩
 have HRES:=Lib.hid hRES
 clear hb1 kx hw1 hb2 kx2 kc hw2 hs1 hb12 h hc hz0 hRES
 rw [HPV.out] at HW2 HKE HRE ⊢
 rw [HCV.out] at HW2 HKE HRE HRV ⊢
 unfold pbc at HKP
 unfold cvc at HKC
 rw [hn] at HKP HW2 HKE HRE ⊢
 have HN:=Lib.hid hn;clear hn
 go_enter Try.func17,Try.ntmps17
 go_upto_region 1 with fail
 rw [HW2.out]
 obtain ⟨⟨a0,a1,a2,a3,a4⟩,a5⟩:=HKP.out w2 (Below.refl _ _)
 obtain ⟨c0,c1,c2⟩:=HKC.out w2 (Below.refl _ _)
 go_wp2_with fail
 refine HCS.out.mono ?_
 rintro _ w3 ⟨rfl,rfl⟩
 clear HCS
 by_cases he1:setErr C.k.l (n:Int) = 0
 case neg =>
  have HR9:=Lib.hid (show frmE z.m.a.st C.ce = setErr C.k.l (n:Int) by
   unfold frmE
   rw [HST.out]
   exact if_pos he1)
  obtain ⟨q,hq⟩:∃ q,setErr C.k.l (n:Int) = q:=⟨_,rfl⟩
  rw [hq] at he1 HR9 ⊢
  have hq':(q != 0) = true:=by simpa using he1
  have HE1:=Lib.hid he1;clear he1
  clear hq
  go_wp2
  go_ret
  exact ⟨q,rfl,VerIs.err HR9.out HE1.out,HB.out _ (Below.refl _ _)⟩
 have HE1:=Lib.hid he1
 rw [he1]
 clear he1
 by_cases hdk:C.d.n = C.k.n
 case neg =>
  have HR9:=Lib.hid (show frmE z.m.a.st C.ce = 4 by
   unfold frmE
   rw [HST.out,if_neg (by rw [show setErr C.ce.kp (n:Int) = 0 from HE1.out];simp),if_pos]
   show C.d.l.length ≠ C.k.l.length
   rw [HDL.out,HKL.out]
   exact hdk)
  have b1:((C.d.n:Int) != (C.k.n:Int)) = true:=by rw [bne_iff_ne];omega
  clear hdk
  go_wp2
  go_ret
  exact ⟨4,rfl,VerIs.err HR9.out (by decide),HB.out _ (Below.refl _ _)⟩
 have HR0:=Lib.hid (show rmErrG (n:Int) (lastS C.rm 0) (C.rm.drop 0) = RES by
  rw [← HRES.out]
  unfold frmE
  rw [HST.out,if_neg (by rw [show setErr C.ce.kp (n:Int) = 0 from HE1.out];simp),if_neg]
  ·rfl
  show ¬ C.d.l.length ≠ C.k.l.length
  rw [HDL.out,HKL.out]
  exact fun h=>h hdk)
 have b1:((C.d.n:Int) != (C.k.n:Int)) = false:=by rw [bne_eq_false_iff_eq];omega
 have HDK:=Lib.hid hdk;clear hdk
 go_wp2
 clear a0 a1 a2 a3 a4 a5 c0 c1 c2 b1
 go_loopw [6,7] (fun s6 s7 wr=>∃ (j:Nat) (v7:Value),s6 = .int .i64 j∧s7 = v7∧j ≤ C.rn∧Hid (rmErrG (n:Int) (lastS C.rm j) (C.rm.drop j) = RES)∧Hid (Below w2.heap.size w2 wr)) (fun s6 _ _=>C.rn - (intOf s6).toNat)
 case atStart=>exact ⟨0,_,rfl,rfl,Nat.zero_le _,HR0,Lib.hid (Below.refl _ _)⟩
 case round =>
  clear HR0
  obtain ⟨j,v7,rfl,rfl,hj,HR,HB1⟩:=hrel
  obtain ⟨c0,c1,c2⟩:=HKC.out wr HB1.out
  by_cases hlt:j < C.rn
  case pos =>
   have b1:(j:Int) < (C.rn:Int):=by omega
   obtain ⟨ad,x,hA,hx,g0,g1,g2,g3⟩:=rm_reads (HC.out wr HB1.out).rr (j:=j) (by rw [HRL.out];exact hlt)
   rw [hA] at c2
   have HA:=Lib.hid hA
   have hbx:=box_below wr (.cells #[.int .i64 x.s,.int .i64 x.k,.int .i64 x.r,.int .i64 x.e] 63)
   have ke:Blk (wr.alloc (.cells #[.int .i64 x.s,.int .i64 x.k,.int .i64 x.r,.int .i64 x.e] 63)) wr.heap.size 63 [.int .i64 x.s,.int .i64 x.k,.int .i64 x.r,.int .i64 x.e]:=Blk.new _ _ [_,_,_,_]
   have HB5:=Lib.hid (HB1.out.trans (hbx.mono HB1.out.size))
   have HX:=Lib.hid hx
   clear hx hbx hA
   go_upto_region 10 with fail
   clear g0 g1 g2 g3 c0 c1 c2
   generalize wr.heap.size = bx at ke ⊢
   generalize wr.alloc (.cells #[.int .i64 x.s,.int .i64 x.k,.int .i64 x.r,.int .i64 x.e] 63) = w5 at ke HB5 ⊢
   have e0:=ke.cell (j:=0) rfl
   obtain ⟨⟨a0,a1,a2,a3,a4⟩,a5⟩:=HKP.out w5 HB5.out
   by_cases hs0:x.s < 0
   ·have HR9:=Lib.hid (show frmE z.m.a.st C.ce = 2 by rw [HRES.out,← HR.out];exact rmErrG_range HX.out (.inl hs0))
    go_wp2
    go_ret
    exact ⟨2,rfl,VerIs.err HR9.out (by decide),HB.out _ HB5.out⟩
   by_cases hs1:x.s ≥ (n:Int)
   ·have HR9:=Lib.hid (show frmE z.m.a.st C.ce = 2 by rw [HRES.out,← HR.out];exact rmErrG_range HX.out (.inr hs1))
    go_wp2
    go_ret
    exact ⟨2,rfl,VerIs.err HR9.out (by decide),HB.out _ HB5.out⟩
   have HRNG:=Lib.hid (show ¬ (x.s < 0 ∨ (n:Int) ≤ x.s) by omega)
   obtain ⟨xr,hxr⟩:∃ q,x.r = q:=⟨_,rfl⟩
   rw [hxr] at ke
   have HXR:=Lib.hid hxr
   clear hxr
   go_upto_region 12 with fail
   have HB6:=Lib.hid (HB5.out.trans ((below_dr w5).mono HB5.out.size))
   have k6:=ke.below (below_dr w5) ke.lt
   clear e0 ke hs0 hs1 HB5 HB1 a0 a1 a2 a3 a4 a5
   rcases Nat.eq_zero_or_pos j with hj0 | hj0
   ·have b2:¬ (0:Int) < (j:Int):=by omega
    have b3:¬ 0 < j:=by omega
    have HJ0:=Lib.hid hj0;clear hj0
    have HNO:=Lib.hid (show ∀ v,lastS C.rm j = some v → ¬ x.s ≤ v from fun v hv=>by rw [HJ0.out] at hv;cases hv)
    refine wp_region_U (fun _=>True) (fun _=>True) 99 (by kernel_rfl) ?_
    change anyU _ _ _ _ _ _ _ 15 _ _ _
    generalize w5.drew = w6 at HB6 k6 ⊢
    have hA0:True:=trivial
    have hB0:True:=trivial
    (refine uA 0 ?_ rfl hA0 hB0 (fun W hA=>?_) ?_;rotate_left;(· (go_simp;try with_reducible rfl));refine uA 1 ?_ rfl hA0 hB0 (fun W hA=>?_) ?_;rotate_left;(· (go_simp;try with_reducible rfl));refine uA 2 ?_ rfl hA0 hB0 (fun W hA=>?_) ?_;rotate_left;(· (go_simp;try with_reducible rfl));(try simp only [Act.put,List.setIfInBounds_toArray,List.set_cons_zero,List.set_cons_succ]))
    (refine uS 3 rfl hA0 hB0 ?_;refine uS 4 rfl hA0 hB0 ?_;refine uS 5 rfl hA0 hB0 ?_;(try simp only [Act.put,List.setIfInBounds_toArray,List.set_cons_zero,List.set_cons_succ]))
    (refine uS 6 rfl hA0 hB0 ?_;refine uS 7 rfl hA0 hB0 ?_;refine uS 8 rfl hA0 hB0 ?_;(try simp only [Act.put,List.setIfInBounds_toArray,List.set_cons_zero,List.set_cons_succ]))
    (refine uS 9 rfl hA0 hB0 ?_;refine uS 10 rfl hA0 hB0 ?_;refine uS 11 rfl hA0 hB0 ?_;(try simp only [Act.put,List.setIfInBounds_toArray,List.set_cons_zero,List.set_cons_succ]))
    (refine uS 12 rfl hA0 hB0 ?_;(try simp only [Act.put,List.setIfInBounds_toArray,List.set_cons_zero,List.set_cons_succ]))
    (refine uA 13 ?_ rfl hA0 hB0 (fun W hA=>?_) ?_;rotate_left;(· (go_simp;try with_reducible rfl));refine uA 14 ?_ rfl hA0 hB0 (fun W hA=>?_) ?_;rotate_left;(· (go_simp;try with_reducible rfl));(try simp only [Act.put,List.setIfInBounds_toArray,List.set_cons_zero,List.set_cons_succ]))
    refine anyU_done (by kernel_rfl) ?_ _
    have e2:=k6.cell (j:=2) rfl
    clear hA0 hB0 k6
    have HBF:=Lib.hid (HB.out _ HB6.out)
    have HKX:Hid (∀ v,lastS C.rm j = some v → ¬ x.s ≤ v):=HNO
    by_cases hk1:x.r < 1
    ·have HR9:=Lib.hid (show frmE z.m.a.st C.ce = 11 by rw [HRES.out,← HR.out];exact rmErrG_kind HX.out HRNG.out HKX.out ⟨by omega,by omega,by omega⟩)
     rw [HXR.out] at hk1
     go_wp2
     go_ret
     exact ⟨11,rfl,VerIs.err HR9.out (by decide),HBF.out⟩
    by_cases hk3:x.r > 3
    ·have HR9:=Lib.hid (show frmE z.m.a.st C.ce = 11 by rw [HRES.out,← HR.out];exact rmErrG_kind HX.out HRNG.out HKX.out ⟨by omega,by omega,by omega⟩)
     rw [HXR.out] at hk1 hk3
     go_wp2
     go_ret
     exact ⟨11,rfl,VerIs.err HR9.out (by decide),HBF.out⟩
    have HR9:=Lib.hid (show rmErrG (n:Int) (lastS C.rm (j + 1)) (C.rm.drop (j + 1)) = RES by
     rw [← HR.out,rmErrG_next HX.out HRNG.out HKX.out (by omega)]
     show rmErrG (n:Int) (C.rm[j]?.map (·.s)) _ = _
     rw [HX.out];rfl)
    rw [HXR.out] at hk1 hk3
    go_wp2
    go_roundw
    case rel=>exact ⟨j + 1,_,by go_num,rfl,by omega,HR9,HB6⟩
    case measure=>simp [intOf];omega
   ·obtain ⟨i,hi⟩:∃ i,i + 1 = j:=⟨j - 1,by omega⟩
    obtain ⟨ad2,y,hA2,hy,y0,y1,y2,y3⟩:=rm_reads (HC.out _ HB6.out).rr (j:=i) (by rw [HRL.out];omega)
    obtain rfl:ad = ad2:=by rw [HA.out] at hA2;injection hA2
    obtain ⟨_,_,c2⟩:=HKC.out _ HB6.out
    rw [HA.out] at c2
    have b2:(0:Int) < (j:Int):=by omega
    have b3:(i:Int) < (C.rn:Int):=by omega
    have b4:¬ (i:Int) < 0:=by omega
    have hwn:IntKind.i64.wrap ((j:Int) - 1) = (i:Int):=by rw [IntWalk.i64_in _ (by omega)];omega
    have HY:=Lib.hid hy
    obtain ⟨ys,hys⟩:∃ q,y.s = q:=⟨_,rfl⟩
    rw [hys] at y0
    have HYS:=Lib.hid hys
    have HLS:=Lib.hid (show lastS C.rm j = some ys by rw [← hi];show C.rm[i]?.map (·.s) = _;rw [HY.out,← HYS.out];rfl)
    have e06:=k6.cell (j:=0) rfl
    clear y1 y2 y3 hy hys hA2 hi
    refine wp_region_U (fun V=>V.cell? (ad.add (i * 4)) = some (.int .i64 ys)∧V.cell? ⟨w.heap.size + 1,2,none⟩ = some (.slice (some ad) C.rn C.rc)∧V.cell? ⟨bx,0,none⟩ = some (.int .i64 x.s)) (fun _=>True) 99 (by kernel_rfl) ?_
    change anyU _ _ _ _ _ _ _ 15 _ _ _
    have hA0:w5.drew.cell? (ad.add (i * 4)) = some (.int .i64 ys)∧w5.drew.cell? ⟨w.heap.size + 1,2,none⟩ = some (.slice (some ad) C.rn C.rc)∧w5.drew.cell? ⟨bx,0,none⟩ = some (.int .i64 x.s):=⟨y0,c2,e06⟩
    clear y0 c2 e06
    generalize w5.drew = w6 at HB6 k6 hA0 ⊢
    have hB0:True:=trivial
    (refine uA 0 ?_ rfl hA0 hB0 (fun W hA=>?_) ?_;rotate_left;(· (go_simp;try with_reducible rfl));refine uA 1 ?_ rfl hA0 hB0 (fun W hA=>?_) ?_;rotate_left;(· (go_simp;try with_reducible rfl));refine uA 2 ?_ rfl hA0 hB0 (fun W hA=>?_) ?_;rotate_left;(· (go_simp;try with_reducible rfl));(try simp only [Act.put,List.setIfInBounds_toArray,List.set_cons_zero,List.set_cons_succ]))
    (refine uA 3 ?_ rfl hA0 hB0 (fun W hA=>?_) ?_;rotate_left;(· (go_simp;try with_reducible rfl));(try simp only [Act.put,List.setIfInBounds_toArray,List.set_cons_zero,List.set_cons_succ]))
    (refine uA 4 ?_ rfl hA0 hB0 (fun W hA=>?_) ?_;rotate_left;(· (obtain ⟨a0,a1,a2⟩:=hA;go_simp;try with_reducible rfl));(try simp only [Act.put,List.setIfInBounds_toArray,List.set_cons_zero,List.set_cons_succ]))
    (refine uA 5 ?_ rfl hA0 hB0 (fun W hA=>?_) ?_;rotate_left;(· (go_simp;try with_reducible rfl));(try simp only [Act.put,List.setIfInBounds_toArray,List.set_cons_zero,List.set_cons_succ]))
    (refine uA 6 ?_ rfl hA0 hB0 (fun W hA=>?_) ?_;rotate_left;(· (obtain ⟨a0,a1,a2⟩:=hA;go_simp;try with_reducible rfl));(try simp only [Act.put,List.setIfInBounds_toArray,List.set_cons_zero,List.set_cons_succ]))
    (refine uA 7 ?_ rfl hA0 hB0 (fun W hA=>?_) ?_;rotate_left;(· (go_simp;try with_reducible rfl));refine uA 8 ?_ rfl hA0 hB0 (fun W hA=>?_) ?_;rotate_left;(· (go_simp;try with_reducible rfl));refine uA 9 ?_ rfl hA0 hB0 (fun W hA=>?_) ?_;rotate_left;(· (go_simp;try with_reducible rfl));(try simp only [Act.put,List.setIfInBounds_toArray,List.set_cons_zero,List.set_cons_succ]))
    (refine uA 10 ?_ rfl hA0 hB0 (fun W hA=>?_) ?_;rotate_left;(· (go_simp;try with_reducible rfl));(try simp only [Act.put,List.setIfInBounds_toArray,List.set_cons_zero,List.set_cons_succ]))
    (refine uA 11 ?_ rfl hA0 hB0 (fun W hA=>?_) ?_;rotate_left;(· (obtain ⟨a0,a1,a2⟩:=hA;go_simp;try with_reducible rfl));(try simp only [Act.put,List.setIfInBounds_toArray,List.set_cons_zero,List.set_cons_succ]))
    by_cases hle:x.s ≤ ys
    ·have HR9:=Lib.hid (show frmE z.m.a.st C.ce = 5 by rw [HRES.out,← HR.out,HLS.out];exact rmErrG_order HX.out HRNG.out hle)
     (refine uA 12 ?_ rfl hA0 hB0 (fun W hA=>?_) ?_;rotate_left;(· (go_simp;try with_reducible rfl));(try simp only [Act.put,List.setIfInBounds_toArray,List.set_cons_zero,List.set_cons_succ]))
     (refine uA 13 ?_ rfl hA0 hB0 (fun W hA=>?_) ?_;rotate_left;(· (go_simp;try with_reducible rfl));refine uA 14 ?_ rfl hA0 hB0 (fun W hA=>?_) ?_;rotate_left;(· (go_simp;try with_reducible rfl));(try simp only [Act.put,List.setIfInBounds_toArray,List.set_cons_zero,List.set_cons_succ]))
     refine anyU_done (by kernel_rfl) ?_ _
     clear hA0 hB0 k6
     have HBF:=Lib.hid (HB.out _ HB6.out)
     go_wp2
     go_ret
     exact ⟨5,rfl,VerIs.err HR9.out (by decide),HBF.out⟩
    ·have HNO:=Lib.hid (show ∀ v,lastS C.rm j = some v → ¬ x.s ≤ v from fun v hv=>by
      rw [HLS.out] at hv
      injection hv with hv
      rw [← hv]
      exact hle)
     (refine uA 12 ?_ rfl hA0 hB0 (fun W hA=>?_) ?_;rotate_left;(· (go_simp;try with_reducible rfl));(try simp only [Act.put,List.setIfInBounds_toArray,List.set_cons_zero,List.set_cons_succ]))
     (refine uA 13 ?_ rfl hA0 hB0 (fun W hA=>?_) ?_;rotate_left;(· (go_simp;try with_reducible rfl));refine uA 14 ?_ rfl hA0 hB0 (fun W hA=>?_) ?_;rotate_left;(· (go_simp;try with_reducible rfl));(try simp only [Act.put,List.setIfInBounds_toArray,List.set_cons_zero,List.set_cons_succ]))
     refine anyU_done (by kernel_rfl) ?_ _
     have e2:=k6.cell (j:=2) rfl
     clear hA0 hB0 k6
     have HBF:=Lib.hid (HB.out _ HB6.out)
     have HKX:Hid (∀ v,lastS C.rm j = some v → ¬ x.s ≤ v):=HNO
     by_cases hk1:x.r < 1
     ·have HR9:=Lib.hid (show frmE z.m.a.st C.ce = 11 by rw [HRES.out,← HR.out];exact rmErrG_kind HX.out HRNG.out HKX.out ⟨by omega,by omega,by omega⟩)
      rw [HXR.out] at hk1
      go_wp2
      go_ret
      exact ⟨11,rfl,VerIs.err HR9.out (by decide),HBF.out⟩
     by_cases hk3:x.r > 3
     ·have HR9:=Lib.hid (show frmE z.m.a.st C.ce = 11 by rw [HRES.out,← HR.out];exact rmErrG_kind HX.out HRNG.out HKX.out ⟨by omega,by omega,by omega⟩)
      rw [HXR.out] at hk1 hk3
      go_wp2
      go_ret
      exact ⟨11,rfl,VerIs.err HR9.out (by decide),HBF.out⟩
     have HR9:=Lib.hid (show rmErrG (n:Int) (lastS C.rm (j + 1)) (C.rm.drop (j + 1)) = RES by
      rw [← HR.out,rmErrG_next HX.out HRNG.out HKX.out (by omega)]
      show rmErrG (n:Int) (C.rm[j]?.map (·.s)) _ = _
      rw [HX.out];rfl)
     rw [HXR.out] at hk1 hk3
     go_wp2
     go_roundw
     case rel=>exact ⟨j + 1,_,by go_num,rfl,by omega,HR9,HB6⟩
     case measure=>simp [intOf];omega
  obtain rfl:j = C.rn:=by omega
  have b1:¬ (C.rn:Int) < (C.rn:Int):=by omega
  have HFE:=Lib.hid (show frmE z.m.a.st C.ce = 0 by
   rw [HRES.out,← HR.out,List.drop_of_length_le (by rw [HRL.out];exact Nat.le_refl _)]
   cases lastS C.rm C.rn <;> rfl)
  have HFO:=Lib.hid (frmE_ok HFE.out)
  have HP0:=Lib.hid (show ∀ s:Int,0 ≤ s → s < ((0:Nat):Int) → PaOk C.ce s from fun s h0 h1=>by omega)
  clear HR
  go_wp2
  clear c0 c1 c2
  go_loopw [8,9,10] (fun s8 s9 s10 wr=>∃ (k:Nat) (v9 v10:Value),s8 = .int .i64 k∧s9 = v9∧s10 = v10∧k ≤ n∧Hid (∀ s:Int,0 ≤ s → s < (k:Int) → PaOk C.ce s)∧Hid (Below w2.heap.size w2 wr)) (fun s8 _ _ _=>n - (intOf s8).toNat)
  case atStart=>exact ⟨0,_,_,rfl,rfl,rfl,Nat.zero_le _,HP0,HB1⟩
  case round =>
   clear HP0 HB1
   obtain ⟨k,v9,v10,rfl,rfl,rfl,hk,HPA,HBK⟩:=hrel
   obtain ⟨⟨a0,a1,a2,a3,a4⟩,a5⟩:=HKP.out _ HBK.out
   obtain ⟨c0,c1,c2⟩:=HKC.out _ HBK.out
   by_cases hlt:k < n
   case pos =>
    have b1:(k:Int) < (n:Int):=by omega
    obtain ⟨wk,rfl⟩:∃ q,q = wr:=⟨_,rfl⟩
    have HRV1:=Lib.hid (HRV.out (k:Int) wk HBK.out)
    obtain ⟨ys,yk,yr,ye,b,hrv,hb⟩:∃ (ys yk yr ye:Int) (b:Bool),rmV (rmOf C.ce (k:Int)) = .tuple #[.agg #[.int .i64 ys,.int .i64 yk,.int .i64 yr,.int .i64 ye],.bool b]∧b = (rmOf C.ce (k:Int)).isSome:=by
     cases rmOf C.ce (k:Int) with
     | none=>exact ⟨0,0,0,0,false,rfl,rfl⟩
     | some y=>exact ⟨y.s,y.k,y.r,y.e,true,rfl,rfl⟩
    have HBS:=Lib.hid hb
    rw [hrv] at HRV1
    clear hrv hb
    go_wp2_with fail
    refine HRV1.out.mono ?_
    rintro e wv ⟨rfl,hbv⟩
    have HBV:=Lib.hid (HBK.out.trans (hbv.mono HBK.out.size))
    have hbn:=box_below wv (.cells #[.int .i64 ys,.int .i64 yk,.int .i64 yr,.int .i64 ye] 63)
    have HBN:=Lib.hid (HBV.out.trans (hbn.mono HBV.out.size))
    clear c0 c1 c2 a0 a1 a2 a3 a4 a5 hbv hbn HRV1 HBV
    go_upto_region 20 with fail
    generalize wv.alloc (.cells #[.int .i64 ys,.int .i64 yk,.int .i64 yr,.int .i64 ye] 63) = wn at HBN ⊢
    generalize wv.heap.size = bN
    obtain ⟨c0,c1,c2⟩:=HKC.out wn HBN.out
    obtain ⟨q,hq⟩:∃ q,hasB C.k.l (k:Int) = q:=⟨_,rfl⟩
    have HQ:=Lib.hid (show hasB C.ce.kp (k:Int) = q from hq)
    have HPK:=Lib.hid (paOk_iff HBS.out HQ.out)
    go_wp2_with fail
    refine (HHA.out (k:Int) q wn HBN.out hq).mono ?_
    rintro e w6 ⟨rfl,rfl⟩
    clear hq
    by_cases hbq:b = q
    case pos =>
     have HNV:=Lib.hid (show ¬ VOk z.m C.ce from fun h=>(HPK.out.1 (h.part (k:Int) (by omega) (by rw [HST.out];omega))) hbq)
     subst hbq
     cases b <;> (go_wp2;go_ret;exact ⟨24,rfl,.inr ⟨HFE.out,.inr ⟨HNV.out,rfl⟩⟩,HB.out _ HBN.out⟩)
    have HP9:=Lib.hid (show ∀ s:Int,0 ≤ s → s < ((k + 1:Nat):Int) → PaOk C.ce s from fun s h0 h1=>by
     by_cases h2:s = (k:Int)
     ·rw [h2];exact HPK.out.2 hbq
     ·exact HPA.out s h0 (by omega))
    cases b <;> cases q <;> first | (exact absurd rfl hbq) | (go_wp2;go_roundw;(case rel=>exact ⟨k + 1,_,_,by go_num,rfl,rfl,by omega,HP9,HBN⟩);(case measure=>(simp [intOf];omega)))
   obtain rfl:k = n:=by omega
   have b1:¬ (k:Int) < (k:Int):=by omega
   have HK0:=Lib.hid (show ∀ (i:Nat) (s d:Int),i < 0 → C.ce.kp[i]? = some s → C.ce.ds[i]? = some d → KOk z.m C.ce s d from fun i s d h=>absurd h (Nat.not_lt_zero i))
   go_wp2
   clear a0 a1 a2 a3 a4 a5 c0 c1 c2
   go_loopw [11] (fun s11 wr=>∃ t:Nat,s11 = .int .i64 t∧t ≤ C.k.n∧Hid (∀ (i:Nat) (s d:Int),i < t → C.ce.kp[i]? = some s → C.ce.ds[i]? = some d → KOk z.m C.ce s d)∧Hid (Below w2.heap.size w2 wr)) (fun s11 _=>C.k.n - (intOf s11).toNat)
   case atStart=>exact ⟨0,rfl,Nat.zero_le _,HK0,HBK⟩
   case round =>
    clear HK0 HBK
    obtain ⟨t,rfl,ht,HKA,HBT⟩:=hrel
    obtain ⟨wt,rfl⟩:∃ q,q = wr:=⟨_,rfl⟩
    by_cases hlt:t < C.k.n
    case pos =>
     have b1:(t:Int) < (C.k.n:Int):=by omega
     have b2:(t:Int) < (C.d.n:Int):=by have:=HDK.out;omega
     have hdr:=HBT.out.trans ((below_dr wt).mono HBT.out.size)
     obtain ⟨kd,y,hK,_,hy,_⟩:=(HC.out _ hdr).k.ra.at_ (k:=t) (by rw [HKL.out];exact hlt)
     obtain ⟨dd,e,hD,_,he,_⟩:=(HC.out _ hdr).d.ra.at_ (k:=t) (by rw [HDL.out,HDK.out];exact hlt)
     have HAV:=Lib.hid (show ∀ V:World,Below w2.heap.size w2 V → (C5 V w.heap.size (.slice z.x.A z.x.na z.x.ca) (.int .i64 (k:Int)) (.slice z.x.M z.x.nm z.x.cm) (.slice z.x.E z.x.ne z.x.ce) (.slice z.u.A z.u.n z.u.c)∧V.cell? ⟨w.heap.size,5,none⟩ = some (.slice z.f.A z.f.n z.f.c))∧(V.cell? ⟨w.heap.size + 1,0,none⟩ = some (.slice (some kd) C.k.n C.k.c)∧V.cell? ⟨w.heap.size + 1,1,none⟩ = some (.slice (some dd) C.d.n C.d.c)∧V.cell? ⟨w.heap.size + 1,2,none⟩ = some (.slice C.R C.rn C.rc))∧V.cell? (kd.add t) = some (.int .i64 y)∧V.cell? (dd.add t) = some (.int .i64 e) from fun V hb=>by
      obtain ⟨kd2,y2,h1,_,h2,h3⟩:=(HC.out V hb).k.ra.at_ (k:=t) (by rw [HKL.out];exact hlt)
      obtain ⟨dd2,e2,h4,_,h5,h6⟩:=(HC.out V hb).d.ra.at_ (k:=t) (by rw [HDL.out,HDK.out];exact hlt)
      rw [hK] at h1
      injection h1 with h1
      subst h1
      rw [hy] at h2
      injection h2 with h2
      subst h2
      rw [hD] at h4
      injection h4 with h4
      subst h4
      rw [he] at h5
      injection h5 with h5
      subst h5
      obtain ⟨c0,c1,c2⟩:=HKC.out V hb
      rw [hK] at c0
      rw [hD] at c1
      exact ⟨HKP.out V hb,⟨c0,c1,c2⟩,h3,h6⟩)
     have HY:=Lib.hid (show C.ce.kp[t]? = some y from hy)
     have HE:=Lib.hid (show C.ce.ds[t]? = some e from he)
     have HBD:=Lib.hid hdr
     have HVC:=Lib.hid (show (.agg #[.slice (some kd) C.k.n C.k.c,.slice (some dd) C.d.n C.d.c,.slice C.R C.rn C.rc]:Value) = .agg #[.slice C.k.A C.k.n C.k.c,.slice C.d.A C.d.n C.d.c,.slice C.R C.rn C.rc] by rw [hK,hD])
     obtain ⟨c0,c1,c2⟩:=HKC.out _ HBT.out
     clear hdr hK hD hy he
     go_upto_region 25 with fail
     clear c0 c1 c2
     refine wp_region_U (fun V=>(C5 V w.heap.size (.slice z.x.A z.x.na z.x.ca) (.int .i64 (k:Int)) (.slice z.x.M z.x.nm z.x.cm) (.slice z.x.E z.x.ne z.x.ce) (.slice z.u.A z.u.n z.u.c)∧V.cell? ⟨w.heap.size,5,none⟩ = some (.slice z.f.A z.f.n z.f.c))∧(V.cell? ⟨w.heap.size + 1,0,none⟩ = some (.slice (some kd) C.k.n C.k.c)∧V.cell? ⟨w.heap.size + 1,1,none⟩ = some (.slice (some dd) C.d.n C.d.c)∧V.cell? ⟨w.heap.size + 1,2,none⟩ = some (.slice C.R C.rn C.rc))∧V.cell? (kd.add t) = some (.int .i64 y)∧V.cell? (dd.add t) = some (.int .i64 e)) (fun _=>True) 99 (by kernel_rfl) ?_
     change anyU _ _ _ _ _ _ _ 14 _ _ _
     have hA0:=HAV.out _ HBD.out
     generalize wt.drew = w5 at HBD hA0 ⊢
     have hB0:True:=trivial
     (refine uA 0 ?_ rfl hA0 hB0 (fun W hA=>?_) ?_;rotate_left;(· (obtain ⟨⟨⟨a0,a1,a2,a3,a4⟩,a5⟩,_⟩:=hA;go_simp;try with_reducible rfl));(try simp only [Act.put,List.setIfInBounds_toArray,List.set_cons_zero,List.set_cons_succ]))
     (refine uA 1 ?_ rfl hA0 hB0 (fun W hA=>?_) ?_;rotate_left;(· (obtain ⟨_,⟨c0,c1,c2⟩,_⟩:=hA;go_simp;try with_reducible rfl));(try simp only [Act.put,List.setIfInBounds_toArray,List.set_cons_zero,List.set_cons_succ]))
     (refine uA 2 ?_ rfl hA0 hB0 (fun W hA=>?_) ?_;rotate_left;(· (go_simp;try with_reducible rfl));(try simp only [Act.put,List.setIfInBounds_toArray,List.set_cons_zero,List.set_cons_succ]))
     (refine uA 3 ?_ rfl hA0 hB0 (fun W hA=>?_) ?_;rotate_left;(· (obtain ⟨_,⟨c0,c1,c2⟩,_⟩:=hA;go_simp;try with_reducible rfl));(try simp only [Act.put,List.setIfInBounds_toArray,List.set_cons_zero,List.set_cons_succ]))
     (refine uA 4 ?_ rfl hA0 hB0 (fun W hA=>?_) ?_;rotate_left;(· (go_simp;try with_reducible rfl));refine uA 5 ?_ rfl hA0 hB0 (fun W hA=>?_) ?_;rotate_left;(· (go_simp;try with_reducible rfl));(try simp only [Act.put,List.setIfInBounds_toArray,List.set_cons_zero,List.set_cons_succ]))
     (refine uA 6 ?_ rfl hA0 hB0 (fun W hA=>?_) ?_;rotate_left;(· (obtain ⟨_,_,f0,f1⟩:=hA;go_simp;try with_reducible rfl));(try simp only [Act.put,List.setIfInBounds_toArray,List.set_cons_zero,List.set_cons_succ]))
     (refine uA 7 ?_ rfl hA0 hB0 (fun W hA=>?_) ?_;rotate_left;(· (go_simp;try with_reducible rfl));(try simp only [Act.put,List.setIfInBounds_toArray,List.set_cons_zero,List.set_cons_succ]))
     (refine uA 8 ?_ rfl hA0 hB0 (fun W hA=>?_) ?_;rotate_left;(· (obtain ⟨_,⟨c0,c1,c2⟩,_⟩:=hA;go_simp;try with_reducible rfl));(try simp only [Act.put,List.setIfInBounds_toArray,List.set_cons_zero,List.set_cons_succ]))
     (refine uA 9 ?_ rfl hA0 hB0 (fun W hA=>?_) ?_;rotate_left;(· (go_simp;try with_reducible rfl));refine uA 10 ?_ rfl hA0 hB0 (fun W hA=>?_) ?_;rotate_left;(· (go_simp;try with_reducible rfl));(try simp only [Act.put,List.setIfInBounds_toArray,List.set_cons_zero,List.set_cons_succ]))
     (refine uA 11 ?_ rfl hA0 hB0 (fun W hA=>?_) ?_;rotate_left;(· (obtain ⟨_,_,f0,f1⟩:=hA;go_simp;try with_reducible rfl));(try simp only [Act.put,List.setIfInBounds_toArray,List.set_cons_zero,List.set_cons_succ]))
     refine uOne (i:=12) rfl (by kernel_rfl) (fun K hK=>?_)
     go_simp
     go_at_call 52
     rw [HVC.out]
     refine (HKE.out y e w5 HBD.out HDK.out).mono ?_
     rintro ee w4 ⟨q,rfl,hq,hb4⟩
     have HB4:=Lib.hid (HBD.out.trans (hb4.mono HBD.out.size))
     have HQ:=Lib.hid hq
     clear hA0 hq hb4
     have hA0:=HAV.out _ HB4.out
     go_simp
     (refine hK _ _ ⟨hA0,fun h=>absurd (h.symm.trans (by kernel_rfl:_ = true)) Bool.false_ne_true⟩ ?_;clear hK K;(try simp only [Act.put,List.setIfInBounds_toArray,List.set_cons_zero,List.set_cons_succ]))
     (refine uA 13 ?_ rfl hA0 hB0 (fun W hA=>?_) ?_;rotate_left;(· (go_simp;try with_reducible rfl));(try simp only [Act.put,List.setIfInBounds_toArray,List.set_cons_zero,List.set_cons_succ]))
     refine anyU_done (by kernel_rfl) ?_ _
     clear hA0
     cases q with
     | false =>
      have HNV:=Lib.hid (show ¬ VOk z.m C.ce from fun h=>by have h1:=HQ.out.2 (h.kpt t y e HY.out HE.out);cases h1)
      go_wp2
      go_ret
      exact ⟨24,rfl,.inr ⟨HFE.out,.inr ⟨HNV.out,rfl⟩⟩,HB.out _ HB4.out⟩
     | true =>
      have HK9:=Lib.hid (show ∀ (i:Nat) (s d:Int),i < t + 1 → C.ce.kp[i]? = some s → C.ce.ds[i]? = some d → KOk z.m C.ce s d from fun i s d hi h1 h2=>by
       by_cases hit:i = t
       ·subst hit
        rw [HY.out] at h1
        rw [HE.out] at h2
        injection h1 with h1
        injection h2 with h2
        rw [← h1,← h2]
        exact HQ.out.1 rfl
       ·exact HKA.out i s d (by omega) h1 h2)
      go_wp2
      go_roundw
      case rel=>exact ⟨t + 1,by go_num,by omega,HK9,HB4⟩
      case measure=>simp [intOf];omega
    obtain rfl:t = C.k.n:=by omega
    have b1:¬ (C.k.n:Int) < (C.k.n:Int):=by omega
    have HR0:=Lib.hid (show ∀ r ∈ C.rm.take 0,ROk z.m C.ce r from fun r hr=>by simp at hr)
    obtain ⟨c0,c1,c2⟩:=HKC.out _ HBT.out
    go_wp2
    clear c0 c1 c2
    go_loopw [12] (fun s12 wr=>∃ t:Nat,s12 = .int .i64 t∧t ≤ C.rn∧Hid (∀ r ∈ C.rm.take t,ROk z.m C.ce r)∧Hid (Below w2.heap.size w2 wr)) (fun s12 _=>C.rn - (intOf s12).toNat)
    case atStart=>exact ⟨0,rfl,Nat.zero_le _,HR0,HBT⟩
    case round =>
     clear HR0 HBT
     obtain ⟨t,rfl,ht,HRA,HBT⟩:=hrel
     obtain ⟨wt,rfl⟩:∃ q,q = wr:=⟨_,rfl⟩
     obtain ⟨c0,c1,c2⟩:=HKC.out _ HBT.out
     by_cases hlt:t < C.rn
     case neg =>
      have b1:¬ (t:Int) < (C.rn:Int):=by omega
      have HV:=Lib.hid (show VOk z.m C.ce from ⟨fun s h0 h1=>HPA.out s h0 (by rw [HST.out] at h1;exact h1),fun i s d h1 h2=>HKA.out i s d (by have h3:=(List.getElem?_eq_some_iff.1 h1).1;rw [show C.ce.kp.length = C.k.n from HKL.out] at h3;exact h3) h1 h2,fun r hr=>HRA.out r (by rw [List.take_of_length_le (by rw [HRL.out];omega)];exact hr)⟩)
      go_wp2
      go_ret
      exact ⟨0,rfl,.inr ⟨HFE.out,.inl ⟨HV.out,rfl⟩⟩,HB.out _ HBT.out⟩
     have b1:(t:Int) < (C.rn:Int):=by omega
     have hdr:=HBT.out.trans ((below_dr wt).mono HBT.out.size)
     obtain ⟨ad,r,hA,hr,_,_,_,_⟩:=rm_reads (HC.out _ hdr).rr (j:=t) (by rw [HRL.out];exact hlt)
     have HAV:=Lib.hid (show ∀ V:World,Below w2.heap.size w2 V → (C5 V w.heap.size (.slice z.x.A z.x.na z.x.ca) (.int .i64 (k:Int)) (.slice z.x.M z.x.nm z.x.cm) (.slice z.x.E z.x.ne z.x.ce) (.slice z.u.A z.u.n z.u.c)∧V.cell? ⟨w.heap.size,5,none⟩ = some (.slice z.f.A z.f.n z.f.c))∧(V.cell? ⟨w.heap.size + 1,0,none⟩ = some (.slice C.k.A C.k.n C.k.c)∧V.cell? ⟨w.heap.size + 1,1,none⟩ = some (.slice C.d.A C.d.n C.d.c)∧V.cell? ⟨w.heap.size + 1,2,none⟩ = some (.slice (some ad) C.rn C.rc))∧V.cell? (ad.add (t * 4)) = some (.int .i64 r.s)∧V.cell? ⟨(ad.add (t * 4)).block,(ad.add (t * 4)).off + 1,none⟩ = some (.int .i64 r.k)∧V.cell? ⟨(ad.add (t * 4)).block,(ad.add (t * 4)).off + 2,none⟩ = some (.int .i64 r.r)∧V.cell? ⟨(ad.add (t * 4)).block,(ad.add (t * 4)).off + 3,none⟩ = some (.int .i64 r.e) from fun V hb=>by
      obtain ⟨ad2,r2,h1,h2,h3⟩:=rm_reads (HC.out V hb).rr (j:=t) (by rw [HRL.out];exact hlt)
      rw [hA] at h1
      injection h1 with h1
      subst h1
      rw [hr] at h2
      injection h2 with h2
      subst h2
      obtain ⟨c0,c1,c2⟩:=HKC.out V hb
      rw [hA] at c2
      exact ⟨HKP.out V hb,⟨c0,c1,c2⟩,h3⟩)
     have HR:=Lib.hid (show C.rm[t]? = some r from hr)
     have HBD:=Lib.hid hdr
     have HVC:=Lib.hid (show (.agg #[.slice C.k.A C.k.n C.k.c,.slice C.d.A C.d.n C.d.c,.slice (some ad) C.rn C.rc]:Value) = .agg #[.slice C.k.A C.k.n C.k.c,.slice C.d.A C.d.n C.d.c,.slice C.R C.rn C.rc] by rw [hA])
     have HRM:=Lib.hid (show (.agg #[.int .i64 r.s,.int .i64 r.k,.int .i64 r.r,.int .i64 r.e]:Value) = .agg (rmc r).toArray from rfl)
     clear hdr hA hr
     go_upto_region 30 with fail
     clear c0 c1 c2
     refine wp_region_U (fun V=>(C5 V w.heap.size (.slice z.x.A z.x.na z.x.ca) (.int .i64 (k:Int)) (.slice z.x.M z.x.nm z.x.cm) (.slice z.x.E z.x.ne z.x.ce) (.slice z.u.A z.u.n z.u.c)∧V.cell? ⟨w.heap.size,5,none⟩ = some (.slice z.f.A z.f.n z.f.c))∧(V.cell? ⟨w.heap.size + 1,0,none⟩ = some (.slice C.k.A C.k.n C.k.c)∧V.cell? ⟨w.heap.size + 1,1,none⟩ = some (.slice C.d.A C.d.n C.d.c)∧V.cell? ⟨w.heap.size + 1,2,none⟩ = some (.slice (some ad) C.rn C.rc))∧V.cell? (ad.add (t * 4)) = some (.int .i64 r.s)∧V.cell? ⟨(ad.add (t * 4)).block,(ad.add (t * 4)).off + 1,none⟩ = some (.int .i64 r.k)∧V.cell? ⟨(ad.add (t * 4)).block,(ad.add (t * 4)).off + 2,none⟩ = some (.int .i64 r.r)∧V.cell? ⟨(ad.add (t * 4)).block,(ad.add (t * 4)).off + 3,none⟩ = some (.int .i64 r.e)) (fun _=>True) 99 (by kernel_rfl) ?_
     change anyU _ _ _ _ _ _ _ 9 _ _ _
     have hA0:=HAV.out _ HBD.out
     generalize wt.drew = w5 at HBD hA0 ⊢
     have hB0:True:=trivial
     (refine uA 0 ?_ rfl hA0 hB0 (fun W hA=>?_) ?_;rotate_left;(· (obtain ⟨⟨⟨a0,a1,a2,a3,a4⟩,a5⟩,_⟩:=hA;go_simp;try with_reducible rfl));(try simp only [Act.put,List.setIfInBounds_toArray,List.set_cons_zero,List.set_cons_succ]))
     (refine uA 1 ?_ rfl hA0 hB0 (fun W hA=>?_) ?_;rotate_left;(· (obtain ⟨_,⟨c0,c1,c2⟩,_⟩:=hA;go_simp;try with_reducible rfl));(try simp only [Act.put,List.setIfInBounds_toArray,List.set_cons_zero,List.set_cons_succ]))
     (refine uA 2 ?_ rfl hA0 hB0 (fun W hA=>?_) ?_;rotate_left;(· (go_simp;try with_reducible rfl));(try simp only [Act.put,List.setIfInBounds_toArray,List.set_cons_zero,List.set_cons_succ]))
     (refine uA 3 ?_ rfl hA0 hB0 (fun W hA=>?_) ?_;rotate_left;(· (obtain ⟨_,⟨c0,c1,c2⟩,_⟩:=hA;go_simp;try with_reducible rfl));(try simp only [Act.put,List.setIfInBounds_toArray,List.set_cons_zero,List.set_cons_succ]))
     (refine uA 4 ?_ rfl hA0 hB0 (fun W hA=>?_) ?_;rotate_left;(· (go_simp;try with_reducible rfl));refine uA 5 ?_ rfl hA0 hB0 (fun W hA=>?_) ?_;rotate_left;(· (go_simp;try with_reducible rfl));(try simp only [Act.put,List.setIfInBounds_toArray,List.set_cons_zero,List.set_cons_succ]))
     (refine uA 6 ?_ rfl hA0 hB0 (fun W hA=>?_) ?_;rotate_left;(· (obtain ⟨_,_,f0,f1,f2,f3⟩:=hA;go_simp;try with_reducible rfl));(try simp only [Act.put,List.setIfInBounds_toArray,List.set_cons_zero,List.set_cons_succ]))
     refine uOne (i:=7) rfl (by kernel_rfl) (fun K hK=>?_)
     go_simp
     go_at_call 53
     rw [HVC.out,HRM.out]
     refine (HRE.out r w5 HBD.out HFO.out (HFO.out.rknd r (List.mem_of_getElem? HR.out))).mono ?_
     rintro ee w4 ⟨q,rfl,hq,hb4⟩
     have HB4:=Lib.hid (HBD.out.trans (hb4.mono HBD.out.size))
     have HQ:=Lib.hid hq
     clear hA0 hq hb4
     have hA0:=HAV.out _ HB4.out
     go_simp
     (refine hK _ _ ⟨hA0,fun h=>absurd (h.symm.trans (by kernel_rfl:_ = true)) Bool.false_ne_true⟩ ?_;clear hK K;(try simp only [Act.put,List.setIfInBounds_toArray,List.set_cons_zero,List.set_cons_succ]))
     (refine uA 8 ?_ rfl hA0 hB0 (fun W hA=>?_) ?_;rotate_left;(· (go_simp;try with_reducible rfl));(try simp only [Act.put,List.setIfInBounds_toArray,List.set_cons_zero,List.set_cons_succ]))
     refine anyU_done (by kernel_rfl) ?_ _
     clear hA0
     cases q with
     | false =>
      have HNV:=Lib.hid (show ¬ VOk z.m C.ce from fun h=>by have h1:=HQ.out.2 (h.rmv r (List.mem_of_getElem? HR.out));cases h1)
      go_wp2
      go_ret
      exact ⟨24,rfl,.inr ⟨HFE.out,.inr ⟨HNV.out,rfl⟩⟩,HB.out _ HB4.out⟩
     | true =>
      have HR9:=Lib.hid (show ∀ r ∈ C.rm.take (t + 1),ROk z.m C.ce r from fun y hy=>by
       rw [take_snoc' HR.out] at hy
       rcases List.mem_append.1 hy with hy | hy
       ·exact HRA.out y hy
       ·rw [List.mem_singleton.1 hy];exact HQ.out.1 rfl)
      go_wp2
      go_roundw
      case rel=>exact ⟨t + 1,by go_num,by omega,HR9,HB4⟩
      case measure=>simp [intOf];omega
end Go.Proofs.Ytdnmpndnpfklcaa

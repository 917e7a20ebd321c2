/- Walk: maximality.form. -/
import Derived.Test.YtdnmpndnpfklcaaXg
namespace Go.Proofs.Ytdnmpndnpfklcaa
open Go.RowKit Go Go.Maps
theorem rmErrG_range {n:Int} {q:Option Int} {l:List Rm} {j:Nat} {r:Rm} (h:l[j]? = some r) (hr:r.s < 0 ∨ n ≤ r.s):rmErrG n q (l.drop j) = 2:=by
 rw [drop_cons' h,rmErrG,if_pos hr]
theorem rmErrG_order {n v:Int} {l:List Rm} {j:Nat} {r:Rm} (h:l[j]? = some r) (hr:¬ (r.s < 0 ∨ n ≤ r.s)) (hv:r.s ≤ v):rmErrG n (some v) (l.drop j) = 5:=by
 rw [drop_cons' h,rmErrG,if_neg hr,if_pos (by simpa using hv)]
theorem rmErrG_kind {n:Int} {q:Option Int} {l:List Rm} {j:Nat} {r:Rm} (h:l[j]? = some r) (hr:¬ (r.s < 0 ∨ n ≤ r.s)) (hv:∀ v,q = some v → ¬ r.s ≤ v) (hk:r.r ≠ 1∧r.r ≠ 2∧r.r ≠ 3):rmErrG n q (l.drop j) = 11:=by
 rw [drop_cons' h,rmErrG,if_neg hr,if_neg,if_pos hk]
 cases q with
 | none=>simp
 | some v=>simpa using hv v rfl
theorem rmErrG_next {n:Int} {q:Option Int} {l:List Rm} {j:Nat} {r:Rm} (h:l[j]? = some r) (hr:¬ (r.s < 0 ∨ n ≤ r.s)) (hv:∀ v,q = some v → ¬ r.s ≤ v) (hk:¬ (r.r ≠ 1∧r.r ≠ 2∧r.r ≠ 3)):rmErrG n q (l.drop j) = rmErrG n (some r.s) (l.drop (j + 1)):=by
 rw [drop_cons' h,rmErrG,if_neg hr,if_neg,if_neg hk]
 cases q with
 | none=>simp
 | some v=>simpa using hv v rfl
def lastS (l:List Rm) (j:Nat):Option Int:=match j with
 | 0=>none
 | i + 1=>l[i]?.map (·.s)
set_option maxRecDepth 100000 in
set_option maxHeartbeats 3200000 in
theorem max_form (z:PB) (c:CV) (w:World) (hc:c.ok w w.heap.size) (hrn:c.rn ≤ 1000000) :
  Calls Try.prog 48 #[.agg (pbc z).toArray,.agg (cvc c).toArray] w fun e w'=>e = .returned (.int .i64 (frmE z.x.a.st c.ce))∧Below w.heap.size w w':=by
 have hb1:=box_below w (.cells (pbc z).toArray 34)
 have kx:=Blk.new w 34 (pbc z)
 obtain ⟨w1,hw1⟩:∃ w1,w1 = w.alloc (.cells (pbc z).toArray 34):=⟨_,rfl⟩
 rw [← hw1] at hb1 kx
 have hb2:=box_below w1 (.cells (cvc c).toArray 38)
 have kx2:=kx.below hb2 kx.lt
 have kc:=Blk.new w1 38 (cvc c)
 have hs1:w1.heap.size = w.heap.size + 1:=by rw [hw1];simp
 rw [hs1] at kc
 obtain ⟨w2,hw2⟩:∃ w2,w2 = w1.alloc (.cells (cvc c).toArray 38):=⟨_,rfl⟩
 rw [← hw2] at hb2 kx2 kc
 have hb12:=hb1.trans (hb2.mono hb1.size)
 have HZ:=Lib.hid (fun (W:World) (hb:Below w2.heap.size w2 W)=>(hc.below (hb12.trans (hb.mono hb12.size))).more (hb12.trans (hb.mono hb12.size)).size)
 have HK:=Lib.hid (fun (W:World) (hb:Below w2.heap.size w2 W)=>kx2.below hb kx2.lt)
 have HKC:=Lib.hid (fun (W:World) (hb:Below w2.heap.size w2 W)=>kc.below hb kc.lt)
 have HB:=Lib.hid (fun (W:World) (hb:Below w2.heap.size w2 W)=>hb12.trans (hb.mono hb12.size))
 have HW2:=Lib.hid (show (w.alloc (.cells (pbc z).toArray 34)).alloc (.cells (cvc c).toArray 38) = w2 by rw [hw2,hw1])
 have hrn':c.rn ≤ 1000000:=hrn
 clear hb1 hb2 hb12 kx kx2 kc hw1 hw2 hs1 hc
 obtain ⟨RES,hRES⟩:∃ r,frmE z.x.a.st c.ce = r:=⟨_,rfl⟩
 rw [hRES]
 obtain ⟨⟨KA,kn,kc,kl⟩,⟨DA,dn,dc,dl⟩,RA,rn,rc,l⟩:=c
 obtain ⟨⟨A,na,ca,M,nm,cm,E,ne,ce,a⟩,⟨UA,un,uc,ul⟩,FA,fn,fc,flx⟩:=z
 unfold pbc at HK HW2 ⊢
 unfold cvc at HKC HW2 ⊢
 unfold CV.ce at hRES
 dsimp only at HK HKC HW2 HZ hRES hrn' ⊢
 obtain ⟨sv,hsv⟩:∃ s,a.st = s:=⟨_,rfl⟩
 rw [hsv] at HK HW2 hRES ⊢
 have HRES:=Lib.hid hRES
 clear hRES hsv
 have hz0:=HZ.out w2 (Below.refl _ _)
 have HCS:=Lib.hid (alphabet_CheckSet_n KA kc kn kl sv _ w2 hz0.k.la rfl hz0.k.ra hz0.k.ac hz0.k.cA)
 have HKL:=Lib.hid hz0.k.la
 have HDL:=Lib.hid hz0.d.la
 have HRL:=Lib.hid hz0.rl
 obtain ⟨⟨_,a1,_,_,_⟩,_⟩:=Blk.c6 (HK.out w2 (Below.refl _ _))
 obtain ⟨c0,c1,c2⟩:=Blk.c3 (HKC.out w2 (Below.refl _ _))
 clear hz0
 go_enter Try.func48,Try.ntmps48
 go_upto_region 1 with fail
 rw [HW2.out]
 go_wp2_with fail
 refine HCS.out.mono ?_
 rintro _ w3 ⟨rfl,rfl⟩
 clear HCS
 by_cases he1:setErr kl sv = 0
 case neg =>
  have HR9:=Lib.hid (show RES = setErr kl sv by rw [← HRES.out];unfold frmE;rw [if_pos he1])
  obtain ⟨q,hq⟩:∃ q,setErr kl sv = q:=⟨_,rfl⟩
  rw [hq] at he1 HR9 ⊢
  have hq':(q == 0) = false:=by simpa using he1
  clear hq he1
  go_wp2
  go_ret
  exact ⟨ret_int HR9.out.symm,HB.out _ (Below.refl _ _)⟩
 have HE1:=Lib.hid he1
 rw [he1]
 clear he1
 by_cases hdk:dn = kn
 case neg =>
  have HR9:=Lib.hid (show RES = 4 by
   rw [← HRES.out]
   unfold frmE
   rw [if_neg (by rw [show setErr (Ce.mk kl dl l).kp sv = 0 by exact HE1.out];simp),if_pos]
   show dl.length ≠ kl.length
   rw [show dl.length = dn by exact HDL.out,show kl.length = kn by exact HKL.out]
   exact hdk)
  have b1:((dn:Int) == (kn:Int)) = false:=by simpa using (fun h:(dn:Int) = (kn:Int)=>hdk (by omega))
  have b2:¬ (dn:Int) = (kn:Int):=by omega
  clear hdk
  go_wp2
  go_ret
  exact ⟨ret_int HR9.out.symm,HB.out _ (Below.refl _ _)⟩
 have HR0:=Lib.hid (show rmErrG sv (lastS l 0) (l.drop 0) = RES by
  rw [← HRES.out]
  unfold frmE
  rw [if_neg (by rw [show setErr (Ce.mk kl dl l).kp sv = 0 by exact HE1.out];simp),if_neg]
  ·rfl
  show ¬ dl.length ≠ kl.length
  rw [show dl.length = dn by exact HDL.out,show kl.length = kn by exact HKL.out]
  exact fun h=>h hdk)
 subst hdk
 go_wp2
 clear a1 c0 c1 c2
 go_loopw [7,8,29] (fun s7 s8 s29 wr=>∃ (j:Nat) (v7 v8:Value),s7 = v7∧s8 = v8∧s29 = .int .i64 j∧j ≤ rn∧Hid (rmErrG sv (lastS l j) (l.drop j) = RES)∧Hid (Below w2.heap.size w2 wr)) (fun _ _ s29 _=>rn - (intOf s29).toNat)
 case atStart=>exact ⟨0,_,_,rfl,rfl,rfl,Nat.zero_le _,HR0,Lib.hid (Below.refl _ _)⟩
 case round =>
  clear HR0
  obtain ⟨j,v7,v8,rfl,rfl,rfl,hj,HR,HB1⟩:=hrel
  by_cases hlt:j < rn
  case neg =>
   obtain rfl:j = rn:=by omega
   have b1:¬ (j:Int) < (j:Int):=by omega
   have HR9:=Lib.hid (show RES = 0 by
    rw [← HR.out,List.drop_of_length_le (by rw [show l.length = j by exact HRL.out];exact Nat.le_refl _)]
    cases lastS l j <;> rfl)
   go_wp2
   go_ret
   exact ⟨ret_int HR9.out.symm,HB.out _ HB1.out⟩
  have b1:(j:Int) < (rn:Int):=by omega
  obtain ⟨ad,x,hA,hab,hx,hcl⟩:=(HZ.out wr HB1.out).rr.get (k:=j) (by rw [show l.length = rn by exact HRL.out];exact hlt)
  subst hA
  have g0:wr.cell? (ad.add (j * 4)) = some (.int .i64 x.s):=hcl 0 _ rfl
  have g1:wr.cell? ⟨(ad.add (j * 4)).block,(ad.add (j * 4)).off + 1,none⟩ = some (.int .i64 x.k):=st_cells (j:=0) (hcl 1 _ rfl)
  have g2:wr.cell? ⟨(ad.add (j * 4)).block,(ad.add (j * 4)).off + 2,none⟩ = some (.int .i64 x.r):=st_cells (j:=1) (hcl 2 _ rfl)
  have g3:wr.cell? ⟨(ad.add (j * 4)).block,(ad.add (j * 4)).off + 3,none⟩ = some (.int .i64 x.e):=st_cells (j:=2) (hcl 3 _ rfl)
  have hbx:=box_below wr (.cells #[.int .i64 x.s,.int .i64 x.k,.int .i64 x.r,.int .i64 x.e] 63)
  have ke:Blk (wr.alloc (.cells #[.int .i64 x.s,.int .i64 x.k,.int .i64 x.r,.int .i64 x.e] 63)) wr.heap.size 63 [.int .i64 x.s,.int .i64 x.k,.int .i64 x.r,.int .i64 x.e]:=Blk.new _ _ [_,_,_,_]
  have HB5:=Lib.hid (HB1.out.trans (hbx.mono HB1.out.size))
  have HX:=Lib.hid hx
  clear hcl hab hx hbx
  go_upto_region 10 with fail
  clear g0 g1 g2 g3
  generalize wr.heap.size = bx at ke ⊢
  generalize wr.alloc (.cells #[.int .i64 x.s,.int .i64 x.k,.int .i64 x.r,.int .i64 x.e] 63) = w5 at ke HB5 ⊢
  have e0:=ke.cell (j:=0) rfl
  have e2:=ke.cell (j:=2) rfl
  by_cases hs0:x.s < 0
  ·have HR9:=Lib.hid (show RES = 2 by rw [← HR.out];exact rmErrG_range HX.out (.inl hs0))
   go_wp2
   go_ret
   exact ⟨ret_int HR9.out.symm,HB.out _ HB5.out⟩
  by_cases hs1:sv ≤ x.s
  ·have HR9:=Lib.hid (show RES = 2 by rw [← HR.out];exact rmErrG_range HX.out (.inr hs1))
   go_wp2
   go_ret
   exact ⟨ret_int HR9.out.symm,HB.out _ HB5.out⟩
  have hrng:¬ (x.s < 0 ∨ sv ≤ x.s):=by omega
  obtain ⟨xr,hxr⟩:∃ q,x.r = q:=⟨_,rfl⟩
  rw [hxr] at ke e2
  have HXR:=Lib.hid hxr
  clear hxr
  go_upto_region 12 with fail
  have HB6:=Lib.hid (HB5.out.trans ((below_dr w5).mono HB5.out.size))
  have k6:=ke.below (below_dr w5) ke.lt
  clear e0 e2 ke hs0 hs1 HB5 HB1
  rcases Nat.eq_zero_or_pos j with hj0 | hj0
  ·have b2:¬ (0:Int) < (j:Int):=by omega
   have b3:¬ 0 < j:=by omega
   have HJ0:=Lib.hid hj0;clear hj0
   have HNO:=Lib.hid (show ∀ v,lastS l j = some v → ¬ x.s ≤ v from fun v hv=>by rw [HJ0.out] at hv;cases hv)
   refine wp_region_U (fun _=>True) (fun _=>True) 99 (by kernel_rfl) ?_
   change anyU _ _ _ _ _ _ _ 15 _ _ _
   generalize w5.drew = w6 at HB6 k6 ⊢
   have hA0:True:=trivial
   have hB0:True:=trivial
   (refine uA 0 ?_ rfl hA0 hB0 (fun W hA=>?_) ?_;rotate_left;(· (go_simp;try with_reducible rfl));refine uA 1 ?_ rfl hA0 hB0 (fun W hA=>?_) ?_;rotate_left;(· (go_simp;try with_reducible rfl));refine uA 2 ?_ rfl hA0 hB0 (fun W hA=>?_) ?_;rotate_left;(· (go_simp;try with_reducible rfl));(try simp only [Act.put,List.setIfInBounds_toArray,List.set_cons_zero,List.set_cons_succ]))
   (refine uS 3 rfl hA0 hB0 ?_;refine uS 4 rfl hA0 hB0 ?_;refine uS 5 rfl hA0 hB0 ?_;(try simp only [Act.put,List.setIfInBounds_toArray,List.set_cons_zero,List.set_cons_succ]))
   (refine uS 6 rfl hA0 hB0 ?_;refine uS 7 rfl hA0 hB0 ?_;refine uS 8 rfl hA0 hB0 ?_;(try simp only [Act.put,List.setIfInBounds_toArray,List.set_cons_zero,List.set_cons_succ]))
   (refine uS 9 rfl hA0 hB0 ?_;refine uS 10 rfl hA0 hB0 ?_;refine uS 11 rfl hA0 hB0 ?_;(try simp only [Act.put,List.setIfInBounds_toArray,List.set_cons_zero,List.set_cons_succ]))
   (refine uS 12 rfl hA0 hB0 ?_;(try simp only [Act.put,List.setIfInBounds_toArray,List.set_cons_zero,List.set_cons_succ]))
   (refine uA 13 ?_ rfl hA0 hB0 (fun W hA=>?_) ?_;rotate_left;(· (go_simp;try with_reducible rfl));refine uA 14 ?_ rfl hA0 hB0 (fun W hA=>?_) ?_;rotate_left;(· (go_simp;try with_reducible rfl));(try simp only [Act.put,List.setIfInBounds_toArray,List.set_cons_zero,List.set_cons_succ]))
   refine anyU_done (by kernel_rfl) ?_ _
   have e2:=k6.cell (j:=2) rfl
   clear hA0 hB0 k6
   have HBF:=Lib.hid (HB.out _ HB6.out)
   have HKX:Hid (∀ v,lastS l j = some v → ¬ x.s ≤ v):=HNO
   by_cases hk3:x.r ≠ 1∧x.r ≠ 2∧x.r ≠ 3
   ·have HR9:=Lib.hid (show RES = 11 by rw [← HR.out];exact rmErrG_kind HX.out hrng HKX.out hk3)
    obtain ⟨k1,k2,k3⟩:=hk3
    rw [HXR.out] at k1 k2 k3
    have k1':(xr != 1) = true:=by simpa using k1
    have k2':(xr != 2) = true:=by simpa using k2
    have k3':(xr != 3) = true:=by simpa using k3
    go_wp2
    go_ret
    exact ⟨ret_int HR9.out.symm,HBF.out⟩
   have HR9:=Lib.hid (show rmErrG sv (lastS l (j + 1)) (l.drop (j + 1)) = RES by
    rw [← HR.out,rmErrG_next HX.out hrng HKX.out hk3]
    show rmErrG sv (l[j]?.map (·.s)) _ = _
    rw [HX.out];rfl)
   by_cases k1:xr = 1
   ·have k1':(xr == 1) = true:=by simpa using k1
    have K1:=Lib.hid k1;clear k1
    clear hk3
    go_wp2
    go_roundw
    case rel=>exact ⟨j + 1,_,_,rfl,rfl,by go_num,by omega,HR9,HB6⟩
    case measure=>simp [intOf];omega
   have k1':(xr != 1) = true:=by simpa using k1
   by_cases k2:xr = 2
   ·have k2':(xr == 2) = true:=by simpa using k2
    have K2:=Lib.hid k2;clear k2
    clear hk3
    go_wp2
    go_roundw
    case rel=>exact ⟨j + 1,_,_,rfl,rfl,by go_num,by omega,HR9,HB6⟩
    case measure=>simp [intOf];omega
   have k2':(xr != 2) = true:=by simpa using k2
   have k3:xr = 3:=by
    rw [HXR.out] at hk3
    omega
   subst k3
   clear hk3 k1 k1' k2 k2'
   go_wp2
   go_roundw
   case rel=>exact ⟨j + 1,_,_,rfl,rfl,by go_num,by omega,HR9,HB6⟩
   case measure=>simp [intOf];omega
  ·obtain ⟨i,hi⟩:∃ i,i + 1 = j:=⟨j - 1,by omega⟩
   obtain ⟨ad2,y,hA2,hab2,hy,hc2⟩:=(HZ.out _ HB6.out).rr.get (k:=i) (by rw [show l.length = rn by exact HRL.out];omega)
   obtain rfl:ad = ad2:=by injection hA2
   have y0:w5.drew.cell? (ad.add (i * 4)) = some (.int .i64 y.s):=hc2 0 _ rfl
   obtain ⟨_,_,c2⟩:=Blk.c3 (HKC.out _ HB6.out)
   have b2:(0:Int) < (j:Int):=by omega
   have b3:(i:Int) < (rn:Int):=by omega
   have b4:¬ (i:Int) < 0:=by omega
   have hwn:IntKind.i64.wrap ((j:Int) - 1) = (i:Int):=by rw [IntWalk.i64_in _ (by omega)];omega
   have HY:=Lib.hid hy
   obtain ⟨ys,hys⟩:∃ q,y.s = q:=⟨_,rfl⟩
   rw [hys] at y0
   have HYS:=Lib.hid hys
   have HLS:=Lib.hid (show lastS l j = some ys by rw [← hi];show l[i]?.map (·.s) = _;rw [HY.out,← HYS.out];rfl)
   have e06:=k6.cell (j:=0) rfl
   clear hc2 hab2 hy hys hA2 hi
   refine wp_region_U (fun V=>V.cell? (ad.add (i * 4)) = some (.int .i64 ys)∧V.cell? ⟨w.heap.size + 1,2,none⟩ = some (.slice (some ad) rn rc)∧V.cell? ⟨bx,0,none⟩ = some (.int .i64 x.s)) (fun _=>True) 99 (by kernel_rfl) ?_
   change anyU _ _ _ _ _ _ _ 15 _ _ _
   have hA0:w5.drew.cell? (ad.add (i * 4)) = some (.int .i64 ys)∧w5.drew.cell? ⟨w.heap.size + 1,2,none⟩ = some (.slice (some ad) rn rc)∧w5.drew.cell? ⟨bx,0,none⟩ = some (.int .i64 x.s):=⟨y0,c2,e06⟩
   clear y0 c2 e06
   generalize w5.drew = w6 at HB6 k6 hA0 ⊢
   have hB0:True:=trivial
   (refine uA 0 ?_ rfl hA0 hB0 (fun W hA=>?_) ?_;rotate_left;(· (go_simp;try with_reducible rfl));refine uA 1 ?_ rfl hA0 hB0 (fun W hA=>?_) ?_;rotate_left;(· (go_simp;try with_reducible rfl));refine uA 2 ?_ rfl hA0 hB0 (fun W hA=>?_) ?_;rotate_left;(· (go_simp;try with_reducible rfl));(try simp only [Act.put,List.setIfInBounds_toArray,List.set_cons_zero,List.set_cons_succ]))
   (refine uA 3 ?_ rfl hA0 hB0 (fun W hA=>?_) ?_;rotate_left;(· (go_simp;try with_reducible rfl));(try simp only [Act.put,List.setIfInBounds_toArray,List.set_cons_zero,List.set_cons_succ]))
   (refine uA 4 ?_ rfl hA0 hB0 (fun W hA=>?_) ?_;rotate_left;(· (obtain ⟨a0,a1,a2⟩:=hA;go_simp;try with_reducible rfl));(try simp only [Act.put,List.setIfInBounds_toArray,List.set_cons_zero,List.set_cons_succ]))
   (refine uA 5 ?_ rfl hA0 hB0 (fun W hA=>?_) ?_;rotate_left;(· (go_simp;try with_reducible rfl));(try simp only [Act.put,List.setIfInBounds_toArray,List.set_cons_zero,List.set_cons_succ]))
   (refine uA 6 ?_ rfl hA0 hB0 (fun W hA=>?_) ?_;rotate_left;(· (obtain ⟨a0,a1,a2⟩:=hA;go_simp;try with_reducible rfl));(try simp only [Act.put,List.setIfInBounds_toArray,List.set_cons_zero,List.set_cons_succ]))
   (refine uA 7 ?_ rfl hA0 hB0 (fun W hA=>?_) ?_;rotate_left;(· (go_simp;try with_reducible rfl));refine uA 8 ?_ rfl hA0 hB0 (fun W hA=>?_) ?_;rotate_left;(· (go_simp;try with_reducible rfl));refine uA 9 ?_ rfl hA0 hB0 (fun W hA=>?_) ?_;rotate_left;(· (go_simp;try with_reducible rfl));(try simp only [Act.put,List.setIfInBounds_toArray,List.set_cons_zero,List.set_cons_succ]))
   (refine uA 10 ?_ rfl hA0 hB0 (fun W hA=>?_) ?_;rotate_left;(· (go_simp;try with_reducible rfl));(try simp only [Act.put,List.setIfInBounds_toArray,List.set_cons_zero,List.set_cons_succ]))
   (refine uA 11 ?_ rfl hA0 hB0 (fun W hA=>?_) ?_;rotate_left;(· (obtain ⟨a0,a1,a2⟩:=hA;go_simp;try with_reducible rfl));(try simp only [Act.put,List.setIfInBounds_toArray,List.set_cons_zero,List.set_cons_succ]))
   by_cases hle:x.s ≤ ys
   ·have HR9:=Lib.hid (show RES = 5 by rw [← HR.out,HLS.out];exact rmErrG_order HX.out hrng hle)
    (refine uA 12 ?_ rfl hA0 hB0 (fun W hA=>?_) ?_;rotate_left;(· (go_simp;try with_reducible rfl));(try simp only [Act.put,List.setIfInBounds_toArray,List.set_cons_zero,List.set_cons_succ]))
    (refine uA 13 ?_ rfl hA0 hB0 (fun W hA=>?_) ?_;rotate_left;(· (go_simp;try with_reducible rfl));refine uA 14 ?_ rfl hA0 hB0 (fun W hA=>?_) ?_;rotate_left;(· (go_simp;try with_reducible rfl));(try simp only [Act.put,List.setIfInBounds_toArray,List.set_cons_zero,List.set_cons_succ]))
    refine anyU_done (by kernel_rfl) ?_ _
    clear hA0 hB0 k6
    have HBF:=Lib.hid (HB.out _ HB6.out)
    go_wp2
    go_ret
    exact ⟨ret_int HR9.out.symm,HBF.out⟩
   ·have HNO:=Lib.hid (show ∀ v,lastS l j = some v → ¬ x.s ≤ v from fun v hv=>by
     rw [HLS.out] at hv
     injection hv with hv
     rw [← hv]
     exact hle)
    (refine uA 12 ?_ rfl hA0 hB0 (fun W hA=>?_) ?_;rotate_left;(· (go_simp;try with_reducible rfl));(try simp only [Act.put,List.setIfInBounds_toArray,List.set_cons_zero,List.set_cons_succ]))
    (refine uA 13 ?_ rfl hA0 hB0 (fun W hA=>?_) ?_;rotate_left;(· (go_simp;try with_reducible rfl));refine uA 14 ?_ rfl hA0 hB0 (fun W hA=>?_) ?_;rotate_left;(· (go_simp;try with_reducible rfl));(try simp only [Act.put,List.setIfInBounds_toArray,List.set_cons_zero,List.set_cons_succ]))
    refine anyU_done (by kernel_rfl) ?_ _
    have e2:=k6.cell (j:=2) rfl
    clear hA0 hB0 k6
    have HBF:=Lib.hid (HB.out _ HB6.out)
    have HKX:Hid (∀ v,lastS l j = some v → ¬ x.s ≤ v):=HNO
    by_cases hk3:x.r ≠ 1∧x.r ≠ 2∧x.r ≠ 3
    ·have HR9:=Lib.hid (show RES = 11 by rw [← HR.out];exact rmErrG_kind HX.out hrng HKX.out hk3)
     obtain ⟨k1,k2,k3⟩:=hk3
     rw [HXR.out] at k1 k2 k3
     have k1':(xr != 1) = true:=by simpa using k1
     have k2':(xr != 2) = true:=by simpa using k2
     have k3':(xr != 3) = true:=by simpa using k3
     go_wp2
     go_ret
     exact ⟨ret_int HR9.out.symm,HBF.out⟩
    have HR9:=Lib.hid (show rmErrG sv (lastS l (j + 1)) (l.drop (j + 1)) = RES by
     rw [← HR.out,rmErrG_next HX.out hrng HKX.out hk3]
     show rmErrG sv (l[j]?.map (·.s)) _ = _
     rw [HX.out];rfl)
    by_cases k1:xr = 1
    ·have k1':(xr == 1) = true:=by simpa using k1
     have K1:=Lib.hid k1;clear k1
     clear hk3
     go_wp2
     go_roundw
     case rel=>exact ⟨j + 1,_,_,rfl,rfl,by go_num,by omega,HR9,HB6⟩
     case measure=>simp [intOf];omega
    have k1':(xr != 1) = true:=by simpa using k1
    by_cases k2:xr = 2
    ·have k2':(xr == 2) = true:=by simpa using k2
     have K2:=Lib.hid k2;clear k2
     clear hk3
     go_wp2
     go_roundw
     case rel=>exact ⟨j + 1,_,_,rfl,rfl,by go_num,by omega,HR9,HB6⟩
     case measure=>simp [intOf];omega
    have k2':(xr != 2) = true:=by simpa using k2
    have k3:xr = 3:=by
     rw [HXR.out] at hk3
     omega
    subst k3
    clear hk3 k1 k1' k2 k2'
    go_wp2
    go_roundw
    case rel=>exact ⟨j + 1,_,_,rfl,rfl,by go_num,by omega,HR9,HB6⟩
    case measure=>simp [intOf];omega
end Go.Proofs.Ytdnmpndnpfklcaa

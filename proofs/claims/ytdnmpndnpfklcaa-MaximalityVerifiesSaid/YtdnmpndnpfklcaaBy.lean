/- The law's removes. -/
import Derived.Test.YtdnmpndnpfklcaaBx
namespace Go.Proofs.Ytdnmpndnpfklcaa
open Go.RowKit Go Go.Maps
def UnW (p:Mx) (c:Ce) (r:Rm) (x:Ed):Prop:=x.f = r.s∧x.e = r.e∧hasB p.u r.e = true∧∃ y,rmOf c x.t = some y∧y.k < r.k
def BlW (c:Ce) (r:Rm) (x:Ed):Prop:=x.f = r.s → ∃ y,rmOf c x.t = some y∧(y.k < r.k ∨ (y.k = r.k∧y.r = 3))
theorem removes_un {p:Mx} {c:Ce} {r:Rm} {q:Bool} (hf:FOk p.a.st c) (hk:1 ≤ r.k∧r.k ≤ 4097) (h2:r.r = 2) (hq:q = true ↔ ∃ x ∈ p.a.ed,UnW p c r x):q = true ↔ ROk p c r:=by
 rw [hq]
 constructor
 ·rintro ⟨x,hx,h3,h4,h5,y,h6,h7⟩
  obtain ⟨h8,h9⟩:=(rmOf_some hf).1 h6
  exact ⟨hk,fun h=>by omega,fun _=>⟨x,hx,h3,h4,by rw [h4];exact h5,y,h8,h9,h7⟩,fun h=>by omega⟩
 ·intro h
  obtain ⟨x,hx,h3,h4,h5,y,h6,h7,h8⟩:=h.un h2
  exact ⟨x,hx,h3,h4,by rw [← h4];exact h5,y,(rmOf_some hf).2 ⟨h6,h7⟩,h8⟩
theorem removes_bl {p:Mx} {c:Ce} {r:Rm} {q:Bool} (hk:1 ≤ r.k∧r.k ≤ 4097) (hf:FOk p.a.st c) (h3:r.r = 3) (he:r.e = -1) (hm:hasB p.a.ma r.s = false) (hq:q = true ↔ ∀ x ∈ p.a.ed,BlW c r x):q = true ↔ ROk p c r:=by
 rw [hq]
 constructor
 ·intro h
  refine ⟨hk,fun h=>by omega,fun h=>by omega,fun _=>⟨he,fun h9=>?_,fun x hx hxf=>?_⟩⟩
  ·rw [hasB_mem.2 h9] at hm;cases hm
  ·obtain ⟨y,h6,h7⟩:=h x hx hxf
   obtain ⟨h8,h9⟩:=(rmOf_some hf).1 h6
   exact ⟨y,h8,h9,h7⟩
 ·intro h x hx hxf
  obtain ⟨y,h6,h7,h8⟩:=(h.bl h3).2.2 x hx hxf
  exact ⟨y,(rmOf_some hf).2 ⟨h6,h7⟩,h8⟩
theorem removes_fo {p:Mx} {c:Ce} {r:Rm} (hk:1 ≤ r.k∧r.k ≤ 4097) (h1:r.r = 1):(r.e = -1∧hasB p.f r.s = true) ↔ ROk p c r:=by
 constructor
 ·rintro ⟨h2,h3⟩
  exact ⟨hk,fun _=>⟨h2,hasB_mem.1 h3⟩,fun h=>by omega,fun h=>by omega⟩
 ·intro h
  exact ⟨(h.fo h1).1,hasB_mem.2 (h.fo h1).2⟩
set_option maxRecDepth 100000 in
set_option maxHeartbeats 6400000 in
theorem law_removes (z:PB) (C:CV) (r:Rm) (w:World) (h:z.ok w w.heap.size) (hc:C.ok w w.heap.size) (hf:FOk z.m.a.st C.ce) (hr:r.r = 1 ∨ r.r = 2 ∨ r.r = 3) :
  Calls Try.prog 53 #[.agg (pbc z).toArray,.agg (cvc C).toArray,.agg (rmc r).toArray] w (RetB (ROk z.m C.ce r) w):=by
 obtain ⟨rs,rk,rr,re⟩:=r
 have hb1:=box_below w (.cells (pbc z).toArray 34)
 have kx:=Blk.new w 34 (pbc z)
 obtain ⟨w1,hw1⟩:∃ w1,w1 = w.alloc (.cells (pbc z).toArray 34):=⟨_,rfl⟩
 rw [← hw1] at hb1 kx
 have hb2:=box_below w1 (.cells (cvc C).toArray 38)
 have kx2:=kx.below hb2 kx.lt
 have kc:=Blk.new w1 38 (cvc C)
 have hs1:w1.heap.size = w.heap.size + 1:=by rw [hw1];simp
 rw [hs1] at kc
 obtain ⟨w2,hw2⟩:∃ w2,w2 = w1.alloc (.cells (cvc C).toArray 38):=⟨_,rfl⟩
 rw [← hw2] at hb2 kx2 kc
 have hs2:w2.heap.size = w.heap.size + 2:=by rw [hw2];simp [hs1]
 have hb3:=box_below w2 (.cells #[.int .i64 rs,.int .i64 rk,.int .i64 rr,.int .i64 re] 63)
 have kx3:=kx2.below hb3 kx2.lt
 have kc3:=kc.below hb3 kc.lt
 have kr:=Blk.new w2 63 [.int .i64 rs,.int .i64 rk,.int .i64 rr,.int .i64 re]
 rw [hs2] at kr
 obtain ⟨w3,hw3⟩:∃ w3,w3 = w2.alloc (.cells #[.int .i64 rs,.int .i64 rk,.int .i64 rr,.int .i64 re] 63):=⟨_,rfl⟩
 have hb123:=(hb1.trans (hb2.mono hb1.size)).trans (hb3.mono (hb1.trans (hb2.mono hb1.size)).size)
 rw [← hw3] at hb123 kx3 kc3
 have kr3:Blk w3 (w.heap.size + 2) 63 [.int .i64 rs,.int .i64 rk,.int .i64 rr,.int .i64 re]:=by rw [hw3];exact kr
 have HZ:=Lib.hid (fun (W:World) (hb:Below w3.heap.size w3 W)=>(h.below (hb123.trans (hb.mono hb123.size))).more (hb123.trans (hb.mono hb123.size)).size)
 have HC:=Lib.hid (fun (W:World) (hb:Below w3.heap.size w3 W)=>(hc.below (hb123.trans (hb.mono hb123.size))).more (hb123.trans (hb.mono hb123.size)).size)
 have HKP:=Lib.hid (fun (W:World) (hb:Below w3.heap.size w3 W)=>Blk.c6 (kx3.below hb kx3.lt))
 have HKC:=Lib.hid (fun (W:World) (hb:Below w3.heap.size w3 W)=>Blk.c3 (kc3.below hb kc3.lt))
 have HKR:=Lib.hid (fun (W:World) (hb:Below w3.heap.size w3 W)=>Blk.c4 (kr3.below hb kr3.lt))
 have HB:=Lib.hid (fun (W:World) (hb:Below w3.heap.size w3 W)=>hb123.trans (hb.mono hb123.size))
 have HW3:=Lib.hid (show ((w.alloc (.cells (pbc z).toArray 34)).alloc (.cells (cvc C).toArray 38)).alloc (.cells #[.int .i64 rs,.int .i64 rk,.int .i64 rr,.int .i64 re] 63) = w3 by rw [hw3,hw2,hw1])
 have HEL:=Lib.hid (show z.m.a.ed.length = z.x.ne from h.x.le)
 have hec:z.x.ne ≤ z.x.ce:=h.x.ec
 have hec2:z.x.ce ≤ 9223372036854775807:=h.x.cE
 have HPV:=Lib.hid (show pbc z = [.slice z.x.A z.x.na z.x.ca,.int .i64 z.x.a.st,.slice z.x.M z.x.nm z.x.cm,.slice z.x.E z.x.ne z.x.ce,.slice z.u.A z.u.n z.u.c,.slice z.f.A z.f.n z.f.c] from rfl)
 have HCV:=Lib.hid (show cvc C = [.slice C.k.A C.k.n C.k.c,.slice C.d.A C.d.n C.d.c,.slice C.R C.rn C.rc] from rfl)
 have HRE:=Lib.hid (show rmc ⟨rs,rk,rr,re⟩ = [.int .i64 rs,.int .i64 rk,.int .i64 rr,.int .i64 re] from rfl)
 have HF:=Lib.hid hf
 clear hb1 kx hw1 hb2 kx2 kc hw2 hs1 hs2 hb3 kx3 kc3 kr kr3 hw3 hb123 h hc hf
 rw [HPV.out] at HW3 ⊢
 rw [HCV.out] at HW3 ⊢
 rw [HRE.out]
 unfold pbc at HKP
 unfold cvc at HKC
 dsimp only at hr
 go_enter Try.func53,Try.ntmps53
 go_upto_region 1 with fail
 rw [HW3.out]
 obtain ⟨⟨a0,a1,a2,a3,a4⟩,a5⟩:=HKP.out w3 (Below.refl _ _)
 obtain ⟨c0,c1,c2⟩:=HKC.out w3 (Below.refl _ _)
 obtain ⟨d0,d1,d2,d3⟩:=HKR.out w3 (Below.refl _ _)
 by_cases hk0:rk < 1
 case pos =>
  have HN9:=Lib.hid (show ¬ ROk z.m C.ce ⟨rs,rk,rr,re⟩ from fun h=>by have h1:1 ≤ rk:=h.rk.1;omega)
  go_wp2
  go_ret
  exact ⟨false,rfl,⟨(fun h=>by cases h),fun h=>absurd h HN9.out⟩,HB.out _ (Below.refl _ _)⟩
 by_cases hk1:rk > 4097
 case pos =>
  have HN9:=Lib.hid (show ¬ ROk z.m C.ce ⟨rs,rk,rr,re⟩ from fun h=>by have h1:rk ≤ 4097:=h.rk.2;omega)
  go_wp2
  go_ret
  exact ⟨false,rfl,⟨(fun h=>by cases h),fun h=>absurd h HN9.out⟩,HB.out _ (Below.refl _ _)⟩
 rcases hr with rfl | rfl | rfl
 ·have HFO:=Lib.hid (show (re = -1∧hasB z.m.f rs = true) ↔ ROk z.m C.ce ⟨rs,rk,1,re⟩ from removes_fo (r:=⟨rs,rk,1,re⟩) ⟨by show 1 ≤ rk;omega,by show rk ≤ 4097;omega⟩ rfl)
  by_cases he:re = -1
  case neg =>
   have he':(re == -1) = false:=by rw [beq_eq_false_iff_ne];exact he
   have HN9:=Lib.hid (show ¬ ROk z.m C.ce ⟨rs,rk,1,re⟩ from fun h=>he (HFO.out.2 h).1)
   clear he
   go_wp2
   go_ret
   exact ⟨false,rfl,⟨(fun h=>by cases h),fun h=>absurd h HN9.out⟩,HB.out _ (Below.refl _ _)⟩
  subst he
  obtain ⟨q,hq⟩:∃ q,hasB z.f.l rs = q:=⟨_,rfl⟩
  have hff:=(HZ.out w3 (Below.refl _ _)).f
  have HH:=Lib.hid (law_has z.f.A z.f.c z.f.n z.f.l rs q w3 hff.la hff.ra (Nat.le_trans hff.ac hff.cA) hq)
  have HQ:=Lib.hid (show hasB z.m.f rs = q from hq)
  clear hff hq
  go_wp2_with fail
  refine HH.out.mono ?_
  rintro e w6 ⟨rfl,rfl⟩
  go_wp2
  go_ret
  exact ⟨q,rfl,⟨fun h=>HFO.out.1 ⟨by first | rfl | trivial,by rw [HQ.out];exact h⟩,fun h=>by rw [← HQ.out];exact (HFO.out.2 h).2⟩,HB.out _ (Below.refl _ _)⟩
 ·have HN0:=Lib.hid (show ∀ x ∈ z.m.a.ed.take 0,¬ UnW z.m C.ce ⟨rs,rk,2,re⟩ x from fun y hy=>by simp at hy)
  go_wp2
  clear a0 a1 a2 a3 a4 a5 c0 c1 c2 d0 d1 d2 d3
  go_loopw [7,8,9,10] (fun s1 s2 s3 s4 wr=>∃ (k:Nat) (v2 v3 v4:Value),s1 = .int .i64 k∧s2 = v2∧s3 = v3∧s4 = v4∧k ≤ z.x.ne∧Hid (∀ x ∈ z.m.a.ed.take k,¬ UnW z.m C.ce ⟨rs,rk,2,re⟩ x)∧Hid (Below w3.heap.size w3 wr)) (fun s1 _ _ _ _=>z.x.ne - (intOf s1).toNat)
  case atStart=>exact ⟨0,_,_,_,rfl,rfl,rfl,rfl,Nat.zero_le _,HN0,Lib.hid (Below.refl _ _)⟩
  case round =>
   clear HN0
   obtain ⟨k,v2,v3,v4,rfl,rfl,rfl,rfl,hk,HNO,HBL⟩:=hrel
   obtain ⟨⟨a0,a1,a2,a3,a4⟩,a5⟩:=HKP.out wr HBL.out
   by_cases hlt:k < z.x.ne
   case neg =>
    obtain rfl:k = z.x.ne:=by omega
    have b1:¬ (z.x.ne:Int) < (z.x.ne:Int):=by omega
    have HALL:=Lib.hid (show ∀ x ∈ z.m.a.ed,¬ UnW z.m C.ce ⟨rs,rk,2,re⟩ x from fun x hx=>HNO.out x (by rw [List.take_of_length_le (by rw [HEL.out];exact Nat.le_refl _)];exact hx))
    have HFIN:=Lib.hid (show false = true ↔ ROk z.m C.ce ⟨rs,rk,2,re⟩ from removes_un HF.out ⟨by show 1 ≤ rk;omega,by show rk ≤ 4097;omega⟩ rfl ⟨(fun h=>by cases h),fun ⟨x,hx,h⟩=>absurd h (HALL.out x hx)⟩)
    go_wp2
    go_ret
    exact ⟨false,rfl,HFIN.out,HB.out _ HBL.out⟩
   have b1:(k:Int) < (z.x.ne:Int):=by omega
   obtain ⟨ad,x,hA,_,hx,g0,g1,g2⟩:=(HZ.out wr HBL.out).x.re.at_ (k:=k) (by show k < z.m.a.ed.length;rw [HEL.out];exact hlt)
   rw [hA] at a3
   have r1:wr.cell? ⟨(ad.add (k * 3)).block,(ad.add (k * 3)).off + 1,none⟩ = some (.int .i64 x.e):=st_cells (j:=0) g1
   have r2:wr.cell? ⟨(ad.add (k * 3)).block,(ad.add (k * 3)).off + 2,none⟩ = some (.int .i64 x.t):=st_cells (j:=1) g2
   have HX:=Lib.hid (show z.m.a.ed[k]? = some x from hx)
   have hbx:=box_below wr (.cells #[.int .i64 x.f,.int .i64 x.e,.int .i64 x.t] 67)
   have ke:Blk (wr.alloc (.cells #[.int .i64 x.f,.int .i64 x.e,.int .i64 x.t] 67)) wr.heap.size 67 [.int .i64 x.f,.int .i64 x.e,.int .i64 x.t]:=Blk.new _ _ [_,_,_]
   have HB5:=Lib.hid (HBL.out.trans (hbx.mono HBL.out.size))
   clear hA hx hbx HBL
   go_upto_region 11 with fail
   clear g0 g1 g2 r1 r2 a0 a1 a2 a3 a4 a5
   generalize wr.heap.size = bx at ke ⊢
   generalize wr.alloc (.cells #[.int .i64 x.f,.int .i64 x.e,.int .i64 x.t] 67) = w5 at ke HB5 ⊢
   have HKE:=Lib.hid (fun (W:World) (hb:Below w5.heap.size w5 W)=>Blk.c3 (ke.below hb ke.lt))
   clear ke
   have HNX:=Lib.hid (show (¬ UnW z.m C.ce ⟨rs,rk,2,re⟩ x) → ∀ x ∈ z.m.a.ed.take (k + 1),¬ UnW z.m C.ce ⟨rs,rk,2,re⟩ x from fun h9 y hy=>by
    rw [take_snoc' HX.out] at hy
    rcases List.mem_append.1 hy with hy | hy
    ·exact HNO.out y hy
    ·rw [List.mem_singleton.1 hy];exact h9)
   obtain ⟨e0,e1,e2⟩:=HKE.out w5 (Below.refl _ _)
   obtain ⟨c0,c1,c2⟩:=HKC.out w5 HB5.out
   obtain ⟨d0,d1,d2,d3⟩:=HKR.out w5 HB5.out
   have HRV:=Lib.hid (law_removal C x.t w5 (HC.out w5 HB5.out))
   rw [HCV.out] at HRV
   obtain ⟨O,hO⟩:∃ q,rmOf C.ce x.t = q:=⟨_,rfl⟩
   rw [hO] at HRV
   have HO:=Lib.hid hO
   clear hO
   obtain ⟨ys,yk,yr,ye,b,hrv,hob⟩:∃ (ys yk yr ye:Int) (b:Bool),rmV O = .tuple #[.agg #[.int .i64 ys,.int .i64 yk,.int .i64 yr,.int .i64 ye],.bool b]∧((O = none∧b = false) ∨ (O = some ⟨ys,yk,yr,ye⟩∧b = true)):=by
    cases O with
    | none=>exact ⟨0,0,0,0,false,rfl,.inl ⟨rfl,rfl⟩⟩
    | some y=>exact ⟨y.s,y.k,y.r,y.e,true,rfl,.inr ⟨rfl,rfl⟩⟩
   have HOB:=Lib.hid hob
   rw [hrv] at HRV
   clear hrv hob
   go_wp2_with fail
   refine HRV.out.mono ?_
   rintro e wv ⟨rfl,hbv⟩
   have HBV:=Lib.hid (HB5.out.trans (hbv.mono HB5.out.size))
   have kn:=Blk.new wv 63 [.int .i64 ys,.int .i64 yk,.int .i64 yr,.int .i64 ye]
   have hbn:=box_below wv (.cells #[.int .i64 ys,.int .i64 yk,.int .i64 yr,.int .i64 ye] 63)
   have HBN:=Lib.hid (HBV.out.trans (hbn.mono HBV.out.size))
   have HBE:=Lib.hid (hbv.trans (hbn.mono hbv.size))
   clear c0 c1 c2 d0 d1 d2 d3 e0 e1 e2 hbv hbn HRV HBV
   go_upto_region 12 with fail
   generalize wv.heap.size = bN at kn ⊢
   generalize wv.alloc (.cells #[.int .i64 ys,.int .i64 yk,.int .i64 yr,.int .i64 ye] 63) = wn at kn HBN HBE ⊢
   obtain ⟨f0,f1,f2,f3⟩:=Blk.c4 kn
   obtain ⟨e0,e1,e2⟩:=HKE.out wn HBE.out
   obtain ⟨d0,d1,d2,d3⟩:=HKR.out wn HBN.out
   obtain ⟨⟨a0,a1,a2,a3,a4⟩,a5⟩:=HKP.out wn HBN.out
   clear kn
   by_cases hf:x.f = rs
   case neg =>
    have hf':(x.f == rs) = false:=by rw [beq_eq_false_iff_ne];exact hf
    have HF0:=Lib.hid hf;clear hf
    have HN9:=Lib.hid (HNX.out (fun h=>HF0.out h.1))
    go_wp2
    go_roundw
    case rel=>exact ⟨k + 1,_,_,_,by go_num,rfl,rfl,rfl,by omega,HN9,HBN⟩
    case measure=>simp [intOf];omega
   have hf':(x.f == rs) = true:=by simpa using hf
   have HF0:=Lib.hid hf;clear hf
   by_cases he:x.e = re
   case neg =>
    have he':(x.e == re) = false:=by rw [beq_eq_false_iff_ne];exact he
    have HE0:=Lib.hid he;clear he
    have HN9:=Lib.hid (HNX.out (fun h=>HE0.out h.2.1))
    go_wp2
    go_roundw
    case rel=>exact ⟨k + 1,_,_,_,by go_num,rfl,rfl,rfl,by omega,HN9,HBN⟩
    case measure=>simp [intOf];omega
   have he':(x.e == re) = true:=by simpa using he
   have HE0:=Lib.hid he;clear he
   obtain ⟨q,hq⟩:∃ q,hasB z.u.l re = q:=⟨_,rfl⟩
   have hu:=(HZ.out wn HBN.out).u
   have HU:=Lib.hid (law_has z.u.A z.u.c z.u.n z.u.l re q wn hu.la hu.ra (Nat.le_trans hu.ac hu.cA) hq)
   have HQ:=Lib.hid (show hasB z.m.u re = q from hq)
   clear hu hq
   go_wp2_with fail
   refine HU.out.mono ?_
   rintro e w6 ⟨rfl,rfl⟩
   clear HU
   cases q with
   | false =>
    have HN9:=Lib.hid (HNX.out (fun h=>by have h1:=h.2.2.1;rw [show hasB z.m.u re = false from HQ.out] at h1;cases h1))
    go_wp2
    go_roundw
    case rel=>exact ⟨k + 1,_,_,_,by go_num,rfl,rfl,rfl,by omega,HN9,HBN⟩
    case measure=>simp [intOf];omega
   | true =>
   cases b with
   | false =>
    have HON:=Lib.hid (show rmOf C.ce x.t = none from by
     rw [HO.out]
     rcases HOB.out with h | h
     ·exact h.1
     ·cases h.2)
    have HN9:=Lib.hid (HNX.out (fun h=>by obtain ⟨y,h1,_⟩:=h.2.2.2;rw [HON.out] at h1;cases h1))
    go_wp2
    go_roundw
    case rel=>exact ⟨k + 1,_,_,_,by go_num,rfl,rfl,rfl,by omega,HN9,HBN⟩
    case measure=>simp [intOf];omega
   | true =>
   have HON:=Lib.hid (show rmOf C.ce x.t = some ⟨ys,yk,yr,ye⟩ from by
    rw [HO.out]
    rcases HOB.out with h | h
    ·cases h.2
    ·exact h.1)
   by_cases hky:yk < rk
   case neg =>
    have HN9:=Lib.hid (HNX.out (fun h=>by obtain ⟨y,h1,h2⟩:=h.2.2.2;rw [HON.out] at h1;injection h1 with h1;subst h1;exact hky h2))
    go_wp2
    go_roundw
    case rel=>exact ⟨k + 1,_,_,_,by go_num,rfl,rfl,rfl,by omega,HN9,HBN⟩
    case measure=>simp [intOf];omega
   have HFIN:=Lib.hid (show true = true ↔ ROk z.m C.ce ⟨rs,rk,2,re⟩ from removes_un HF.out ⟨by show 1 ≤ rk;omega,by show rk ≤ 4097;omega⟩ rfl ⟨fun _=>⟨x,List.mem_of_getElem? HX.out,HF0.out,HE0.out,HQ.out,_,HON.out,hky⟩,fun _=>rfl⟩)
   go_wp2
   go_ret
   exact ⟨true,rfl,(by have h9:=HFIN.out;simpa using h9),HB.out _ HBN.out⟩
 ·by_cases he:re = -1
  case neg =>
   have he':(re != -1) = true:=by rw [bne_iff_ne];exact he
   have HN9:=Lib.hid (show ¬ ROk z.m C.ce ⟨rs,rk,3,re⟩ from fun h=>he (h.bl rfl).1)
   clear he
   go_wp2
   go_ret
   exact ⟨false,rfl,⟨(fun h=>by cases h),fun h=>absurd h HN9.out⟩,HB.out _ (Below.refl _ _)⟩
  have he':(re != -1) = false:=by simpa using he
  have HEE:=Lib.hid he;clear he
  obtain ⟨q,hq⟩:∃ q,hasB z.x.a.ma rs = q:=⟨_,rfl⟩
  have hfm:=(HZ.out w3 (Below.refl _ _)).x
  have HM:=Lib.hid (law_has z.x.M z.x.cm z.x.nm z.x.a.ma rs q w3 hfm.lm hfm.rm (Nat.le_trans hfm.mc hfm.cM) hq)
  have HQM:=Lib.hid (show hasB z.m.a.ma rs = q from hq)
  clear hfm hq
  go_wp2_with fail
  refine HM.out.mono ?_
  rintro e w6 ⟨rfl,rfl⟩
  clear HM
  cases q with
  | true =>
   have HN9:=Lib.hid (show ¬ ROk z.m C.ce ⟨rs,rk,3,re⟩ from fun h=>(h.bl rfl).2.1 (hasB_mem.1 HQM.out))
   go_wp2
   go_ret
   exact ⟨false,rfl,⟨(fun h=>by cases h),fun h=>absurd h HN9.out⟩,HB.out _ (Below.refl _ _)⟩
  | false =>
  have HMM:=Lib.hid (show hasB z.m.a.ma rs = false from HQM.out)
  have HN0:=Lib.hid (show ∀ x ∈ z.m.a.ed.take 0,BlW C.ce ⟨rs,rk,3,re⟩ x from fun y hy=>by simp at hy)
  go_wp2
  clear a0 a1 a2 a3 a4 a5 c0 c1 c2 d0 d1 d2 d3
  go_loopw [11,12,13,14] (fun s1 s2 s3 s4 wr=>∃ (k:Nat) (v2 v3 v4:Value),s1 = .int .i64 k∧s2 = v2∧s3 = v3∧s4 = v4∧k ≤ z.x.ne∧Hid (∀ x ∈ z.m.a.ed.take k,BlW C.ce ⟨rs,rk,3,re⟩ x)∧Hid (Below w3.heap.size w3 wr)) (fun s1 _ _ _ _=>z.x.ne - (intOf s1).toNat)
  case atStart=>exact ⟨0,_,_,_,rfl,rfl,rfl,rfl,Nat.zero_le _,HN0,Lib.hid (Below.refl _ _)⟩
  case round =>
   clear HN0
   obtain ⟨k,v2,v3,v4,rfl,rfl,rfl,rfl,hk,HNO,HBL⟩:=hrel
   obtain ⟨⟨a0,a1,a2,a3,a4⟩,a5⟩:=HKP.out wr HBL.out
   by_cases hlt:k < z.x.ne
   case neg =>
    obtain rfl:k = z.x.ne:=by omega
    have b1:¬ (z.x.ne:Int) < (z.x.ne:Int):=by omega
    have HALL:=Lib.hid (show ∀ x ∈ z.m.a.ed,BlW C.ce ⟨rs,rk,3,re⟩ x from fun x hx=>HNO.out x (by rw [List.take_of_length_le (by rw [HEL.out];exact Nat.le_refl _)];exact hx))
    have HFIN:=Lib.hid (show true = true ↔ ROk z.m C.ce ⟨rs,rk,3,re⟩ from removes_bl ⟨by show 1 ≤ rk;omega,by show rk ≤ 4097;omega⟩ HF.out rfl HEE.out HMM.out ⟨fun _=>HALL.out,fun _=>rfl⟩)
    go_wp2
    go_ret
    exact ⟨true,rfl,(by have h9:=HFIN.out;simpa using h9),HB.out _ HBL.out⟩
   have b1:(k:Int) < (z.x.ne:Int):=by omega
   obtain ⟨ad,x,hA,_,hx,g0,g1,g2⟩:=(HZ.out wr HBL.out).x.re.at_ (k:=k) (by show k < z.m.a.ed.length;rw [HEL.out];exact hlt)
   rw [hA] at a3
   have r1:wr.cell? ⟨(ad.add (k * 3)).block,(ad.add (k * 3)).off + 1,none⟩ = some (.int .i64 x.e):=st_cells (j:=0) g1
   have r2:wr.cell? ⟨(ad.add (k * 3)).block,(ad.add (k * 3)).off + 2,none⟩ = some (.int .i64 x.t):=st_cells (j:=1) g2
   have HX:=Lib.hid (show z.m.a.ed[k]? = some x from hx)
   have hbx:=box_below wr (.cells #[.int .i64 x.f,.int .i64 x.e,.int .i64 x.t] 67)
   have ke:Blk (wr.alloc (.cells #[.int .i64 x.f,.int .i64 x.e,.int .i64 x.t] 67)) wr.heap.size 67 [.int .i64 x.f,.int .i64 x.e,.int .i64 x.t]:=Blk.new _ _ [_,_,_]
   have HB5:=Lib.hid (HBL.out.trans (hbx.mono HBL.out.size))
   clear hA hx hbx HBL
   go_upto_region 21 with fail
   clear g0 g1 g2 r1 r2 a0 a1 a2 a3 a4 a5
   generalize wr.heap.size = bx at ke ⊢
   generalize wr.alloc (.cells #[.int .i64 x.f,.int .i64 x.e,.int .i64 x.t] 67) = w5 at ke HB5 ⊢
   have HKE:=Lib.hid (fun (W:World) (hb:Below w5.heap.size w5 W)=>Blk.c3 (ke.below hb ke.lt))
   clear ke
   have HNX:=Lib.hid (show (BlW C.ce ⟨rs,rk,3,re⟩ x) → ∀ x ∈ z.m.a.ed.take (k + 1),BlW C.ce ⟨rs,rk,3,re⟩ x from fun h9 y hy=>by
    rw [take_snoc' HX.out] at hy
    rcases List.mem_append.1 hy with hy | hy
    ·exact HNO.out y hy
    ·rw [List.mem_singleton.1 hy];exact h9)
   obtain ⟨e0,e1,e2⟩:=HKE.out w5 (Below.refl _ _)
   obtain ⟨c0,c1,c2⟩:=HKC.out w5 HB5.out
   obtain ⟨d0,d1,d2,d3⟩:=HKR.out w5 HB5.out
   by_cases hf:x.f = rs
   case neg =>
    have hf':(x.f != rs) = true:=by rw [bne_iff_ne];exact hf
    have HF0:=Lib.hid hf;clear hf
    clear c0 c1 c2 d1 d2 d3
    have HN9:=Lib.hid (HNX.out (fun h=>absurd h HF0.out))
    go_wp2
    go_roundw
    case rel=>exact ⟨k + 1,_,_,_,by go_num,rfl,rfl,rfl,by omega,HN9,HB5⟩
    case measure=>simp [intOf];omega
   have hf':(x.f != rs) = false:=by simpa using hf
   have HF0:=Lib.hid hf;clear hf
   have HRV:=Lib.hid (law_removal C x.t w5 (HC.out w5 HB5.out))
   rw [HCV.out] at HRV
   obtain ⟨O,hO⟩:∃ q,rmOf C.ce x.t = q:=⟨_,rfl⟩
   rw [hO] at HRV
   have HO:=Lib.hid hO
   clear hO
   obtain ⟨ys,yk,yr,ye,b,hrv,hob⟩:∃ (ys yk yr ye:Int) (b:Bool),rmV O = .tuple #[.agg #[.int .i64 ys,.int .i64 yk,.int .i64 yr,.int .i64 ye],.bool b]∧((O = none∧b = false) ∨ (O = some ⟨ys,yk,yr,ye⟩∧b = true)):=by
    cases O with
    | none=>exact ⟨0,0,0,0,false,rfl,.inl ⟨rfl,rfl⟩⟩
    | some y=>exact ⟨y.s,y.k,y.r,y.e,true,rfl,.inr ⟨rfl,rfl⟩⟩
   have HOB:=Lib.hid hob
   rw [hrv] at HRV
   clear hrv hob
   go_wp2_with fail
   refine HRV.out.mono ?_
   rintro e wv ⟨rfl,hbv⟩
   have HBV:=Lib.hid (HB5.out.trans (hbv.mono HB5.out.size))
   have kn:=Blk.new wv 63 [.int .i64 ys,.int .i64 yk,.int .i64 yr,.int .i64 ye]
   have hbn:=box_below wv (.cells #[.int .i64 ys,.int .i64 yk,.int .i64 yr,.int .i64 ye] 63)
   have HBN:=Lib.hid (HBV.out.trans (hbn.mono HBV.out.size))
   have HBE:=Lib.hid (hbv.trans (hbn.mono hbv.size))
   clear c0 c1 c2 d0 d1 d2 d3 e0 e1 e2 hbv hbn HRV HBV
   go_upto_region 23 with fail
   generalize wv.heap.size = bN at kn ⊢
   generalize wv.alloc (.cells #[.int .i64 ys,.int .i64 yk,.int .i64 yr,.int .i64 ye] 63) = wn at kn HBN HBE ⊢
   obtain ⟨f0,f1,f2,f3⟩:=Blk.c4 kn
   obtain ⟨e0,e1,e2⟩:=HKE.out wn HBE.out
   obtain ⟨d0,d1,d2,d3⟩:=HKR.out wn HBN.out
   obtain ⟨⟨a0,a1,a2,a3,a4⟩,a5⟩:=HKP.out wn HBN.out
   clear kn
   cases b with
   | false =>
    have HON:=Lib.hid (show rmOf C.ce x.t = none from by
     rw [HO.out]
     rcases HOB.out with h | h
     ·exact h.1
     ·cases h.2)
    have HFIN:=Lib.hid (show false = true ↔ ROk z.m C.ce ⟨rs,rk,3,re⟩ from removes_bl ⟨by show 1 ≤ rk;omega,by show rk ≤ 4097;omega⟩ HF.out rfl HEE.out HMM.out ⟨(fun h=>by cases h),fun h=>by
     obtain ⟨y,h1,h2⟩:=h x (List.mem_of_getElem? HX.out) HF0.out
     rw [HON.out] at h1
     cases h1⟩)
    go_wp2
    go_ret
    exact ⟨false,rfl,HFIN.out,HB.out _ HBN.out⟩
   | true =>
   have HON:=Lib.hid (show rmOf C.ce x.t = some ⟨ys,yk,yr,ye⟩ from by
    rw [HO.out]
    rcases HOB.out with h | h
    ·cases h.2
    ·exact h.1)
   by_cases hg:yk > rk
   case pos =>
    have HFIN:=Lib.hid (show false = true ↔ ROk z.m C.ce ⟨rs,rk,3,re⟩ from removes_bl ⟨by show 1 ≤ rk;omega,by show rk ≤ 4097;omega⟩ HF.out rfl HEE.out HMM.out ⟨(fun h=>by cases h),fun h=>by
     obtain ⟨y,h1,h2⟩:=h x (List.mem_of_getElem? HX.out) HF0.out
     rw [HON.out] at h1
     injection h1 with h1;subst h1;rcases h2 with h2 | ⟨h2,_⟩ <;> (dsimp only at h2;omega)⟩)
    go_wp2
    go_ret
    exact ⟨false,rfl,HFIN.out,HB.out _ HBN.out⟩
   by_cases hke:yk = rk
   case neg =>
    have hke':(yk == rk) = false:=by rw [beq_eq_false_iff_ne];exact hke
    have hlk:yk < rk:=by omega
    have HLK:=Lib.hid hlk;clear hlk
    clear hke
    have HN9:=Lib.hid (HNX.out (fun _=>⟨_,HON.out,.inl HLK.out⟩))
    go_wp2
    go_roundw
    case rel=>exact ⟨k + 1,_,_,_,by go_num,rfl,rfl,rfl,by omega,HN9,HBN⟩
    case measure=>simp [intOf];omega
   have hke':(yk == rk) = true:=by simpa using hke
   have HKE2:=Lib.hid hke;clear hke
   by_cases hy3:yr = 3
   case neg =>
    have hy3':(yr != 3) = true:=by simpa using hy3
    have HY3:=Lib.hid hy3;clear hy3
    have HFIN:=Lib.hid (show false = true ↔ ROk z.m C.ce ⟨rs,rk,3,re⟩ from removes_bl ⟨by show 1 ≤ rk;omega,by show rk ≤ 4097;omega⟩ HF.out rfl HEE.out HMM.out ⟨(fun h=>by cases h),fun h=>by
     obtain ⟨y,h1,h2⟩:=h x (List.mem_of_getElem? HX.out) HF0.out
     rw [HON.out] at h1
     injection h1 with h1;subst h1;rcases h2 with h2 | ⟨_,h2⟩
     ·have h3:=HKE2.out;dsimp only at h2;omega
     ·exact (HY3.out h2).elim⟩)
    go_wp2
    go_ret
    exact ⟨false,rfl,HFIN.out,HB.out _ HBN.out⟩
   have hy3':(yr != 3) = false:=by simpa using hy3
   have HY3:=Lib.hid hy3;clear hy3
   have HN9:=Lib.hid (HNX.out (fun _=>⟨_,HON.out,.inr ⟨HKE2.out,HY3.out⟩⟩))
   go_wp2
   go_roundw
   case rel=>exact ⟨k + 1,_,_,_,by go_num,rfl,rfl,rfl,by omega,HN9,HBN⟩
   case measure=>simp [intOf];omega
end Go.Proofs.Ytdnmpndnpfklcaa

/- Walks: slices.BinarySearchFunc at removals; maximality.Explain. -/
import Derived.Test.YtdnmpndnpfklcaaXr
import Derived.Test.YtdnmpndnpfklcaaIu
import Derived.Deep.LoopGhost

namespace Go.Proofs.Ytdnmpndnpfklcaa
open Go.RowKit Go Go.Maps
theorem max_cmpS (r:Rm) (s:Int) (w:World) (h1:0 ≤ r.s∧r.s < 4096) (h2:0 ≤ s∧s < 4096) :
  Calls Try.prog 59 #[.agg (rmc r).toArray,.int .i64 s] w fun e w'=>e = .returned (.int .i64 (r.s - s))∧Below w.heap.size w w':=by
 have hw:IntKind.i64.wrap (r.s - s) = r.s - s:=IntWalk.i64_in _ (by omega)
 have HB:=Lib.hid (box_below w (.cells #[.int .i64 r.s,.int .i64 r.k,.int .i64 r.r,.int .i64 r.e] 63))
 unfold rmc
 go_enter Try.func59,Try.ntmps59
 go_wp2
 go_ret
 exact ⟨rfl,HB.out⟩
def RetBsf (l:List Rm) (s:Int) (w:World) (e:Ending) (w':World):Prop:=∃ (i:Nat) (b:Bool),e = .returned (.tuple #[.int .i64 i,.bool b])∧(b = true → ∃ r,l[i]? = some r∧r.s = s)∧(b = false → ∀ r ∈ l,r.s ≠ s)∧Below w.heap.size w w'
def LoR (l:List Rm) (s:Int) (p:Nat):Prop:=∀ k r,k < p → l[k]? = some r → r.s < s
def HiR (l:List Rm) (s:Int) (q:Nat):Prop:=∀ k r,q ≤ k → l[k]? = some r → s ≤ r.s
theorem incR_at {l:List Rm} (h:IncR l) {i j:Nat} {x y:Rm} (hx:l[i]? = some x) (hy:l[j]? = some y) (hij:i < j):x.s < y.s:=by
 obtain ⟨h1,rfl⟩:=List.getElem?_eq_some_iff.1 hx
 obtain ⟨h2,rfl⟩:=List.getElem?_eq_some_iff.1 hy
 exact List.pairwise_iff_getElem.1 h i j h1 h2 hij
theorem LoR.up {l:List Rm} (h:IncR l) {s:Int} {m:Nat} {y:Rm} (hy:l[m]? = some y) (hlt:y.s < s):LoR l s (m + 1):=fun k r hk hr=>by
 rcases Nat.lt_or_ge k m with h1 | h1
 ·have:=incR_at h hr hy h1;omega
 ·obtain rfl:k = m:=by omega
  rw [hy] at hr
  injection hr with hr
  subst hr
  exact hlt
theorem HiR.down {l:List Rm} (h:IncR l) {s:Int} {m:Nat} {y:Rm} (hy:l[m]? = some y) (hlt:s ≤ y.s):HiR l s m:=fun k r hk hr=>by
 rcases Nat.lt_or_ge m k with h1 | h1
 ·have:=incR_at h hy hr h1;omega
 ·obtain rfl:k = m:=by omega
  rw [hy] at hr
  injection hr with hr
  subst hr
  exact hlt
theorem rm_reads {w:World} {B j:Nat} {R:Option Addr} {l:List Rm} (h:RdR 4 rmc w B R l) (hj:j < l.length):∃ ad r,R = some ad∧l[j]? = some r∧w.cell? (ad.add (j * 4)) = some (.int .i64 r.s)∧w.cell? ⟨(ad.add (j * 4)).block,(ad.add (j * 4)).off + 1,none⟩ = some (.int .i64 r.k)∧w.cell? ⟨(ad.add (j * 4)).block,(ad.add (j * 4)).off + 2,none⟩ = some (.int .i64 r.r)∧w.cell? ⟨(ad.add (j * 4)).block,(ad.add (j * 4)).off + 3,none⟩ = some (.int .i64 r.e):=by
 obtain ⟨ad,x,hA,_,hx,hcl⟩:=h.get hj
 exact ⟨ad,x,hA,hx,hcl 0 _ rfl,st_cells (j:=0) (hcl 1 _ rfl),st_cells (j:=1) (hcl 2 _ rfl),st_cells (j:=2) (hcl 3 _ rfl)⟩
set_option maxHeartbeats 800000 in
theorem slices_BSF (R:Option Addr) (rn rc:Nat) (l:List Rm) (s:Int) (w:World) (hl:l.length = rn) (hr:RdR 4 rmc w w.heap.size R l) (hi:IncR l) (hrg:∀ r ∈ l,0 ≤ r.s∧r.s < 4096) (hs:0 ≤ s∧s < 4096) (hn:rn ≤ 4096) :
  Calls Try.prog 58 #[.slice R rn rc,.int .i64 s,.func (.func 59) #[] #[]] w (RetBsf l s w):=by
 have HR:=Lib.hid hr
 have HL:=Lib.hid hl
 have HI:=Lib.hid hi
 have HG:=Lib.hid hrg
 have HS:=Lib.hid hs
 clear hr hl hi hrg hs
 go_enter Try.func58,Try.ntmps58
 go_wp2
 go_loopw [9,10,11] (fun s9 s10 s11 wr=>∃ (p q:Nat) (v11:Value),s9 = .int .i64 p∧s10 = .int .i64 q∧s11 = v11∧p ≤ q∧q ≤ rn∧Hid (LoR l s p)∧Hid (HiR l s q)∧Hid (Below w.heap.size w wr)) (fun s9 s10 _ _=>(intOf s10).toNat - (intOf s9).toNat)
 case atStart=>exact ⟨0,rn,_,rfl,rfl,rfl,Nat.zero_le _,Nat.le_refl _,Lib.hid (fun k r hk=>by omega),Lib.hid (fun k r hk h9=>by have:=(List.getElem?_eq_some_iff.1 h9).1;have:=HL.out;omega),Lib.hid (Below.refl _ _)⟩
 case round =>
  obtain ⟨p,q,v11,rfl,rfl,rfl,hpq,hq,H1,H2,HB⟩:=hrel
  by_cases hlt:p < q
  case pos =>
   obtain ⟨ad,y,hA,hy,g0,g1,g2,g3⟩:=rm_reads (HR.out.below HB.out) (j:=(p + q) / 2) (by have:=HL.out;omega)
   subst hA
   have HC:=Lib.hid (max_cmpS y s wr (HG.out y (List.mem_of_getElem? hy)) HS.out)
   have HY:=Lib.hid hy
   clear hy
   unfold rmc at HC
   by_cases hyx:y.s < s
   ·have b9:y.s - s < 0:=by omega
    have HL9:=Lib.hid (LoR.up HI.out HY.out hyx)
    go_wp2_with (first | (go_at_call 59;refine HC.out.mono ?_;rintro e w2 ⟨rfl,hb2⟩) | fail)
    have HB2:=Lib.hid (HB.out.trans (hb2.mono HB.out.size))
    go_roundw
    case rel=>exact ⟨(p + q) / 2 + 1,q,_,by go_num,rfl,rfl,by omega,by omega,HL9,H2,HB2⟩
    case measure=>simp [intOf];omega
   ·have b9:¬ y.s - s < 0:=by omega
    have HL9:=Lib.hid (HiR.down HI.out HY.out (show s ≤ y.s by omega))
    go_wp2_with (first | (go_at_call 59;refine HC.out.mono ?_;rintro e w2 ⟨rfl,hb2⟩) | fail)
    have HB2:=Lib.hid (HB.out.trans (hb2.mono HB.out.size))
    go_roundw
    case rel=>exact ⟨p,(p + q) / 2,_,rfl,by go_num,rfl,by omega,by omega,H1,HL9,HB2⟩
    case measure=>simp [intOf];omega
  obtain rfl:p = q:=by omega
  clear hlt hpq
  by_cases hl:p < rn
  ·obtain ⟨ad,y,hA,hy,g0,g1,g2,g3⟩:=rm_reads (HR.out.below HB.out) (j:=p) (by have:=HL.out;omega)
   subst hA
   have HC:=Lib.hid (max_cmpS y s wr (HG.out y (List.mem_of_getElem? hy)) HS.out)
   have HY:=Lib.hid hy
   clear hy
   unfold rmc at HC
   obtain ⟨b,hb⟩:∃ b,(y.s - s == 0) = b:=⟨_,rfl⟩
   have HBB:=Lib.hid hb
   go_wp2_with (first | (go_at_call 59;refine HC.out.mono ?_;rintro e w2 ⟨rfl,hb2⟩) | fail)
   have HB2:=Lib.hid (HB.out.trans (hb2.mono HB.out.size))
   refine bodyPost_ret (v:=.tuple #[.int .i64 p,.bool b]) (by simp [results,Try.results58,go_sem]) rfl ?_
   refine ⟨p,b,rfl,fun h9=>⟨y,HY.out,?_⟩,fun h9 r hr e=>?_,HB2.out⟩
   ·have:=HBB.out
    rw [h9,beq_iff_eq] at this
    omega
   ·obtain ⟨k,hk⟩:=List.getElem?_of_mem hr
    have hne:¬ y.s = s:=fun e9=>by
     have:=HBB.out
     rw [h9,beq_eq_false_iff_ne] at this
     omega
    rcases Nat.lt_or_ge k p with h1 | h1
    ·have:=H1.out k r h1 hk;omega
    ·have h2:=H2.out p y (Nat.le_refl _) HY.out
     rcases Nat.lt_or_ge p k with h3 | h3
     ·have:=incR_at HI.out HY.out hk h3;omega
     ·obtain rfl:k = p:=by omega
      have:=HY.out
      rw [hk] at this
      injection this with this
      subst this
      exact hne e
  ·go_wp2
   refine bodyPost_ret (v:=.tuple #[.int .i64 p,.bool false]) (by simp [results,Try.results58,go_sem]) rfl ?_
   refine ⟨p,false,rfl,(fun h9=>by cases h9),fun _ r hr e=>?_,HB.out⟩
   obtain ⟨k,hk⟩:=List.getElem?_of_mem hr
   have h3:=(List.getElem?_eq_some_iff.1 hk).1
   have:=H1.out k r (by have:=HL.out;omega) hk
   omega
end Go.Proofs.Ytdnmpndnpfklcaa
/- Walk: maximality.Explain. -/
namespace Go.Proofs.Ytdnmpndnpfklcaa
open Go.RowKit Go Go.Maps
def RetExp (p:Mx) (c:Ce) (s:Int) (w:World) (e:Ending) (w':World):Prop:=(rmOf c s = none∧e = .returned (.tuple #[.slice none 0 0,.int .i64 22])∧Below w.heap.size w w') ∨
 ∃ (L:List Rm) (v:Value),Exp p c s L∧L.length ≤ 5000∧e = .returned (.tuple #[v,.int .i64 0])∧w'.ownsRow w.heap.size 63 4 v L.length (L.flatMap rmc)∧Below w.heap.size w w'
def NxS (r:Rm) (t N:Int) (es:List Ed) (u:Int):Prop:=u = N ∨ (u = t∧∀ x ∈ es,¬ (x.f = r.s∧x.e = r.e))
set_option maxRecDepth 100000 in
set_option maxHeartbeats 3200000 in
theorem max_Explain (z:PB) (c:CV) (s:Int) (w:World) (h:z.ok w w.heap.size) (hm:z.m.ok) (hc:c.ok w w.heap.size) (hrn:c.rn ≤ 1000000) (hf:FOk z.m.a.st c.ce) (hv:VOk z.m c.ce) (hs:0 ≤ s∧s < z.m.a.st) :
  Calls Try.prog 22 #[.agg (pbc z).toArray,.agg (cvc c).toArray,.int .i64 s] w (RetExp z.m c.ce s w):=by
 have HC:=Lib.hid (fun (W:World) (h9:z.ok W W.heap.size) (h8:c.ok W W.heap.size)=>max_check z c W h9 hm h8 hrn)
 have HV0:=Lib.hid (fun (v:Int) (h9:VerIs z.m c.ce v)=>VerIs.unique h9 (VerIs.of hf hv))
 obtain ⟨CC,hCC⟩:∃ q,c.ce = q:=⟨_,rfl⟩
 have HCR:=Lib.hid (show CC.rm = c.rm by rw [← hCC];rfl)
 have hrn4:c.rn ≤ 4096:=by
  have h0:=hm.wf.st0
  have h3:=hm.wf.st1
  have h1:=incR_len (k:=z.m.a.st.toNat) hf.rinc (by rw [show ((z.m.a.st.toNat:Nat):Int) = z.m.a.st by omega];exact hf.rrng)
  have h2:c.ce.rm.length = c.rn:=hc.rl
  omega
 have HRR:=Lib.hid (show ∀ r ∈ c.rm,0 ≤ r.s∧r.s < 4096 from fun r hr=>by have:=hf.rrng r hr;have:=hm.wf.st1;omega)
 rw [hCC] at hf hv HC HV0 ⊢
 clear hCC
 have HFO:=Lib.hid hf
 have HVO:=Lib.hid hv
 have HM:=Lib.hid hm
 have hb1:=box_below w (.cells (pbc z).toArray 34)
 have kx:=Blk.new w 34 (pbc z)
 obtain ⟨w1,hw1⟩:∃ w1,w1 = w.alloc (.cells (pbc z).toArray 34):=⟨_,rfl⟩
 rw [← hw1] at hb1 kx
 have hb2:=box_below w1 (.cells (cvc c).toArray 38)
 have kx2:=kx.below hb2 kx.lt
 have kc:=Blk.new w1 38 (cvc c)
 have hs1:w1.heap.size = w.heap.size + 1:=by rw [hw1];simp
 rw [hs1] at kc
 obtain ⟨w2,hw2⟩:∃ w2,w2 = w1.alloc (.cells (cvc c).toArray 38):=⟨_,rfl⟩
 rw [← hw2] at hb2 kx2 kc
 have hb12:=hb1.trans (hb2.mono hb1.size)
 have HZ:=Lib.hid (fun (W:World) (hb:Below w2.heap.size w2 W)=>(h.below (hb12.trans (hb.mono hb12.size))).more (hb12.trans (hb.mono hb12.size)).size)
 have HZC:=Lib.hid (fun (W:World) (hb:Below w2.heap.size w2 W)=>(hc.below (hb12.trans (hb.mono hb12.size))).more (hb12.trans (hb.mono hb12.size)).size)
 have HK:=Lib.hid (fun (W:World) (hb:Below w2.heap.size w2 W)=>kx2.below hb kx2.lt)
 have HKC:=Lib.hid (fun (W:World) (hb:Below w2.heap.size w2 W)=>kc.below hb kc.lt)
 have HB:=Lib.hid (fun (W:World) (hb:Below w2.heap.size w2 W)=>hb12.trans (hb.mono hb12.size))
 have HW2:=Lib.hid (show (w.alloc (.cells (pbc z).toArray 34)).alloc (.cells (cvc c).toArray 38) = w2 by rw [hw2,hw1])
 have hst:0 ≤ z.x.a.st:=hm.wf.st0
 have hst1:z.x.a.st ≤ 4096:=hm.wf.st1
 obtain ⟨n,hn⟩:∃ n:Nat,z.x.a.st = (n:Int):=⟨z.x.a.st.toNat,by omega⟩
 have HN:=Lib.hid hn
 have hn4:n ≤ 4096:=by omega
 have s0:0 ≤ s:=hs.1
 have s1:s < (n:Int):=by have:z.m.a.st = z.x.a.st:=rfl;omega
 have HRL:=Lib.hid hc.rl
 have HLE:=Lib.hid (show z.x.a.ed.length = z.x.ne from h.x.le)
 have hel:z.x.ne ≤ 1000000:=by have h1:=hm.wf.ed_le;have h2:z.m.a.ed.length = z.x.ne:=h.x.le;omega
 have HER:=Lib.hid (show ∀ y ∈ z.x.a.ed,(0 ≤ y.f∧y.f < (n:Int))∧(0 ≤ y.t∧y.t < (n:Int)) from fun y hy=>by have:=hm.wf.ev_rng hy;have:z.m.a.st = z.x.a.st:=rfl;omega)
 clear hst hst1 hb1 hb2 hb12 kx kx2 kc hw1 hw2 hs1 h hm hc hf hv hs
 unfold pbc at HC HK HW2 ⊢
 unfold cvc at HC HKC HW2 ⊢
 rw [hn] at HC HK HW2 ⊢
 clear hn
 obtain ⟨⟨A,na,ca,M,nm,cm,E,ne,ce,a⟩,⟨UA,un,uc,ul⟩,FA,fn,fc,flx⟩:=z
 obtain ⟨P,hP⟩:∃ q,PB.m ⟨⟨A,na,ca,M,nm,cm,E,ne,ce,a⟩,⟨UA,un,uc,ul⟩,FA,fn,fc,flx⟩ = q:=⟨_,rfl⟩
 have HPA:=Lib.hid (show P.a = a by rw [← hP];rfl)
 dsimp only at HC HK HW2 HZ HN HER HLE hel ⊢
 rw [hP] at HC HV0 HFO HVO HM ⊢
 clear hP
 obtain ⟨⟨a0,a1,a2,a3,a4⟩,a5⟩:=Blk.c6 (HK.out w2 (Below.refl _ _))
 obtain ⟨c0,c1,c2⟩:=Blk.c3 (HKC.out w2 (Below.refl _ _))
 go_enter Try.func22,Try.ntmps22
 go_upto_region 1 with fail
 rw [HW2.out]
 go_wp2_with fail
 refine (HC.out w2 (HZ.out w2 (Below.refl _ _)) (HZC.out w2 (Below.refl _ _))).mono ?_
 rintro _ w3 ⟨v,rfl,hvi,hb3⟩
 obtain rfl:=HV0.out v hvi
 have HB3:=Lib.hid hb3
 clear a0 a1 a2 a3 a4 a5 c0 c1 c2 HC hb3 hvi HV0
 obtain ⟨⟨a0,a1,a2,a3,a4⟩,a5⟩:=Blk.c6 (HK.out w3 HB3.out)
 have t0:¬ s < 0:=by omega
 have t1:¬ (n:Int) ≤ s:=by omega
 obtain ⟨⟨KA,kn,kc,kl⟩,⟨DA,dn,dc,dl⟩,RA,rn,rc,l⟩:=c
 dsimp only at HKC HZC HRL HRR HCR hrn4 hrn ⊢
 have HX0:=Lib.hid (show ∀ L,Exp P CC s L → Exp P CC s (([]:List Rm) ++ L) from fun L hL=>hL)
 have HRK:=Lib.hid (show ∀ r,rmOf CC s = some r → r.k < ((4098:Nat):Int) from fun r hr=>by
  have:=(HVO.out.rmv r ((rmOf_some HFO.out).1 hr).1).rk
  omega)
 go_wp2
 clear a0 a1 a2 a3 a4 a5 t0 t1
 go_loopg [2,9,10,11,12,14] 4098 (fun gk s2 s9 s10 s11 s12 s14 wr=>∃ (t:Int) (O:List Rm) (m:Nat) (v10 v11 v12 v14:Value),s2 = .int .i64 t∧s10 = v10∧s11 = v11∧s12 = v12∧s14 = v14∧(0 ≤ t∧t < (n:Int))∧m + gk ≤ 4098∧Hid (∀ L,Exp P CC t L → Exp P CC s (O ++ L))∧Hid (O = []∧t = s ∨ rmOf CC t ≠ none)∧Hid (∀ r,rmOf CC t = some r → r.k < (gk:Int))∧Hid (O.length = m)∧Hid (wr.ownsRow w3.heap.size 63 4 s9 m (O.flatMap rmc))∧Hid (Below w3.heap.size w3 wr))
 case atStart=>exact ⟨s,[],0,_,_,_,_,rfl,rfl,rfl,rfl,rfl,⟨s0,s1⟩,Nat.le_refl _,HX0,Lib.hid (.inl ⟨rfl,rfl⟩),HRK,Lib.hid rfl,Lib.hid (World.ownsRow_nil _ _ _ _),Lib.hid (Below.refl _ _)⟩
 case round =>
  clear HX0 HRK
  obtain ⟨t,O,m,v10,v11,v12,v14,rfl,rfl,rfl,rfl,rfl,⟨t0,t1⟩,hmg,HX,HOR,HRK,HOL,HO,HBL⟩:=hrel
  obtain ⟨OA,oc,rfl⟩:=own_shape HO.out
  have HBW:=Lib.hid (HB3.out.trans (HBL.out.mono HB3.out.size))
  obtain ⟨c0,c1,c2⟩:=Blk.c3 (HKC.out wr HBW.out)
  have HBS:=Lib.hid (slices_BSF RA rn rc l t wr HRL.out (HZC.out wr HBW.out).rr (by rw [← HCR.out];exact HFO.out.rinc) HRR.out ⟨t0,by omega⟩ hrn4)
  go_wp2_with fail
  refine HBS.out.mono ?_
  rintro e w4 ⟨i,b,rfl,hb1,hb2,hb4⟩
  have HB4:=Lib.hid (HBL.out.trans (hb4.mono HBL.out.size))
  have HO4:=Lib.hid (own_below HO.out hb4)
  have HF1:=Lib.hid hb1
  have HF2:=Lib.hid hb2
  clear hb1 hb2 hb4 HBS c0 c1 c2 HBW HBL HO
  cases b with
  | false =>
   have HNO:=Lib.hid (show rmOf CC t = none from rmOf_none.2 (by rintro ⟨r,hr,e⟩;rw [HCR.out] at hr;exact HF2.out rfl r hr e))
   go_wp2
   refine bodyPost_ret (v:=.tuple #[.slice none 0 0,.int .i64 22]) (by simp [results,Try.results22,go_sem]) rfl ?_
   rcases HOR.out with ⟨_,e⟩ | h9
   ·rw [e] at HNO
    exact .inl ⟨HNO.out,rfl,HB.out _ (HB3.out.trans (HB4.out.mono HB3.out.size))⟩
   ·exact absurd HNO.out h9
  | true =>
   obtain ⟨r,hri,hrt⟩:=HF1.out rfl
   have hrm:rmOf CC t = some r:=(rmOf_some HFO.out).2 ⟨by rw [HCR.out];exact List.mem_of_getElem? hri,hrt⟩
   have HRM:=Lib.hid hrm
   have hk0:1 ≤ r.k:=((HVO.out.rmv r ((rmOf_some HFO.out).1 hrm).1).rk).1
   have hkg:=HRK.out r hrm
   have HBW:=Lib.hid (HB3.out.trans (HB4.out.mono HB3.out.size))
   have hil:i < rn:=by have:=(List.getElem?_eq_some_iff.1 hri).1;have:=HRL.out;omega
   have b1:(i:Int) < (rn:Int):=by omega
   obtain ⟨ad,r',hA,hr',g0,g1,g2,g3⟩:=rm_reads (HZC.out w4 HBW.out).rr (j:=i) (by have:=HRL.out;show i < l.length;omega)
   obtain rfl:r' = r:=by
    have h9:l[i]? = some r':=hr'
    rw [hri] at h9
    exact (Option.some.inj h9).symm
   have hA':RA = some ad:=hA
   subst hA'
   obtain ⟨c0,c1,c2⟩:=Blk.c3 (HKC.out w4 HBW.out)
   have HRT:=Lib.hid hrt
   have hbx:=box_below w4 (.cells #[.int .i64 r'.s,.int .i64 r'.k,.int .i64 r'.r,.int .i64 r'.e] 63)
   have ke:Blk (w4.alloc (.cells #[.int .i64 r'.s,.int .i64 r'.k,.int .i64 r'.r,.int .i64 r'.e] 63)) w4.heap.size 63 [.int .i64 r'.s,.int .i64 r'.k,.int .i64 r'.r,.int .i64 r'.e]:=Blk.new _ _ [_,_,_,_]
   have HB5:=Lib.hid (HB4.out.trans (hbx.mono HB4.out.size))
   have HO5:=Lib.hid (own_below HO4.out hbx)
   have HNB:=Lib.hid (fun (g:Nat) (e:(Value.slice OA m oc).ownBlock = some g)=>(HO4.out.lt g e).2)
   clear hri hrm hr' hA hbx hrt HO4 HB4 HF1 HF2
   go_upto_region 11 with fail
   clear c0 c1 c2 g0 g1 g2 g3 b1
   generalize w4.heap.size = b12 at ke HNB ⊢
   generalize w4.alloc (.cells #[.int .i64 r'.s,.int .i64 r'.k,.int .i64 r'.r,.int .i64 r'.e] 63) = w5 at ke HB5 HO5 ⊢
   have e0:=ke.cell (j:=0) rfl
   have e1:=ke.cell (j:=1) rfl
   have e2:=ke.cell (j:=2) rfl
   have e3:=ke.cell (j:=3) rfl
   have hsz:=HB5.out.size
   obtain ⟨rr,hrr⟩:∃ q,r'.r = q:=⟨_,rfl⟩
   rw [hrr] at ke e2
   have HAP:=Lib.hid (show ∀ (w':World),w5.grownBy w' (Value.slice OA m oc).ownBlock → Blk w' b12 63 [.int .i64 r'.s,.int .i64 r'.k,.int .i64 rr,.int .i64 r'.e] from fun w' hg=>ke.kept hg (fun e=>absurd (HNB.out b12 e.symm) (Nat.lt_irrefl _)))
   have HRC:=Lib.hid (show rmc r' = [.int .i64 r'.s,.int .i64 r'.k,.int .i64 rr,.int .i64 r'.e] by unfold rmc;rw [hrr])
   by_cases h2:rr = 2
   case neg =>
    have h2':(rr != 2) = true:=by simpa using h2
    have HEX:=Lib.hid (HX.out [r'] (.fin HRM.out (by rw [hrr];exact h2)))
    clear hrr h2
    go_wp2_with (first | (at_builtin;refine wpList_pushN w5 [.int .i64 r'.s,.int .i64 r'.k,.int .i64 rr,.int .i64 r'.e] rfl (.tmp 44) (.tmp 46) 36 rfl w3.heap.size 63 (.agg #[.int .i64 0,.int .i64 0,.int .i64 0,.int .i64 0]) 4 32 Try.underlying36 rm_info rfl (by decide) rfl (.slice OA m oc) m _ rfl HO5.out rfl (fun u hu=>by simp at hu;rcases hu with rfl | rfl | rfl | rfl <;> rfl) (by omega) (by omega) hsz ?_;intro v' w6 ho' hg' hb6;clear e0 e1 e2 e3;have kv:=HAP.out w6 hg';have e0:=kv.cell (j:=0) rfl;have e2:=kv.cell (j:=2) rfl;have e3:=kv.cell (j:=3) rfl;have a3:=(HK.out w6 (HB3.out.trans ((HB5.out.trans hb6).mono HB3.out.size))).cell (j:=3) rfl) | fail)
    refine bodyPost_ret (v:=.tuple #[v',.int .i64 0]) (by simp [results,Try.results22,go_sem]) rfl ?_
    refine .inr ⟨O ++ [r'],v',HEX.out,?_,rfl,?_,HB.out _ (HB3.out.trans ((HB5.out.trans hb6).mono HB3.out.size))⟩
    ·rw [List.length_append,HOL.out];show m + 1 ≤ 5000;omega
    ·rw [List.length_append,HOL.out,List.flatMap_append]
     have h9:=own_base ho' (HB.out _ HB3.out).size
     rw [← HRC.out] at h9
     simpa using h9
   subst h2
   obtain ⟨y,hy,hyk,x9,hx9,hxf9,hxe9,hxt9⟩:=HVO.out.next HFO.out HM.out.wf HRM.out hrr
   obtain ⟨NN,hNN⟩:∃ q,nxt P.a t r'.e = q:=⟨_,rfl⟩
   rw [hNN] at hy hxt9
   have HX9:=Lib.hid (show ∀ L,Exp P CC NN L → Exp P CC s ((O ++ [r']) ++ L) from fun L hL=>by
    rw [List.append_assoc]
    exact HX.out (r' :: L) (.go HRM.out hrr (by rw [hNN];exact hL)))
   have HUQ:=Lib.hid (show ∀ x ∈ a.ed,x.f = r'.s∧x.e = r'.e → x.t = NN from fun x hx ⟨h1,h2⟩=>by
    rw [← hNN]
    have h3:x.f = t:=by rw [h1,HRT.out]
    exact (nxtE_of HM.out.wf.einc (by rw [HPA.out];exact hx) h3 h2).symm)
   have HEX:=Lib.hid (show ∃ x ∈ a.ed,x.f = r'.s∧x.e = r'.e from ⟨x9,by rw [← HPA.out];exact hx9,by rw [hxf9,HRT.out],hxe9⟩)
   have HYR:=Lib.hid hy
   have HNR:=Lib.hid (show 0 ≤ NN∧NN < (n:Int) from by
    have:=(HER.out x9 (by rw [← HPA.out];exact hx9)).2
    rw [hxt9] at this
    exact this)
   clear hrr hy hx9 hxf9 hxe9 hxt9 hNN HX
   go_wp2_with (first | (at_builtin;refine wpList_pushN w5 [.int .i64 r'.s,.int .i64 r'.k,.int .i64 2,.int .i64 r'.e] rfl (.tmp 44) (.tmp 46) 36 rfl w3.heap.size 63 (.agg #[.int .i64 0,.int .i64 0,.int .i64 0,.int .i64 0]) 4 32 Try.underlying36 rm_info rfl (by decide) rfl (.slice OA m oc) m _ rfl HO5.out rfl (fun u hu=>by simp at hu;rcases hu with rfl | rfl | rfl | rfl <;> rfl) (by omega) (by omega) hsz ?_;intro v' w6 ho' hg' hb6;clear e0 e1 e2 e3;have kv:=HAP.out w6 hg';have e0:=kv.cell (j:=0) rfl;have e2:=kv.cell (j:=2) rfl;have e3:=kv.cell (j:=3) rfl;have a3:=(HK.out w6 (HB3.out.trans ((HB5.out.trans hb6).mono HB3.out.size))).cell (j:=3) rfl) | fail)
   have HK6:=Lib.hid kv
   have HO6:=Lib.hid (show w6.ownsRow w3.heap.size 63 4 v' (m + 1) ((O ++ [r']).flatMap rmc) from by
    rw [List.flatMap_append]
    rw [← HRC.out] at ho'
    simpa using ho')
   have HB6:=Lib.hid (HB5.out.trans hb6)
   have HNX:=Lib.hid (show NxS r' t NN (a.ed.take 0) t from .inr ⟨rfl,fun x hx=>by simp at hx⟩)
   clear e0 e2 e3 a3 kv ho' hg' hb6 HO5 HB5 HAP HNB hsz ke
   go_loopw [2,14,56] (fun s2 s14 s56 wr=>∃ (j:Nat) (u:Int) (v14:Value),s2 = .int .i64 u∧s14 = v14∧s56 = .int .i64 j∧j ≤ ne∧(0 ≤ u∧u < (n:Int))∧Hid (NxS r' t NN (a.ed.take j) u)∧Hid (Blk wr b12 63 [.int .i64 r'.s,.int .i64 r'.k,.int .i64 2,.int .i64 r'.e])∧Hid (wr.ownsRow w3.heap.size 63 4 v' (m + 1) ((O ++ [r']).flatMap rmc))∧Hid (Below w3.heap.size w3 wr)) (fun _ _ s56 _=>ne - (intOf s56).toNat)
   case atStart=>exact ⟨0,t,_,rfl,rfl,rfl,Nat.zero_le _,⟨t0,t1⟩,HNX,HK6,HO6,HB6⟩
   case round =>
    clear HNX HK6 HO6 HB6
    obtain ⟨j,u,v14,rfl,rfl,rfl,hj,⟨u0,u1⟩,HNX,HK6,HO6,HB6⟩:=hrel
    by_cases hlt:j < ne
    case neg =>
     obtain ⟨jn,hjn⟩:∃ q,q = ne:=⟨_,rfl⟩
     obtain rfl:j = ne:=by omega
     have b1:¬ (j:Int) < (j:Int):=by omega
     rw [List.take_of_length_le (by rw [HLE.out];exact Nat.le_refl _)] at HNX
     have hu:u = NN:=by
      rcases HNX.out with h9 | ⟨_,h9⟩
      ·exact h9
      ·obtain ⟨x,hx,hm9⟩:=HEX.out
       exact absurd hm9 (h9 x hx)
     subst hu
     have HNR9:=Lib.hid (show ∀ r,rmOf CC u = some r → r.k < ((r'.k.toNat:Nat):Int) from fun r hr=>by
      rw [HYR.out] at hr
      injection hr with hr
      rw [← hr];omega)
     have HSO:=Lib.hid (show rmOf CC u ≠ none by rw [HYR.out];simp)
     have hmk:m + 1 + r'.k.toNat ≤ 4098:=by omega
     have hkk:r'.k.toNat < gk:=by omega
     clear hjn hlt hyk hkg
     go_wp2
     go_roundg (r'.k.toNat)
     case rel=>exact ⟨u,O ++ [r'],m + 1,_,_,_,_,rfl,rfl,rfl,rfl,rfl,⟨u0,u1⟩,hmk,HX9,Lib.hid (.inr HSO.out),HNR9,Lib.hid (by rw [List.length_append,HOL.out];rfl),HO6,HB6⟩
     case measure=>exact hkk
    have b1:(j:Int) < (ne:Int):=by omega
    obtain ⟨ad2,x,hA,hab,hx,g0,g1,g2⟩:=(HZ.out wr (HB3.out.trans (HB6.out.mono HB3.out.size))).x.re.at_ (k:=j) (by show j < a.ed.length;rw [HLE.out];exact hlt)
    have hA':E = some ad2:=hA
    subst hA'
    have r1:wr.cell? ⟨(ad2.add (j * 3)).block,(ad2.add (j * 3)).off + 1,none⟩ = some (.int .i64 x.e):=st_cells (j:=0) g1
    have r2:wr.cell? ⟨(ad2.add (j * 3)).block,(ad2.add (j * 3)).off + 2,none⟩ = some (.int .i64 x.t):=st_cells (j:=1) g2
    have hxm:x ∈ a.ed:=List.mem_of_getElem? hx
    obtain ⟨_,x0,x1⟩:=HER.out x hxm
    have hbx:=box_below wr (.cells #[.int .i64 x.f,.int .i64 x.e,.int .i64 x.t] 67)
    have kx:Blk (wr.alloc (.cells #[.int .i64 x.f,.int .i64 x.e,.int .i64 x.t] 67)) wr.heap.size 67 [.int .i64 x.f,.int .i64 x.e,.int .i64 x.t]:=Blk.new _ _ [_,_,_]
    have HK7:=Lib.hid (HK6.out.below hbx HK6.out.lt)
    have HO7:=Lib.hid (own_below HO6.out hbx)
    have HB7:=Lib.hid (HB6.out.trans (hbx.mono HB6.out.size))
    have HTS:=Lib.hid (take_snoc' hx)
    have HXM:=Lib.hid hxm
    clear hA hab hx hbx hxm HK6 HO6 HB6
    go_upto_region 17 with fail
    clear g0 g1 g2 r1 r2
    generalize wr.heap.size = bx at kx ⊢
    generalize wr.alloc (.cells #[.int .i64 x.f,.int .i64 x.e,.int .i64 x.t] 67) = w7 at kx HK7 HO7 HB7 ⊢
    have e0:=HK7.out.cell (j:=0) rfl
    have e3:=HK7.out.cell (j:=3) rfl
    have d0:=kx.cell (j:=0) rfl
    have d1:=kx.cell (j:=1) rfl
    have d2:=kx.cell (j:=2) rfl
    by_cases hm9:x.f = r'.s∧x.e = r'.e
    ·have q1:(x.f == r'.s) = true:=by simpa using hm9.1
     have q2:(x.e == r'.e) = true:=by simpa using hm9.2
     have HN9:=Lib.hid (show NxS r' t NN (a.ed.take (j + 1)) x.t from .inl (HUQ.out x HXM.out hm9))
     clear hm9
     go_wp2
     go_roundw
     case rel=>exact ⟨j + 1,x.t,_,rfl,rfl,by go_num,by omega,⟨x0,x1⟩,HN9,HK7,HO7,HB7⟩
     case measure=>simp [intOf];omega
    ·have HN9:=Lib.hid (show NxS r' t NN (a.ed.take (j + 1)) u from HNX.out.imp id (fun h9=>⟨h9.1,fun y hy=>by
      rw [HTS.out] at hy
      rcases List.mem_append.1 hy with hy | hy
      ·exact h9.2 y hy
      ·rw [List.mem_singleton.1 hy];exact hm9⟩))
     by_cases q1:x.f = r'.s
     ·have q1':(x.f == r'.s) = true:=by simpa using q1
      have q2':(x.e == r'.e) = false:=by rw [beq_eq_false_iff_ne];exact fun e=>hm9 ⟨q1,e⟩
      clear hm9 q1
      go_wp2
      go_roundw
      case rel=>exact ⟨j + 1,u,_,rfl,rfl,by go_num,by omega,⟨u0,u1⟩,HN9,HK7,HO7,HB7⟩
      case measure=>simp [intOf];omega
     ·have q1':(x.f == r'.s) = false:=by rw [beq_eq_false_iff_ne];exact q1
      clear hm9 q1
      go_wp2
      go_roundw
      case rel=>exact ⟨j + 1,u,_,rfl,rfl,by go_num,by omega,⟨u0,u1⟩,HN9,HK7,HO7,HB7⟩
      case measure=>simp [intOf];omega
end Go.Proofs.Ytdnmpndnpfklcaa

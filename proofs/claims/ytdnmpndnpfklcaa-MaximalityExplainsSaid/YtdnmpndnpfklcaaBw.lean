/- Walk of the law MaximalityExplains. -/
import Derived.Test.YtdnmpndnpfklcaaBs
namespace Go.Proofs.Ytdnmpndnpfklcaa
open Go.RowKit Go Go.Maps
theorem own_lit4x (w:World) (base:Nat) (hb:base ≤ w.heap.size) (a b c d:Value) (e:TypeId):(w.alloc (.cells #[a,b,c,d] e)).ownsRow base e 4 (.slice (some ⟨w.heap.size,0,none⟩) 1 1) 1 [a,b,c,d] :=
 ⟨by simp,.inr ⟨w.heap.size,1,#[a,b,c,d],rfl,hb,heap_alloc_new w _,Nat.le_refl _,by unfold maxLen;omega,by simp,by simp⟩⟩
theorem rm_put4 {w:World} {b:Nat} {v0 v1 v2 v3:Value} (k:Blk w b 63 [v0,v1,v2,v3]) (r:Rm):Blk (w.setCells b 0 (rmc r)) b 63 (rmc r)∧w.grownBy (w.setCells b 0 (rmc r)) (some b)∧w.there b 0 4 :=
 ⟨(k.sets (rmc r) (o:=0) (by simp [rmc])).1,(k.sets (rmc r) (o:=0) (by simp [rmc])).2,k.there (o:=0) (n:=4) (by simp)⟩
def XpR (p:Mx) (c:Ce) (s:Int) (W:World) (LA:Option Addr) (ll lc:Nat) (er:Int):Prop:=(rmOf c s = none∧ll = 0∧er = 22) ∨ (er = 0∧ll ≤ 5000∧ll ≤ lc∧lc ≤ 9223372036854775807∧∃ L:List Rm,Exp p c s L∧L.length = ll∧RdR 4 rmc W W.heap.size LA L)
theorem retExp_one {p:Mx} {c:Ce} {s:Int} {w w':World} {e:Ending} (h:RetExp p c s w e w'):∃ (LA:Option Addr) (ll lc:Nat) (er:Int),e = .returned (.tuple #[.slice LA ll lc,.int .i64 er])∧Hid (XpR p c s w' LA ll lc er)∧Below w.heap.size w w':=by
 rcases h with ⟨h1,rfl,hb⟩ | ⟨L,v,hx,hl,rfl,ho,hb⟩
 ·exact ⟨none,0,0,22,rfl,Lib.hid (.inl ⟨h1,rfl,rfl⟩),hb⟩
 ·obtain ⟨LA,lc,rfl⟩:=own_shape ho
  have hc:=own_cap' ho
  exact ⟨LA,L.length,lc,0,rfl,Lib.hid (.inr ⟨rfl,hl,hc.1,hc.2,L,hx,rfl,RdR.of_own (by omega) (fun _ _=>rfl) ho⟩),hb⟩
set_option maxRecDepth 100000 in
set_option maxHeartbeats 12800000 in
theorem explains_walk (g:Sm4) (u f a:Int) (w:World) (h0:g.ok∧(0 ≤ u∧u ≤ 255)∧0 ≤ f∧f ≤ 255) (ha:0 ≤ a∧a ≤ 255) :
  Calls Try.prog 6 #[.agg (sp4 g u f).toArray,.int .u8 a] w fun e w'=>e = .returned (.bool true)∧Below w.heap.size w w':=by
 obtain ⟨hg,hu,hf⟩:=h0
 have hlen:(sp4 g u f).length = 28:=by unfold sp4;rw [List.length_append,smc_len hg];rfl
 have hb1:=box_below w (.cells (sp4 g u f).toArray 27)
 have kx:=Blk.new w 27 (sp4 g u f)
 obtain ⟨w1,hw1⟩:∃ w1,w1 = w.alloc (.cells (sp4 g u f).toArray 27):=⟨_,rfl⟩
 rw [← hw1] at hb1 kx
 have HKN:=Lib.hid (law_Known28 w1)
 have HG:=Lib.hid hg
 have HU:=Lib.hid hu
 have HF:=Lib.hid hf
 have HLN:=Lib.hid hlen
 have HB1:=Lib.hid hb1
 have HKX:=Lib.hid kx
 have HW1:=Lib.hid hw1
 clear hg hu hf hlen hb1 kx hw1
 go_enter Try.func6,Try.ntmps6
 go_upto_region 1 with fail
 rw [← HW1.out]
 go_wp2_with fail
 refine HKN.out.mono ?_
 rintro e w2 ⟨rfl,hb2⟩
 have HB2:=Lib.hid (HB1.out.trans (hb2.mono HB1.out.size))
 have HK2:=Lib.hid (HKX.out.below hb2 HKX.out.lt)
 clear HKN hb2 HKX HB1 HW1
 have hrg:w2.rangeAt w.heap.size 0 (sp4 g u f):=fun j v hj=>by rw [Nat.zero_add];exact HK2.out.cell hj
 go_wp2_with (first | (refine wpList_load_mid rfl 27 (.tmp 2) rfl w.heap.size 0 rfl (sp4 g u f) _ hrg Try.underlying27 rfl (by rw [HLN.out];kernel_rfl) ?_) | fail)
 refine (law_Make28 g u f w2 HG.out HU.out HF.out).mono ?_
 rintro e w3 ⟨z1,rfl,hz1,hm1,hb3⟩
 have HM1:=Lib.hid hm1
 have HB3:=Lib.hid (HB2.out.trans (hb3.mono HB2.out.size))
 have HK3:=Lib.hid (HK2.out.below hb3 HK2.out.lt)
 clear hrg hb3 HB2 HK2 hm1
 have HPB:=Lib.hid (show ∀ z:PB,pbc z = [.slice z.x.A z.x.na z.x.ca,.int .i64 z.x.a.st,.slice z.x.M z.x.nm z.x.cm,.slice z.x.E z.x.ne z.x.ce,.slice z.u.A z.u.n z.u.c,.slice z.f.A z.f.n z.f.c] from fun z=>rfl)
 rw [HPB.out z1]
 have hbx:=box_below w3 (.cells #[.slice z1.x.A z1.x.na z1.x.ca,.int .i64 z1.x.a.st,.slice z1.x.M z1.x.nm z1.x.cm,.slice z1.x.E z1.x.ne z1.x.ce,.slice z1.u.A z1.u.n z1.u.c,.slice z1.f.A z1.f.n z1.f.c] 34)
 have k7:=Blk.new w3 34 [.slice z1.x.A z1.x.na z1.x.ca,.int .i64 z1.x.a.st,.slice z1.x.M z1.x.nm z1.x.cm,.slice z1.x.E z1.x.ne z1.x.ce,.slice z1.u.A z1.u.n z1.u.c,.slice z1.f.A z1.f.n z1.f.c]
 have HZ4:=Lib.hid ((hz1.below hbx).more hbx.size)
 have HB4:=Lib.hid (HB3.out.trans (hbx.mono HB3.out.size))
 clear hz1 HB3 HK3
 go_upto_region 4 with fail
 obtain ⟨b7,hb7⟩:∃ b,w3.heap.size = b:=⟨_,rfl⟩
 rw [hb7] at k7 ⊢
 clear hb7 hbx
 generalize w3.alloc (.cells #[.slice z1.x.A z1.x.na z1.x.ca,.int .i64 z1.x.a.st,.slice z1.x.M z1.x.nm z1.x.cm,.slice z1.x.E z1.x.ne z1.x.ce,.slice z1.u.A z1.u.n z1.u.c,.slice z1.f.A z1.f.n z1.f.c] 34) = w4 at k7 HZ4 HB4 ⊢
 have HZ:=Lib.hid (fun (W:World) (hb:Below w4.heap.size w4 W)=>(HZ4.out.below hb).more hb.size)
 have HP:=Lib.hid (fun (W:World) (hb:Below w4.heap.size w4 W)=>Blk.c6 (k7.below hb k7.lt))
 clear k7
 have HOK:=Lib.hid (show z1.m.ok by rw [HM1.out];exact prb4_ok g u f)
 obtain ⟨n,hn,hn1,hn6⟩:∃ n:Nat,z1.x.a.st = (n:Int)∧1 ≤ n∧n ≤ 6:=⟨g.n,by have e:z1.m.a.st = z1.x.a.st:=rfl;rw [← e,HM1.out];rfl,g.n_le⟩
 have HN:=Lib.hid hn
 have HST:=Lib.hid (show z1.m.a.st = (n:Int) from hn)
 have HPD:=Lib.hid (fun (W:World) (hb:Below w4.heap.size w4 W)=>law_proved z1 n W (HZ.out W hb) HOK.out hn)
 have HEXP:=Lib.hid (fun (c:CV) (s:Int) (W:World) (hb:Below w4.heap.size w4 W) (hc:c.ok W W.heap.size) (hrn:c.rn ≤ 1000000) (hf:FOk z1.m.a.st c.ce∧VOk z1.m c.ce) (hs:0 ≤ s∧s < (n:Int))=>max_Explain z1 c s W (HZ.out W hb) HOK.out hc hrn hf.1 hf.2 (by rw [HST.out];exact hs))
 have HRNK:=Lib.hid (fun (c:CV) (W:World) (hb:Below w4.heap.size w4 W) (hc:c.ok W W.heap.size) (hrn:c.rn ≤ 1000000) (hf:FOk z1.m.a.st c.ce∧VOk z1.m c.ce)=>max_Ranks z1 c W (HZ.out W hb) HOK.out hc hrn hf.1 hf.2)
 rw [HPB.out z1] at HPD HEXP HRNK
 rw [hn] at HPD HEXP HRNK HP ⊢
 clear hn
 obtain ⟨⟨a0,a1,a2,a3,a4⟩,a5⟩:=HP.out w4 (Below.refl _ _)
 go_wp2_with fail
 refine (HPD.out w4 (Below.refl _ _)).mono ?_
 rintro e w8 ⟨C,rfl,hC,hCe,hrn,hb8⟩
 have HCE:=Lib.hid hCe
 have HRNC:=Lib.hid hrn
 have HCV:=Lib.hid (show cvc C = [.slice C.k.A C.k.n C.k.c,.slice C.d.A C.d.n C.d.c,.slice C.R C.rn C.rc] from rfl)
 rw [HCV.out]
 clear a0 a1 a2 a3 a4 a5 hCe HPD
 have hbx:=box_below w8 (.cells #[.slice C.k.A C.k.n C.k.c,.slice C.d.A C.d.n C.d.c,.slice C.R C.rn C.rc] 38)
 have k9:=Blk.new w8 38 [.slice C.k.A C.k.n C.k.c,.slice C.d.A C.d.n C.d.c,.slice C.R C.rn C.rc]
 have hc9:=(hC.below hbx).more hbx.size
 have HB49:=Lib.hid (hb8.trans (hbx.mono hb8.size))
 go_upto_region 5 with fail
 obtain ⟨b9,hb9⟩:∃ b,w8.heap.size = b:=⟨_,rfl⟩
 rw [hb9] at k9 ⊢
 clear hb9 hbx hC hb8
 generalize w8.alloc (.cells #[.slice C.k.A C.k.n C.k.c,.slice C.d.A C.d.n C.d.c,.slice C.R C.rn C.rc] 38) = w9 at k9 hc9 HB49 ⊢
 have HCO:=Lib.hid (fun (W:World) (hb:Below w9.heap.size w9 W)=>(hc9.below hb).more hb.size)
 have HCK:=Lib.hid (fun (W:World) (hb:Below w9.heap.size w9 W)=>Blk.c3 (k9.below hb k9.lt))
 have H49:=Lib.hid (fun (W:World) (hb:Below w9.heap.size w9 W)=>HB49.out.trans (hb.mono HB49.out.size))
 clear k9 hc9
 have HCF:=Lib.hid (show FOk z1.m.a.st C.ce∧VOk z1.m C.ce by rw [HCE.out];exact prvC_ok HOK.out)
 obtain ⟨a8,rfl⟩:∃ k:Nat,a = (k:Int):=⟨a.toNat,by omega⟩
 obtain ⟨⟨a0,a1,a2,a3,a4⟩,a5⟩:=HP.out w9 HB49.out
 have hn0:¬ (n:Int) = 0:=by omega
 have hn0b:((n:Int) == 0) = false:=by simpa using hn0
 go_upto_region 6 with fail
 clear a0 a1 a2 a3 a4 a5
 obtain ⟨s0,hs0⟩:∃ k:Nat,(a8:Int) % (n:Int) = (k:Int):=⟨((a8:Int) % (n:Int)).toNat,by have:=Int.emod_nonneg (a8:Int) hn0;omega⟩
 have hs0n:s0 < n:=by have:=Int.emod_lt_of_pos (a8:Int) (by omega:(0:Int) < (n:Int));omega
 rw [hs0]
 clear hs0
 have HXP:=Lib.hid (HEXP.out C (s0:Int) w9 HB49.out (HCO.out w9 (Below.refl _ _)) HRNC.out HCF.out (by omega))
 rw [HCV.out] at HXP
 obtain ⟨⟨a0,a1,a2,a3,a4⟩,a5⟩:=HP.out w9 HB49.out
 obtain ⟨c0,c1,c2⟩:=HCK.out w9 (Below.refl _ _)
 go_wp2_with fail
 refine HXP.out.mono ?_
 intro e wb hxe
 obtain ⟨LA,ll,lc,er,rfl,HXR,hbb⟩:=retExp_one hxe
 have HBB:=Lib.hid hbb
 clear a0 a1 a2 a3 a4 a5 c0 c1 c2 HXP HEXP hxe hbb
 have HRK:=Lib.hid (HRNK.out C wb (H49.out wb HBB.out) (HCO.out wb HBB.out) HRNC.out HCF.out)
 rw [HCV.out] at HRK
 obtain ⟨R,hR⟩:∃ q,(mxR C.rm).toNat = q:=⟨_,rfl⟩
 have HRE:=Lib.hid hR
 rw [hR] at HRK
 clear hR
 obtain ⟨⟨a0,a1,a2,a3,a4⟩,a5⟩:=HP.out wb (H49.out wb HBB.out)
 obtain ⟨c0,c1,c2⟩:=HCK.out wb HBB.out
 go_wp2_with fail
 refine HRK.out.mono ?_
 rintro e wc2 ⟨ob,rfl,hkd,hdl,hob,hbc⟩
 have HKD:=Lib.hid (fun (W:World) (hb:Below wc2.heap.size wc2 W)=>hkd.below hb hkd.lt)
 have HDL:=Lib.hid hdl
 have H9C:=Lib.hid (fun (W:World) (hb:Below wc2.heap.size wc2 W)=>HBB.out.trans ((hbc.trans (hb.mono hbc.size)).mono HBB.out.size))
 have HBBC:=Lib.hid (fun (W:World) (hb:Below wc2.heap.size wc2 W)=>hbc.trans (hb.mono hbc.size))
 have HML:=Lib.hid (show C.rm.length = C.rn from (HCO.out w9 (Below.refl _ _)).rl)
 have hrn:=HRNC.out
 clear a0 a1 a2 a3 a4 a5 c0 c1 c2 HRK HRNK hkd hdl hob hbc
 obtain ⟨⟨a0,a1,a2,a3,a4⟩,a5⟩:=HP.out wc2 (H49.out wc2 (H9C.out wc2 (Below.refl _ _)))
 obtain ⟨c0,c1,c2⟩:=HCK.out wc2 (H9C.out wc2 (Below.refl _ _))
 go_upto_region 9 with fail
 clear a0 a1 a2 a3 a4 a5 c0 c1 c2
 go_wp2
 go_loopw [12,13] (fun s12 s13 wr=>∃ (k:Nat) (mx:Int),s12 = .int .i64 mx∧s13 = .int .i64 k∧k ≤ C.rn∧Hid (mxR (C.rm.take k) = mx)∧wr = wc2) (fun _ s13 _=>C.rn - (intOf s13).toNat)
 case atStart=>exact ⟨0,0,rfl,rfl,Nat.zero_le _,Lib.hid rfl,rfl⟩
 case round =>
  obtain ⟨k,mx,rfl,rfl,hk,HMX,rfl⟩:=hrel
  obtain ⟨c0,c1,c2⟩:=HCK.out wr (H9C.out wr (Below.refl _ _))
  by_cases hlt:k < C.rn
  case pos =>
   have b1:(k:Int) < (C.rn:Int):=by omega
   obtain ⟨ad,r,hA,hr,g0,g1,g2,g3⟩:=rm_reads (HCO.out wr (H9C.out wr (Below.refl _ _))).rr (j:=k) (by rw [HML.out];exact hlt)
   have hcc:=(HCO.out wr (H9C.out wr (Below.refl _ _))).r1
   have hcd:=(HCO.out wr (H9C.out wr (Below.refl _ _))).r2
   rw [hA] at c2
   obtain ⟨rk,hrk⟩:∃ q,r.k = q:=⟨_,rfl⟩
   rw [hrk] at g1
   have HMN:=Lib.hid (show mxR (C.rm.take (k + 1)) = max mx rk by rw [take_snoc' hr,mxR_snoc,HMX.out,hrk])
   clear hr hrk hA g0 g2 g3
   go_wp2
   go_roundw
   case rel=>exact ⟨k + 1,_,rfl,by go_num,by omega,HMN,by first | rfl | trivial⟩
   case measure=>simp [intOf];omega
  obtain rfl:k = C.rn:=by omega
  have b1:¬ (C.rn:Int) < (C.rn:Int):=by omega
  obtain rfl:mx = (R:Int):=by
   have h1:=HMX.out
   rw [List.take_of_length_le (by rw [HML.out];exact Nat.le_refl _)] at h1
   have h2:=(mxR_ge C.rm 0).1
   have h3:(mxR C.rm).toNat = R:=HRE.out
   unfold mxR at h1 h3
   omega
  have hRn:R ≤ 4097:=by
   have h3:(mxR C.rm).toNat = R:=HRE.out
   have h4:=mxR_le (b:=4097) C.rm 0 (by omega) (fun r hr=>(HCF.out.2.rmv r hr).rk.2)
   unfold mxR at h3
   omega
  clear HMX
  go_wp2
  go_loopw [14,15,16] (fun s14 s15 s16 wr2=>∃ (i:Nat) (v15 v16:Value),s14 = .int .i64 i∧s15 = v15∧s16 = v16∧i ≤ R∧Hid (Below wr.heap.size wr wr2)) (fun s14 _ _ _=>R - (intOf s14).toNat)
  case atStart=>exact ⟨0,_,_,rfl,rfl,rfl,Nat.zero_le _,Lib.hid (Below.refl _ _)⟩
  case round =>
   obtain ⟨i,v15,v16,rfl,rfl,rfl,hi,HBI⟩:=hrel
   by_cases hlt:i < R
   case pos =>
    have b2:(i:Int) < (R:Int):=by omega
    obtain ⟨wp,rfl⟩:∃ wp,wp = wr:=⟨_,rfl⟩
    go_wp2
    go_loopw [15,16] (fun s15 s16 wr3=>∃ (ct j:Nat),s15 = .int .i64 ct∧s16 = .int .i64 j∧j ≤ C.rn∧ct ≤ j∧Hid (cnR (C.rm.take j) ((i:Int) + 1) = ct)∧wr3 = wp) (fun _ s16 _=>C.rn - (intOf s16).toNat)
    case atStart=>exact ⟨0,0,rfl,rfl,Nat.zero_le _,Nat.le_refl _,Lib.hid rfl,rfl⟩
    case round =>
     obtain ⟨ct,j,rfl,rfl,hj,hct,HCT,rfl⟩:=hrel
     have H9:=H9C.out _ HBI.out
     obtain ⟨c0,c1,c2⟩:=HCK.out _ H9
     by_cases hlj:j < C.rn
     case pos =>
      have b3:(j:Int) < (C.rn:Int):=by omega
      obtain ⟨ad,r,hA,hr,g0,g1,g2,g3⟩:=rm_reads (HCO.out _ H9).rr (j:=j) (by rw [HML.out];exact hlj)
      have hcc:=(HCO.out _ H9).r1
      have hcd:=(HCO.out _ H9).r2
      rw [hA] at c2
      have hrk0:=(HCF.out.2.rmv r (List.mem_of_getElem? hr)).rk
      obtain ⟨rk,hrk⟩:∃ q,r.k = q:=⟨_,rfl⟩
      rw [hrk] at g1 hrk0
      have HCN:=Lib.hid (show cnR (C.rm.take (j + 1)) ((i:Int) + 1) = ct + (if rk = (i:Int) + 1 then 1 else 0) by
       rw [take_snoc' hr]
       unfold cnR
       rw [List.countP_append,← hrk]
       have h9:=HCT.out
       unfold cnR at h9
       rw [h9]
       by_cases h8:r.k = (i:Int) + 1 <;> simp [h8])
      clear hr hrk hA g0 g2 g3
      by_cases hke:rk = (i:Int) + 1
      ·subst hke
       have HC1:=Lib.hid (show cnR (C.rm.take (j + 1)) ((i:Int) + 1) = ct + 1 by rw [HCN.out,if_pos rfl])
       clear HCN
       go_wp2
       go_roundw
       case rel=>exact ⟨ct + 1,j + 1,by go_num,by go_num,by omega,by omega,HC1,by first | rfl | trivial⟩
       case measure=>simp [intOf];omega
      ·have hkb:(rk == (i:Int) + 1) = false:=by simpa using hke
       have HC1:=Lib.hid (show cnR (C.rm.take (j + 1)) ((i:Int) + 1) = ct by rw [HCN.out,if_neg hke];rfl)
       clear HCN
       go_wp2
       go_roundw
       case rel=>exact ⟨ct,j + 1,rfl,by go_num,by omega,by omega,HC1,by first | rfl | trivial⟩
       case measure=>simp [intOf];omega
     obtain rfl:j = C.rn:=by omega
     have b3:¬ (C.rn:Int) < (C.rn:Int):=by omega
     have hRm:(R:Int) = mxR C.rm:=by
      have h2:=(mxR_ge C.rm 0).1
      have h3:(mxR C.rm).toNat = R:=HRE.out
      unfold mxR at h3 ⊢
      omega
     have hgi:gI (rnkS C.rm) (i:Int) = (ct:Int):=by
      have h1:=(rnkS_spec (l:=C.rm) (fun r hr=>(HCF.out.2.rmv r hr).rk.1)).2 (i:Int) (by omega) (by omega)
      have h2:=HCT.out
      rw [List.take_of_length_le (by rw [HML.out];exact Nat.le_refl _)] at h2
      rw [h1,h2]
     have e0:=(HKD.out _ HBI.out).cell (iv_gI (l:=rnkS C.rm) (i:=i) (by rw [HDL.out];exact hlt))
     rw [hgi] at e0
     have t1:¬ (i:Int) < 0:=by omega
     clear hRm hgi
     go_wp2
     go_roundw
     case rel=>exact ⟨i + 1,_,_,by go_num,rfl,rfl,by omega,HBI⟩
     case measure=>simp [intOf];omega
   obtain rfl:i = R:=by omega
   have b2:¬ (i:Int) < (i:Int):=by omega
   have H9:=H9C.out _ HBI.out
   have HRV:=Lib.hid (fun (W:World) (hb:Below w9.heap.size w9 W) (x:Int)=>law_removal C x W (HCO.out W hb))
   rw [HCV.out] at HRV
   obtain ⟨c0,c1,c2⟩:=HCK.out _ H9
   go_wp2_with fail
   refine (HRV.out _ H9 (s0:Int)).mono ?_
   rintro e wd2 ⟨rfl,hbd⟩
   have HBD:=Lib.hid (HBI.out.trans (hbd.mono HBI.out.size))
   clear c0 c1 c2 hbd
   cases hrm:rmOf C.ce (s0:Int) with
   | none =>
    have HRV0:=Lib.hid (show rmV (none:Option Rm) = .tuple #[.agg #[.int .i64 0,.int .i64 0,.int .i64 0,.int .i64 0],.bool false] from rfl)
    rw [HRV0.out]
    obtain ⟨hl0,her⟩:ll = 0∧er = 22:=by
     rcases HXR.out with ⟨_,h1,h2⟩ | ⟨_,_,_,_,L,hx,_⟩
     ·exact ⟨h1,h2⟩
     ·cases hx with
      | fin h1 _=>rw [hrm] at h1;cases h1
      | go h1 _ _=>rw [hrm] at h1;cases h1
    subst hl0 her
    clear hrm
    have HFN:=Lib.hid (show Below w.heap.size w wd2 from HB4.out.trans ((H49.out _ (H9C.out _ HBD.out)).mono HB4.out.size))
    go_wp2
    go_ret
    have hbz:=box_below wd2 (.cells #[.int .i64 0,.int .i64 0,.int .i64 0,.int .i64 0] 63)
    exact ⟨rfl,HFN.out.trans (hbz.mono HFN.out.size)⟩
   | some r =>
    have HRV0:=Lib.hid (show rmV (some r) = .tuple #[.agg #[.int .i64 r.s,.int .i64 r.k,.int .i64 r.r,.int .i64 r.e],.bool true] from rfl)
    rw [HRV0.out]
    obtain ⟨her,hll,hlc1,hlc2,L,HXE,HLL,HLR⟩:er = 0∧ll ≤ 5000∧ll ≤ lc∧lc ≤ 9223372036854775807∧∃ L:List Rm,Hid (Exp z1.m C.ce (s0:Int) L)∧Hid (L.length = ll)∧Hid (RdR 4 rmc wb wb.heap.size LA L):=by
     rcases HXR.out with ⟨h0,_,_⟩ | ⟨h1,h2,h3,h4,L,hx,h5,h6⟩
     ·rw [hrm] at h0;cases h0
     ·exact ⟨h1,h2,h3,h4,L,Lib.hid hx,Lib.hid h5,Lib.hid h6⟩
    subst her
    go_upto_region 29 with fail
    have kr:=Blk.new wd2 63 [.int .i64 r.s,.int .i64 r.k,.int .i64 r.r,.int .i64 r.e]
    have hbz:=box_below wd2 (.cells #[.int .i64 r.s,.int .i64 r.k,.int .i64 r.r,.int .i64 r.e] 63)
    obtain ⟨bR,hbR⟩:∃ b,wd2.heap.size = b:=⟨_,rfl⟩
    have HBR:=Lib.hid hbR
    have HBZ:=Lib.hid hbz
    rw [hbR] at kr ⊢
    clear hbR hbz
    generalize wd2.alloc (.cells #[.int .i64 r.s,.int .i64 r.k,.int .i64 r.r,.int .i64 r.e] 63) = we at kr HBZ ⊢
    have HKR:=Lib.hid kr
    obtain ⟨d0,d1,d2,d3⟩:=Blk.c4 kr
    clear kr
    have hbe:=box_below we (.cells #[.int .i64 r.s,.int .i64 r.k,.int .i64 r.r,.int .i64 r.e] 63)
    have hre:bR + 1 ≤ we.heap.size:=HKR.out.lt
    have HOW:=Lib.hid (own_lit4x we (bR + 1) hre (.int .i64 r.s) (.int .i64 r.k) (.int .i64 r.r) (.int .i64 r.e) 63)
    have HKE:=Lib.hid (HKR.out.below hbe HKR.out.lt)
    have HBE:=Lib.hid (show Below bR wd2 (we.alloc (.cells #[.int .i64 r.s,.int .i64 r.k,.int .i64 r.r,.int .i64 r.e] 63)) from (HBR.out ▸ HBZ.out.trans (hbe.mono HBZ.out.size)))
    clear hbe
    have HPR0:=Lib.hid (show ∃ pre rest:List Rm,L = pre ++ r :: rest∧pre.length + 1 = 1∧Exp z1.m C.ce (s0:Int) (r :: rest)∧(we.alloc (.cells #[.int .i64 r.s,.int .i64 r.k,.int .i64 r.r,.int .i64 r.e] 63)).ownsRow (bR + 1) 63 4 (.slice (some ⟨we.heap.size,0,none⟩) 1 1) 1 ((pre ++ [r]).flatMap rmc) from by
     have hx:=HXE.out
     cases hx with
     | fin h1 h2=>rw [hrm] at h1;injection h1 with h1;subst h1;exact ⟨[],[],rfl,rfl,.fin hrm h2,HOW.out⟩
     | go h1 h2 h3=>rw [hrm] at h1;injection h1 with h1;subst h1;exact ⟨[],_,rfl,rfl,.go hrm h2 h3,HOW.out⟩)
    clear HOW
    go_wp2
    go_loopw [7,19,20,21,22,23] (fun s7 s19 s20 s21 s22 s23 wq=>∃ (s:Nat) (y:Rm) (m c:Nat) (A:Option Addr) (v20 v21 v22 v23:Value),s7 = .int .i64 s∧s19 = .slice A m c∧s20 = v20∧s21 = v21∧s22 = v22∧s23 = v23∧s < n∧m ≤ ll∧Hid (∃ pre rest:List Rm,L = pre ++ y :: rest∧pre.length + 1 = m∧Exp z1.m C.ce (s:Int) (y :: rest)∧wq.ownsRow (bR + 1) 63 4 (.slice A m c) m ((pre ++ [y]).flatMap rmc))∧Hid (Blk wq bR 63 [.int .i64 y.s,.int .i64 y.k,.int .i64 y.r,.int .i64 y.e])∧Hid (Below bR wd2 wq)) (fun _ s19 _ _ _ _ _=>match s19 with | .slice _ m _=>ll - m | _=>0)
    case atStart=>exact ⟨s0,r,1,1,_,_,_,_,_,rfl,rfl,rfl,rfl,rfl,rfl,hs0n,by obtain ⟨pre,rest,h1,h2,_⟩:=HPR0.out;rw [← HLL.out,h1,List.length_append,List.length_cons];omega,HPR0,HKE,HBE⟩
    case round =>
     clear HPR0 HKE HBE d0 d1 d2 d3
     obtain ⟨wq,rfl⟩:∃ q,q = wr:=⟨_,rfl⟩
     obtain ⟨s,y,m,c,A,v20,v21,v22,v23,rfl,rfl,rfl,rfl,rfl,rfl,hsn,hml,HPR,HKY,HBQ⟩:=hrel
     obtain ⟨ys,yk,yr,ye⟩:=y
     dsimp only at HPR HKY
     have HBQ1:=Lib.hid (show Below wd2.heap.size wd2 wq by have h:=HBQ.out;rw [← HBR.out] at h;exact h)
     have HBQ2:=Lib.hid (HBD.out.trans (HBQ1.out.mono HBD.out.size))
     have HQ9:=Lib.hid (fun (W:World) (hb:Below wq.heap.size wq W)=>H9C.out W (HBQ2.out.trans (hb.mono HBQ2.out.size)))
     have HQK:=Lib.hid (fun (W:World) (hb:Below wq.heap.size wq W)=>HKY.out.below hb HKY.out.lt)
     have HBRQ:=Lib.hid (show bR + 1 ≤ wq.heap.size from HKY.out.lt)
     obtain ⟨d0,d1,d2,d3⟩:=Blk.c4 HKY.out
     by_cases hy2:yr = 2
     case pos =>
      subst hy2
      obtain ⟨s2,y2,hr2,hk2,hs2n,hnx,hed⟩:∃ (s2:Nat) (y2:Rm),rmOf C.ce (s2:Int) = some y2∧y2.k < yk∧s2 < n∧nxt z1.m.a (s:Int) ye = (s2:Int)∧∃ x ∈ z1.m.a.ed,x.f = (s:Int)∧x.e = ye:=by
       obtain ⟨pre,rest,_,_,hx,_⟩:=HPR.out
       have hr:rmOf C.ce (s:Int) = some ⟨ys,yk,2,ye⟩:=by
        cases hx with
        | fin h1 _=>exact h1
        | go h1 _ _=>exact h1
       obtain ⟨y2,h1,h2,x,hx1,hx2,hx3,_⟩:=HCF.out.2.next HCF.out.1 HOK.out.wf hr rfl
       dsimp only at h1 h2 hx2 hx3
       obtain ⟨h4,h5⟩:=(rmOf_some HCF.out.1).1 h1
       have h6:=HCF.out.1.rrng y2 h4
       have h7:z1.m.a.st = (n:Int):=HST.out
       refine ⟨(nxt z1.m.a (s:Int) ye).toNat,y2,?_,h2,by omega,by omega,x,hx1,hx2,hx3⟩
       rw [show (((nxt z1.m.a (s:Int) ye).toNat:Nat):Int) = nxt z1.m.a (s:Int) ye by omega]
       exact h1
      have HR2:=Lib.hid hr2
      have HNX:=Lib.hid hnx
      have HED:=Lib.hid hed
      clear hr2 hnx hed
      have HEL:=Lib.hid (show z1.m.a.ed.length = z1.x.ne from (HZ.out w4 (Below.refl _ _)).x.le)
      have hec:z1.x.ne ≤ z1.x.ce:=(HZ.out w4 (Below.refl _ _)).x.ec
      have hec2:z1.x.ce ≤ 9223372036854775807:=(HZ.out w4 (Below.refl _ _)).x.cE
      have HN0:=Lib.hid (show ∀ x ∈ z1.m.a.ed.take 0,¬ (x.f = (s:Int)∧x.e = ye) from fun x hx=>by simp at hx)
      go_wp2
      clear d0 d1 d2 d3
      go_loopw [7,20,21] (fun s7 s20 s21 wi=>∃ (k:Nat) (v21:Value),s7 = .int .i64 s∧s20 = .int .i64 k∧s21 = v21∧k ≤ z1.x.ne∧Hid (∀ x ∈ z1.m.a.ed.take k,¬ (x.f = (s:Int)∧x.e = ye))∧Hid (Below wq.heap.size wq wi)) (fun _ s20 _ _=>z1.x.ne - (intOf s20).toNat)
      case atStart=>exact ⟨0,_,rfl,rfl,rfl,Nat.zero_le _,HN0,Lib.hid (Below.refl _ _)⟩
      case round =>
       clear HN0
       obtain ⟨wi,rfl⟩:∃ q,q = wr:=⟨_,rfl⟩
       obtain ⟨k,v21,rfl,rfl,rfl,hk,HNO,HBJ⟩:=hrel
       obtain ⟨⟨a0,a1,a2,a3,a4⟩,a5⟩:=HP.out wi (H49.out wi (HQ9.out wi HBJ.out))
       by_cases hlt:k < z1.x.ne
       case neg =>
        exfalso
        obtain ⟨x,hx1,hx2,hx3⟩:=HED.out
        refine HNO.out x ?_ ⟨hx2,hx3⟩
        rw [List.take_of_length_le (by rw [HEL.out];omega)]
        exact hx1
       have b1:(k:Int) < (z1.x.ne:Int):=by omega
       obtain ⟨ad,x,hA,hab,hx,g0,g1,g2⟩:=(HZ.out wi (H49.out wi (HQ9.out wi HBJ.out))).x.re.at_ (k:=k) (by show k < z1.m.a.ed.length;rw [HEL.out];exact hlt)
       rw [hA] at a3
       have r1:wi.cell? ⟨(ad.add (k * 3)).block,(ad.add (k * 3)).off + 1,none⟩ = some (.int .i64 x.e):=st_cells (j:=0) g1
       have r2:wi.cell? ⟨(ad.add (k * 3)).block,(ad.add (k * 3)).off + 2,none⟩ = some (.int .i64 x.t):=st_cells (j:=1) g2
       have HX:=Lib.hid (show z1.m.a.ed[k]? = some x from hx)
       have hbx:=box_below wi (.cells #[.int .i64 x.f,.int .i64 x.e,.int .i64 x.t] 67)
       have ke:Blk (wi.alloc (.cells #[.int .i64 x.f,.int .i64 x.e,.int .i64 x.t] 67)) wi.heap.size 67 [.int .i64 x.f,.int .i64 x.e,.int .i64 x.t]:=Blk.new _ _ [_,_,_]
       have HB5:=Lib.hid (HBJ.out.trans (hbx.mono HBJ.out.size))
       clear hA hab hx hbx HBJ
       go_upto_region 35 with fail
       clear g0 g1 g2 r1 r2 a0 a1 a2 a3 a4 a5
       generalize wi.heap.size = bx at ke ⊢
       generalize wi.alloc (.cells #[.int .i64 x.f,.int .i64 x.e,.int .i64 x.t] 67) = w5 at ke HB5 ⊢
       obtain ⟨d0,d1,d2,d3⟩:=Blk.c4 (HQK.out w5 HB5.out)
       have e0:=ke.cell (j:=0) rfl
       have e1:=ke.cell (j:=1) rfl
       have HXT:=Lib.hid (show x.f = (s:Int) → x.e = ye → x.t = (s2:Int) from fun h1 h2=>by
        rw [← HNX.out]
        exact (nxtE_of HOK.out.wf.einc (List.mem_of_getElem? HX.out) h1 h2).symm)
       have HNY:=Lib.hid (show ¬ (x.f = (s:Int)∧x.e = ye) → ∀ y ∈ z1.m.a.ed.take (k + 1),¬ (y.f = (s:Int)∧y.e = ye) from fun h9 y hy=>by
        rw [take_snoc' HX.out] at hy
        rcases List.mem_append.1 hy with hy | hy
        ·exact HNO.out y hy
        ·rw [List.mem_singleton.1 hy];exact h9)
       have e2:=ke.cell (j:=2) rfl
       clear ke HX HNO
       by_cases hf:x.f = (s:Int)
       case neg =>
        have hf':(x.f == (s:Int)) = false:=by rw [beq_eq_false_iff_ne];exact hf
        have HN9:=Lib.hid (HNY.out (fun h=>hf h.1))
        clear hf
        go_wp2
        go_roundw
        case rel=>exact ⟨k + 1,_,rfl,by go_num,rfl,by omega,HN9,HB5⟩
        case measure=>simp [intOf];omega
       have hf':(x.f == (s:Int)) = true:=by simpa using hf
       by_cases hev:x.e = ye
       case neg =>
        have he':(x.e == ye) = false:=by rw [beq_eq_false_iff_ne];exact hev
        have HN9:=Lib.hid (HNY.out (fun h=>hev h.2))
        clear hev hf
        go_wp2
        go_roundw
        case rel=>exact ⟨k + 1,_,rfl,by go_num,rfl,by omega,HN9,HB5⟩
        case measure=>simp [intOf];omega
       have he':(x.e == ye) = true:=by simpa using hev
       rw [HXT.out hf hev] at e2
       clear hf hev HXT HNY hlt hk b1
       obtain ⟨c0,c1,c2⟩:=HCK.out w5 (HQ9.out w5 HB5.out)
       go_wp2_with fail
       refine (HRV.out _ (HQ9.out w5 HB5.out) (s2:Int)).mono ?_
       rintro e wv ⟨rfl,hbv⟩
       have HBV:=Lib.hid (HB5.out.trans (hbv.mono HB5.out.size))
       clear c0 c1 c2 d0 d1 d2 d3 e0 e1 e2 hbv HB5 hf' he'
       obtain ⟨y2s,y2k,y2r,y2e⟩:=y2
       have HRV2:=Lib.hid (show rmV (rmOf C.ce (s2:Int)) = .tuple #[.agg #[.int .i64 y2s,.int .i64 y2k,.int .i64 y2r,.int .i64 y2e],.bool true] by rw [HR2.out];rfl)
       rw [HRV2.out]
       have hk3:¬ y2k ≥ yk:=by have h:y2k < yk:=hk2;omega
       have kn:=Blk.new wv 63 [.int .i64 y2s,.int .i64 y2k,.int .i64 y2r,.int .i64 y2e]
       have hbn:=box_below wv (.cells #[.int .i64 y2s,.int .i64 y2k,.int .i64 y2r,.int .i64 y2e] 63)
       have HBN:=Lib.hid (HBV.out.trans (hbn.mono HBV.out.size))
       clear hbn hk2
       go_upto_region 38 with fail
       generalize wv.heap.size = bN at kn ⊢
       generalize wv.alloc (.cells #[.int .i64 y2s,.int .i64 y2k,.int .i64 y2r,.int .i64 y2e] 63) = wn at kn HBN ⊢
       obtain ⟨f0,f1,f2,f3⟩:=Blk.c4 kn
       have HKN:=Lib.hid (HQK.out wn HBN.out)
       obtain ⟨d0,d1,d2,d3⟩:=Blk.c4 HKN.out
       clear kn
       obtain ⟨p1,p2,p3⟩:=rm_put4 HKN.out ⟨y2s,y2k,y2r,y2e⟩
       have HTH:=Lib.hid p3
       have HP1:=Lib.hid p1
       have HGS:=Lib.hid p2
       have HSZ:=Lib.hid (show wq.heap.size ≤ wn.heap.size from HBN.out.size)
       clear p1 p2 p3
       have HOWN:=Lib.hid (show ∃ pre rest:List Rm,L = pre ++ ⟨ys,yk,2,ye⟩ :: rest∧pre.length + 1 = m∧Exp z1.m C.ce (s:Int) (⟨ys,yk,2,ye⟩ :: rest)∧(wn.setCells bR 0 (rmc ⟨y2s,y2k,y2r,y2e⟩)).ownsRow (bR + 1) 63 4 (.slice A m c) m ((pre ++ [(⟨ys,yk,2,ye⟩:Rm)]).flatMap rmc) from by
        obtain ⟨pre,rest,h1,h2,h3,h4⟩:=HPR.out
        have h5:=own_below h4 HBN.out
        exact ⟨pre,rest,h1,h2,h3,h5.kept HGS.out (.inr (fun e=>by have:=(h5.lt _ e).1;omega))⟩)
       have HBW:=Lib.hid (show Below bR wd2 (wn.setCells bR 0 (rmc ⟨y2s,y2k,y2r,y2e⟩)) from by
        have h1:=HBQ.out.trans (HBN.out.mono (Nat.le_of_succ_le HBRQ.out))
        exact h1.grown HGS.out (by have:=HBRQ.out;have:=HSZ.out;omega) (fun j e=>by injection e with e;omega))
       unfold rmc at HP1 HGS
       have hpe:rmc ⟨y2s,y2k,y2r,y2e⟩ = [.int .i64 y2s,.int .i64 y2k,.int .i64 y2r,.int .i64 y2e]:=rfl
       rw [hpe] at HOWN HBW
       clear hpe
       go_upto_region 41 with (first | (refine wpList_store_mid rfl 63 (.tmp 17) (.tmp 165) rfl bR 0 #[.int .i64 y2s,.int .i64 y2k,.int .i64 y2r,.int .i64 y2e] rfl rfl HTH.out rm_size (all_oneCell_toArray (rm_one ⟨y2s,y2k,y2r,y2e⟩)) ?_;generalize wn.setCells bR 0 [.int .i64 y2s,.int .i64 y2k,.int .i64 y2r,.int .i64 y2e] = w9 at HP1 HGS HOWN HBW ⊢) | fail)
       clear d0 d1 d2 d3 f0 f1 f2 f3
       obtain ⟨d0,d1,d2,d3⟩:=Blk.c4 HP1.out
       obtain ⟨X1,hX1⟩:∃ q,(⟨ys,yk,2,ye⟩:Rm) = q:=⟨_,rfl⟩
       obtain ⟨pre,rest,hL,hpm,HEX,ho9⟩:=HOWN.out
       rw [hX1] at hL HEX ho9
       have HO9:=Lib.hid ho9
       have HEY:=Lib.hid HEX
       have HLE:=Lib.hid hL
       have HX1:=Lib.hid hX1
       have hsz9:bR + 1 ≤ w9.heap.size:=HP1.out.lt
       clear ho9 HEX hL hX1 HOWN
       have hle5:m ≤ 5000:=Nat.le_trans hml hll
       go_wp2_with (first | (at_builtin;refine wpList_pushN w9 [.int .i64 y2s,.int .i64 y2k,.int .i64 y2r,.int .i64 y2e] rfl (.tmp 166) (.tmp 168) 36 rfl (bR + 1) 63 (.agg #[.int .i64 0,.int .i64 0,.int .i64 0,.int .i64 0]) 4 32 Try.underlying36 rm_info rfl (by decide) rfl (.slice A m c) m _ rfl HO9.out rfl (fun u hu=>by simp at hu;rcases hu with rfl | rfl | rfl | rfl <;> rfl) (by omega) (by omega) hsz9 ?_;intro v' w' ho' hg' hb1;obtain ⟨A',c',rfl⟩:=own_shape ho') | fail)
       have HB1:=Lib.hid hb1
       have HO1:=Lib.hid ho'
       clear hb1 ho' hg' d0 d1 d2 d3
       have HREL:=Lib.hid (show m + 1 ≤ ll∧∃ pre rest:List Rm,L = pre ++ ⟨y2s,y2k,y2r,y2e⟩ :: rest∧pre.length + 1 = m + 1∧Exp z1.m C.ce (s2:Int) (⟨y2s,y2k,y2r,y2e⟩ :: rest)∧w'.ownsRow (bR + 1) 63 4 (.slice A' (m + 1) c') (m + 1) ((pre ++ [(⟨y2s,y2k,y2r,y2e⟩:Rm)]).flatMap rmc) from by
        have hX:=HEY.out
        rw [← HX1.out] at hX
        cases hX with
        | fin h1 h2=>exact absurd rfl h2
        | go h1 h2 h3 =>
         dsimp only at h3
         rw [HNX.out] at h3
         have h4:∃ rest',rest = ⟨y2s,y2k,y2r,y2e⟩ :: rest':=by
          cases h3 with
          | fin h5 _=>rw [HR2.out] at h5;injection h5 with h5;exact ⟨[],by rw [h5]⟩
          | go h5 _ _=>rw [HR2.out] at h5;injection h5 with h5;exact ⟨_,by rw [h5]⟩
         obtain ⟨rest',rfl⟩:=h4
         have h6:L = (pre ++ [X1]) ++ ⟨y2s,y2k,y2r,y2e⟩ :: rest':=by rw [HLE.out];simp
         refine ⟨?_,pre ++ [X1],rest',h6,by rw [List.length_append];simp;omega,h3,?_⟩
         ·rw [← HLL.out,h6];simp;omega
         ·rw [List.flatMap_append]
          exact HO1.out)
       have hml2:=HREL.out.1
       have HKW:=Lib.hid (HP1.out.below (HB1.out.mono (Nat.le_refl _)) (Nat.lt_succ_self bR))
       have HBX:=Lib.hid (HBW.out.trans (HB1.out.mono (Nat.le_succ bR)))
       go_roundw
       case rel=>exact ⟨s2,⟨y2s,y2k,y2r,y2e⟩,m + 1,c',A',_,_,_,_,rfl,rfl,rfl,rfl,rfl,rfl,hs2n,hml2,Lib.hid HREL.out.2,HKW,HBX⟩
       case measure=>simp;omega
     case neg =>
      have hy2b:(yr == 2) = false:=by simpa using hy2
      obtain ⟨hmL,HOL⟩:m = ll∧Hid (RdR 4 rmc wq wq.heap.size A L):=by
       obtain ⟨pre,rest,h1,h2,h3,h4⟩:=HPR.out
       cases h3 with
       | go _ h5 _=>exact absurd h5 hy2
       | fin _ _ =>
        subst h1
        refine ⟨?_,Lib.hid (RdR.of_own (by omega) (fun _ _=>rfl) h4)⟩
        rw [← HLL.out];simp;omega
      subst hmL
      clear HPR hml hy2
      have HFN:=Lib.hid (fun (W:World) (hb:Below wq.heap.size wq W)=>HB4.out.trans ((H49.out _ (HQ9.out W hb)).mono HB4.out.size))
      have HRL:=Lib.hid (fun (W:World) (hb:Below wq.heap.size wq W)=>HLR.out.below (HBBC.out W (HBQ2.out.trans (hb.mono HBQ2.out.size))))
      have hl':((m:Int) != (m:Int)) = false:=by simp
      go_wp2
      clear d0 d1 d2 d3
      go_loopw [24] (fun s24 wi=>∃ k:Nat,s24 = .int .i64 k∧k ≤ m∧Hid (Below wq.heap.size wq wi)) (fun s24 _=>m - (intOf s24).toNat)
      case atStart=>exact ⟨0,rfl,Nat.zero_le _,Lib.hid (Below.refl _ _)⟩
      case round =>
       obtain ⟨wi,rfl⟩:∃ q,q = wr:=⟨_,rfl⟩
       obtain ⟨k,rfl,hk,HBJ⟩:=hrel
       by_cases hlt:k < m
       case neg =>
        have b1:¬ (k:Int) < (m:Int):=by omega
        go_wp2
        go_ret
        exact ⟨rfl,HFN.out _ HBJ.out⟩
       have b1:(k:Int) < (m:Int):=by omega
       obtain ⟨ad,t,hA,ht,g0,g1,g2,g3⟩:=rm_reads (HRL.out wi HBJ.out) (j:=k) (by rw [HLL.out];exact hlt)
       obtain ⟨bd,t',hB,ht',f0,f1,f2,f3⟩:=rm_reads (HOL.out.below HBJ.out) (j:=k) (by rw [HLL.out];exact hlt)
       obtain rfl:t = t':=by rw [ht] at ht';exact Option.some.inj ht'
       subst hB
       subst hA
       clear ht ht'
       go_upto_region 47 with fail
       have hA0:(wi.drew.cell? (ad.add (k * 4)) = some (.int .i64 t.s)∧wi.drew.cell? ⟨(ad.add (k * 4)).block,(ad.add (k * 4)).off + 1,none⟩ = some (.int .i64 t.k)∧wi.drew.cell? ⟨(ad.add (k * 4)).block,(ad.add (k * 4)).off + 2,none⟩ = some (.int .i64 t.r)∧wi.drew.cell? ⟨(ad.add (k * 4)).block,(ad.add (k * 4)).off + 3,none⟩ = some (.int .i64 t.e))∧(wi.drew.cell? (bd.add (k * 4)) = some (.int .i64 t.s)∧wi.drew.cell? ⟨(bd.add (k * 4)).block,(bd.add (k * 4)).off + 1,none⟩ = some (.int .i64 t.k)∧wi.drew.cell? ⟨(bd.add (k * 4)).block,(bd.add (k * 4)).off + 2,none⟩ = some (.int .i64 t.r)∧wi.drew.cell? ⟨(bd.add (k * 4)).block,(bd.add (k * 4)).off + 3,none⟩ = some (.int .i64 t.e)):=⟨⟨g0,g1,g2,g3⟩,f0,f1,f2,f3⟩
       refine wp_region_U (fun V=>(V.cell? (ad.add (k * 4)) = some (.int .i64 t.s)∧V.cell? ⟨(ad.add (k * 4)).block,(ad.add (k * 4)).off + 1,none⟩ = some (.int .i64 t.k)∧V.cell? ⟨(ad.add (k * 4)).block,(ad.add (k * 4)).off + 2,none⟩ = some (.int .i64 t.r)∧V.cell? ⟨(ad.add (k * 4)).block,(ad.add (k * 4)).off + 3,none⟩ = some (.int .i64 t.e))∧(V.cell? (bd.add (k * 4)) = some (.int .i64 t.s)∧V.cell? ⟨(bd.add (k * 4)).block,(bd.add (k * 4)).off + 1,none⟩ = some (.int .i64 t.k)∧V.cell? ⟨(bd.add (k * 4)).block,(bd.add (k * 4)).off + 2,none⟩ = some (.int .i64 t.r)∧V.cell? ⟨(bd.add (k * 4)).block,(bd.add (k * 4)).off + 3,none⟩ = some (.int .i64 t.e))) (fun _=>True) 99 (by kernel_rfl) ?_
       change anyU _ _ _ _ _ _ _ 9 _ _ _
       have HD6:=Lib.hid (HBJ.out.trans ((below_dr wi).mono HBJ.out.size))
       have hB0:True:=trivial
       clear g0 g1 g2 g3 f0 f1 f2 f3
       generalize wi.drew = w6 at hA0 HD6 ⊢
       (refine uA 0 ?_ rfl hA0 hB0 (fun W hA=>?_) ?_;rotate_left;(· (go_simp;try with_reducible rfl));refine uA 1 ?_ rfl hA0 hB0 (fun W hA=>?_) ?_;rotate_left;(· (go_simp;try with_reducible rfl));refine uA 2 ?_ rfl hA0 hB0 (fun W hA=>?_) ?_;rotate_left;(· (go_simp;try with_reducible rfl));(try simp only [Act.put,List.setIfInBounds_toArray,List.set_cons_zero,List.set_cons_succ]))
       (refine uA 3 ?_ rfl hA0 hB0 (fun W hA=>?_) ?_;rotate_left;(· (obtain ⟨⟨a0,a1,a2,a3⟩,_⟩:=hA;go_simp;try with_reducible rfl));(try simp only [Act.put,List.setIfInBounds_toArray,List.set_cons_zero,List.set_cons_succ]))
       (refine uA 4 ?_ rfl hA0 hB0 (fun W hA=>?_) ?_;rotate_left;(· (go_simp;try with_reducible rfl));refine uA 5 ?_ rfl hA0 hB0 (fun W hA=>?_) ?_;rotate_left;(· (go_simp;try with_reducible rfl));refine uA 6 ?_ rfl hA0 hB0 (fun W hA=>?_) ?_;rotate_left;(· (go_simp;try with_reducible rfl));(try simp only [Act.put,List.setIfInBounds_toArray,List.set_cons_zero,List.set_cons_succ]))
       (refine uA 7 ?_ rfl hA0 hB0 (fun W hA=>?_) ?_;rotate_left;(· (obtain ⟨_,a0,a1,a2,a3⟩:=hA;go_simp;try with_reducible rfl));(try simp only [Act.put,List.setIfInBounds_toArray,List.set_cons_zero,List.set_cons_succ]))
       refine uA 8 (.bool false) rfl hA0 hB0 (fun W hA=>?_) ?_
       ·go_simp
       simp only [Act.put,List.setIfInBounds_toArray,List.set_cons_zero,List.set_cons_succ]
       refine anyU_done (by kernel_rfl) ?_ _
       clear hA0 hB0
       go_wp2
       go_roundw
       case rel=>exact ⟨k + 1,by go_num,by omega,HD6⟩
       case measure=>simp [intOf];omega
end Go.Proofs.Ytdnmpndnpfklcaa

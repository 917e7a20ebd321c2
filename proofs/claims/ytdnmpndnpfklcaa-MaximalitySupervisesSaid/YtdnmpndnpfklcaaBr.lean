/- The law's proved. -/
import Derived.Test.YtdnmpndnpfklcaaBq
import Derived.Test.YtdnmpndnpfklcaaBj
import Derived.Test.YtdnmpndnpfklcaaBo
namespace Go.Proofs.Ytdnmpndnpfklcaa
open Go.RowKit Go Go.Maps
def RetPv (C:Ce) (w:World) (e:Ending) (w':World):Prop:=∃ c:CV,e = .returned (.agg (cvc c).toArray)∧c.ok w' w'.heap.size∧c.ce = C∧c.rn ≤ 1000000∧Below w.heap.size w w'
theorem any_snoc {α:Type} {f:α → Bool} {l:List α} {k:Nat} {x:α} (h:l[k]? = some x):(l.take (k + 1)).any f = ((l.take k).any f || f x):=by
 rw [take_snoc' h,List.any_append];simp
theorem filter_snoc {α:Type} {f:α → Bool} {l:List α} {k:Nat} {x:α} (h:l[k]? = some x):(l.take (k + 1)).filter f = (l.take k).filter f ++ (if f x = true then [x] else []):=by
 rw [take_snoc' h,List.filter_append]
 congr 1
 cases hx:f x <;> simp [hx]
def srtP (R:List Rm) (i:Nat):List Rm:=(rngI (i:Int)).flatMap fun s=>R.filter fun r=>decide (r.s = s)
theorem srtP_succ (R:List Rm) (i:Nat):srtP R (i + 1) = srtP R i ++ R.filter fun r=>decide (r.s = (i:Int)):=by
 unfold srtP
 rw [rngI_snoc,List.flatMap_append]
 simp
theorem prvC_few {p:Mx} (hp:p.ok):(prvC p).rm.length ≤ 1000000:=by
 have f:=(prvC_ok hp).1
 have h1:=hp.wf.st1
 have h0:=hp.wf.st0
 have h2:((prvC p).rm.map (·.s)).length ≤ p.a.st.toNat:=inc_len (by
  unfold Inc
  rw [List.pairwise_map]
  exact f.rinc) (fun x hx=>by
  obtain ⟨r,hr,rfl⟩:=List.mem_map.1 hx
  have:=f.rrng r hr
  omega)
 rw [List.length_map] at h2
 omega
theorem blk_no64s {W:World} {b:Nat} {t:TypeId} {vs:List Value} (h:Blk W b t vs) (hv:∀ v ∈ vs,∀ x,v ≠ .int .i64 x) {p:Addr} {x:Int} (hc:W.cell? p = some (.int .i64 x)):p.block ≠ b:=by
 intro e
 unfold World.cell? at hc
 rw [e,show W.heap[b]? = _ from h] at hc
 simp only at hc
 split at hc
 ·cases hc
 ·exact hv _ (by simpa using Array.mem_of_getElem? hc) x rfl
theorem keeps64_blk {W W':World} {b:Nat} {t:TypeId} {vs:List Value} (h:Blk W b t vs) (hv:∀ v ∈ vs,∀ x,v ≠ .int .i64 x) (hg:W.grownBy W' (some b)):Keeps64 W W' :=
 ⟨hg.size,fun p x hc=>hg.cell hc (fun h9=>blk_no64s h hv hc (by injection h9))⟩
set_option maxRecDepth 100000 in
set_option maxHeartbeats 12800000 in
theorem law_proved (z:PB) (n:Nat) (w:World) (h:z.ok w w.heap.size) (hm:z.m.ok) (hn:z.x.a.st = (n:Int)) :
  Calls Try.prog 14 #[.agg (pbc z).toArray] w (RetPv (prvC z.m) w):=by
 have hn4:n ≤ 4096:=by have h1:=hm.wf.st1;have e:z.m.a.st = z.x.a.st:=rfl;omega
 have hb1:=box_below w (.cells (pbc z).toArray 34)
 have kx:=Blk.new w 34 (pbc z)
 obtain ⟨wa,hwa⟩:∃ wa,wa = w.alloc (.cells (pbc z).toArray 34):=⟨_,rfl⟩
 rw [← hwa] at hb1 kx
 have hb2:=box_below wa (.cells #[.slice none 0 0,.slice none 0 0,.slice none 0 0] 38)
 have kr:=Blk.new wa 38 [.slice none 0 0,.slice none 0 0,.slice none 0 0]
 have hsa:wa.heap.size = w.heap.size + 1:=by rw [hwa];simp
 rw [hsa] at kr
 obtain ⟨w1,hw1⟩:∃ w1,w1 = wa.alloc (.cells #[.slice none 0 0,.slice none 0 0,.slice none 0 0] 38):=⟨_,rfl⟩
 have kr':Blk w1 (w.heap.size + 1) 38 [.slice none 0 0,.slice none 0 0,.slice none 0 0]:=by rw [hw1];exact kr
 have kx1:Blk w1 w.heap.size 34 (pbc z):=by rw [hw1];exact kx.below hb2 kx.lt
 rw [← hw1] at hb2
 have hb12:=hb1.trans (hb2.mono hb1.size)
 have HZ:=Lib.hid (fun (W:World) (hb:Below w1.heap.size w1 W)=>(h.below (hb12.trans (hb.mono hb12.size))).more (hb12.trans (hb.mono hb12.size)).size)
 have HK:=Lib.hid (fun (W:World) (hb:Below w1.heap.size w1 W)=>Blk.c6 (kx1.below hb kx1.lt))
 have HKR:=Lib.hid (fun (W:World) (hb:Below w1.heap.size w1 W)=>kr'.below hb kr'.lt)
 have HB:=Lib.hid (fun (W:World) (hb:Below w1.heap.size w1 W)=>hb12.trans (hb.mono hb12.size))
 have HBS:=Lib.hid (show w.heap.size + 1 < w1.heap.size from kr'.lt)
 have HW1:=Lib.hid (show (w.alloc (.cells (pbc z).toArray 34)).alloc (.cells #[.slice none 0 0,.slice none 0 0,.slice none 0 0] 38) = w1 by rw [hw1,hwa])
 have HPV:=Lib.hid (show pbc z = [.slice z.x.A z.x.na z.x.ca,.int .i64 z.x.a.st,.slice z.x.M z.x.nm z.x.cm,.slice z.x.E z.x.ne z.x.ce,.slice z.u.A z.u.n z.u.c,.slice z.f.A z.f.n z.f.c] from rfl)
 have HRD:=Lib.hid (fun (L:Option Addr) (nl cl:Nat) (l:List Int) (rk:Int) (W:World) (hb:Below w1.heap.size w1 W) (hl:l.length = nl) (hL:RdI W W.heap.size L l) (hc1:nl ≤ cl) (hc2:cl ≤ 9223372036854775807) (hli:Inc l) (hlr:∀ t ∈ l,0 ≤ t∧t < (n:Int))=>law_round z n L nl cl l rk W (HZ.out W hb) hm hn hl hL hc1 hc2 hli hlr)
 have HDS:=Lib.hid (fun (L:Option Addr) (nl cl:Nat) (l:List Int) (s:Nat) (W:World) (hb:Below w1.heap.size w1 W) (hl:l.length = nl) (hL:RdI W W.heap.size L l) (hc1:nl ≤ cl) (hc2:cl ≤ 9223372036854775807) (hli:Inc l) (hlr:∀ t ∈ l,0 ≤ t∧t < (n:Int)) (hs:(s:Int) ∈ l)=>law_distance z n s L cl nl l W (HZ.out W hb) hm hn (by have:=hlr _ hs;omega) hl hL hc1 hc2 hli hlr hs)
 obtain ⟨P,hP⟩:∃ q,z.m = q:=⟨_,rfl⟩
 have HPA:=Lib.hid (show P.a = z.x.a by rw [← hP];rfl)
 rw [hP] at HRD hm ⊢
 have HM:=Lib.hid hm
 have HN:=Lib.hid (show P.a.st = (n:Int) by rw [HPA.out];exact hn)
 rw [HPV.out] at HRD HDS HW1 ⊢
 rw [hn] at HRD HDS HW1 HK ⊢
 clear hP hb1 hb2 hb12 kx kx1 kr kr' hw1 hwa hsa h hm hn
 go_enter Try.func14,Try.ntmps14
 go_upto_region 1 with fail
 rw [HW1.out]
 go_wp2
 go_loopw [3,4] (fun s3 s4 wr=>∃ (k c:Nat) (A:Option Addr),s3 = .slice A k c∧s4 = .int .i64 k∧k ≤ n∧Hid (wr.ownsRow w1.heap.size 3 1 (.slice A k c) k (iv (rngI (k:Int))))∧Hid (Below w1.heap.size w1 wr)) (fun _ s4 _=>n - (intOf s4).toNat)
 case atStart=>exact ⟨0,0,none,rfl,rfl,Nat.zero_le _,Lib.hid (World.ownsRow_nil _ _ _ _),Lib.hid (Below.refl _ _)⟩
 case round =>
  obtain ⟨k,c,A,rfl,rfl,hk,HO,HBR⟩:=hrel
  obtain ⟨⟨a0,a1,a2,a3,a4⟩,a5⟩:=HK.out wr HBR.out
  by_cases hlt:k < n
  case pos =>
   have b1:(k:Int) < (n:Int):=by omega
   have hsz:=HBR.out.size
   go_wp2_with (first | (at_builtin;refine wpList_push wr (.int .i64 (k:Int)) rfl (.tmp 23) (.tmp 25) 29 rfl w1.heap.size 3 (.int .i64 0) 8 Try.underlying29 int_info rfl (.slice A k c) k _ rfl HO.out rfl rfl (by omega) (by omega) hsz ?_;intro v' w' ho' hg' hb1;obtain ⟨A',c',rfl⟩:=own_shape ho') | fail)
   have HO2:=Lib.hid (show w'.ownsRow w1.heap.size 3 1 (.slice A' (k + 1) c') (k + 1) (iv (rngI ((k + 1:Nat):Int))) by rw [rngI_snoc,iv_append];exact ho')
   have HB2:=Lib.hid (HBR.out.trans hb1)
   clear a0 a1 a2 a3 a4 a5
   go_roundw
   case rel=>exact ⟨k + 1,c',A',rfl,by go_num,by omega,HO2,HB2⟩
   case measure=>simp [intOf];omega
  obtain rfl:k = n:=by omega
  have b1:¬ (k:Int) < (k:Int):=by omega
  have HPS:=Lib.hid (show PvS P k 1 (rngI (k:Int)) [] from .inl ⟨rfl,rfl,rfl⟩)
  have HRL:=Lib.hid (show RdI wr wr.heap.size A (rngI (k:Int)) from rdI_own (by rw [rngI_len];omega) HO.out)
  have hAc:=own_cap' HO.out
  have HLL:=Lib.hid (show (rngI (k:Int)).length = k by rw [rngI_len];omega)
  go_wp2
  go_loopw [3,5,6,7,8,9,10,11] (fun s3 s5 s6 s7 s8 s9 s10 s11 wz=>∃ (rk:Int) (nl cl m c:Nat) (LA A:Option Addr) (l:List Int) (R:List Rm) (v7 v8 v9 v10 v11:Value),s3 = .slice LA nl cl∧s5 = .slice A m c∧s6 = .int .i64 rk∧s7 = v7∧s8 = v8∧s9 = v9∧s10 = v10∧s11 = v11∧nl ≤ cl∧cl ≤ 9223372036854775807∧Hid (PvS P k rk l R)∧Hid (l.length = nl)∧Hid (RdI wz wz.heap.size LA l)∧Hid (wz.ownsRow w1.heap.size 63 4 (.slice A m c) m (R.flatMap rmc))∧Hid (R.length = m)∧Hid (Below w1.heap.size w1 wz)) (fun _ _ s6 _ _ _ _ _ _=>(k + 4) - (intOf s6).toNat)
  case atStart=>exact ⟨1,k,c,0,0,A,none,rngI (k:Int),[],_,_,_,_,_,rfl,rfl,rfl,rfl,rfl,rfl,rfl,rfl,hAc.1,hAc.2,HPS,HLL,HRL,Lib.hid (World.ownsRow_nil _ _ _ _),Lib.hid rfl,HBR⟩
  case round =>
   clear HPS HRL HLL hAc HO HBR a0 a1 a2 a3 a4 a5
   obtain ⟨rk,nl,cl,m,c,LA,A,l,R,v7,v8,v9,v10,v11,rfl,rfl,rfl,rfl,rfl,rfl,rfl,rfl,hc1,hc2,HPS,HLL,HRL,HO,HRm,HBR⟩:=hrel
   obtain ⟨hrk1,hrk2,hli,hlr,hR⟩:=HPS.out.facts HM.out HN.out
   have HLI:=Lib.hid hli
   have HLR:=Lib.hid hlr
   have hnl:nl ≤ k:=by have h1:=inc_len (n:=k) hli hlr;rw [HLL.out] at h1;exact h1
   have hmk:m ≤ k:=by rw [← HRm.out];exact hR
   clear hli hlr hR
   obtain ⟨W,hW⟩:∃ q,rndW P k l rk = q:=⟨_,rfl⟩
   obtain ⟨m7,hm7⟩:∃ q,W.length = q:=⟨_,rfl⟩
   have HRD1:=Lib.hid (HRD.out LA nl cl l rk wr HBR.out HLL.out HRL.out hc1 hc2 HLI.out HLR.out)
   rw [hW] at HRD1
   have HWE:=Lib.hid hW
   have HW7:=Lib.hid hm7
   have hm7k:m7 ≤ k:=by
    rw [← hm7,← hW]
    unfold rndW
    split
    ·exact Nat.le_trans (List.length_filterMap_le _ _) (by rw [HLL.out];exact hnl)
    ·split
     ·exact Nat.le_trans (List.length_filterMap_le _ _) (by rw [HLL.out];exact hnl)
     ·exact Nat.le_trans (List.length_filterMap_le _ _) (by rw [HLL.out];exact hnl)
   clear hW hm7
   obtain ⟨⟨a0,a1,a2,a3,a4⟩,a5⟩:=HK.out wr HBR.out
   go_wp2_with fail
   refine HRD1.out.mono ?_
   rintro e w3 ⟨A7,c7,rfl,ho7,hb3⟩
   rw [HW7.out] at ho7 ⊢
   have HB3:=Lib.hid hb3
   have HO7:=Lib.hid ho7
   have HB13:=Lib.hid (HBR.out.trans (hb3.mono HBR.out.size))
   have HO3:=Lib.hid (own_below HO.out hb3)
   clear a0 a1 a2 a3 a4 a5 HRD1 ho7 hb3
   go_upto_region 10 with fail
   go_cut [39] from 33 to 77 (fun s39 wx=>∃ q:Bool,s39 = .bool q∧Hid (q = true ↔ 1 < rk∧W = [])∧wx = w3)
   case first =>
    by_cases hr:rk > 1
    ·by_cases hm0:m7 = 0
     ·subst hm0
      have HE:=Lib.hid (List.eq_nil_of_length_eq_zero HW7.out)
      go_wp2_with fail
      go_meet
      case rel=>exact ⟨_,rfl,Lib.hid ⟨fun _=>⟨hr,HE.out⟩,fun _=>rfl⟩,rfl⟩
     ·have hmi:¬ (m7:Int) = 0:=by omega
      have hmd:decide (m7 = 0) = false:=decide_eq_false hm0
      have hmd3:((m7:Int) == 0) = false:=by simpa using hm0
      have HNE:=Lib.hid (show W ≠ [] from fun h9=>hm0 (by rw [← HW7.out,h9];rfl))
      go_wp2_with fail
      go_meet
      case rel=>exact ⟨_,rfl,Lib.hid ⟨fun h9=>absurd h9 (by simp),fun h9=>absurd h9.2 HNE.out⟩,rfl⟩
    ·go_wp2_with fail
     go_meet
     case rel=>exact ⟨_,rfl,Lib.hid ⟨fun h9=>absurd h9 (by simp),fun h9=>absurd h9.1 (by omega)⟩,rfl⟩
   case rest =>
    obtain ⟨q,rfl,HQ,rfl⟩:=hcut
    cases q with
    | true =>
     obtain ⟨hk1,hWe⟩:=HQ.out.1 rfl
     have hEND:=HPS.out.end_ HM.out HN.out hk1 (by rw [HWE.out];exact hWe)
     have HCE:=Lib.hid (cerL_eq HM.out HN.out hEND.1 hEND.2)
     have HL4:=Lib.hid (fun (V:World) (hb:Below wc.heap.size wc V)=>(HRL.out.below (HB3.out.trans (hb.mono HB3.out.size))).more (HB3.out.trans (hb.mono HB3.out.size)).size)
     have HR4:=Lib.hid (fun (V:World) (hb:Below wc.heap.size wc V)=>RdR.of_own (f:=rmc) (l:=R) (by omega) (fun _ _=>rfl) (own_below HO3.out hb))
     have hcA:=own_cap' HO3.out
     obtain ⟨wo,rfl⟩:∃ wo,wo = wr:=⟨_,rfl⟩
     clear hEND hk1 hWe HQ HPS HO HWE HW7 HO7 HRD
     go_upto_region 24 with fail
     have hbx:=box_below wc (.cells #[.slice LA nl cl,.slice none 0 0,.slice none 0 0] 38)
     have kC:=Blk.new wc 38 [.slice LA nl cl,.slice none 0 0,.slice none 0 0]
     obtain ⟨bC,hbC⟩:∃ b,wc.heap.size = b:=⟨_,rfl⟩
     have HBCe:=Lib.hid hbC
     have HBX:=Lib.hid hbx
     rw [hbC] at kC ⊢
     clear hbC hbx
     generalize wc.alloc (.cells #[.slice LA nl cl,.slice none 0 0,.slice none 0 0] 38) = wC at kC HBX ⊢
     have HKC:=Lib.hid kC
     clear kC
     have hmb:∀ i:Nat,i ≤ k → i * m ≤ 16777216:=fun i hi=>Nat.le_trans (Nat.mul_le_mul (Nat.le_trans hi hn4) (Nat.le_trans hmk hn4)) (by decide)
     have HMB:=Lib.hid hmb;clear hmb
     go_wp2
     go_loopw [13,14] (fun s13 s14 wy=>∃ (i mm c':Nat) (CA:Option Addr) (v14:Value),s13 = .int .i64 i∧s14 = v14∧i ≤ k∧mm ≤ i * m∧Hid (Blk wy bC 38 [.slice LA nl cl,.slice none 0 0,.slice CA mm c'])∧Hid (wy.ownsRow wc.heap.size 63 4 (.slice CA mm c') mm ((srtP R i).flatMap rmc))∧Hid ((srtP R i).length = mm)∧Hid (Below wc.heap.size wc wy)) (fun s13 _ _=>k - (intOf s13).toNat)
     case atStart=>exact ⟨0,0,0,none,_,rfl,rfl,Nat.zero_le _,Nat.zero_le _,HKC,Lib.hid (World.ownsRow_nil _ _ _ _),Lib.hid rfl,HBX⟩
     case round =>
      clear HKC HBX
      obtain ⟨i,mm,c',CA,v14,rfl,rfl,hi,hmm,HKC,HCO,HCL,HBY⟩:=hrel
      have HB19:=Lib.hid (HB13.out.trans (HBY.out.mono HB13.out.size))
      obtain ⟨⟨a0,a1,a2,a3,a4⟩,a5⟩:=HK.out wr HB19.out
      by_cases hlt:i < k
      case pos =>
       have b1:(i:Int) < (k:Int):=by omega
       obtain ⟨wp,rfl⟩:∃ wp,wp = wr:=⟨_,rfl⟩
       have HCO0:=Lib.hid (show wp.ownsRow wc.heap.size 63 4 (.slice CA mm c') mm ((srtP R i ++ (R.take 0).filter fun r=>decide (r.s = (i:Int))).flatMap rmc) by
        rw [List.take_zero,List.filter_nil,List.append_nil];exact HCO.out)
       have HCL0:=Lib.hid (show (srtP R i ++ (R.take 0).filter fun r=>decide (r.s = (i:Int))).length = mm by
        rw [List.take_zero,List.filter_nil,List.append_nil];exact HCL.out)
       go_wp2
       clear a0 a1 a2 a3 a4 a5
       go_loopw [14] (fun s14 wq=>∃ (j mm c':Nat) (CA:Option Addr),s14 = .int .i64 j∧j ≤ m∧mm ≤ i * m + j∧Hid (Blk wq bC 38 [.slice LA nl cl,.slice none 0 0,.slice CA mm c'])∧Hid (wq.ownsRow wc.heap.size 63 4 (.slice CA mm c') mm ((srtP R i ++ (R.take j).filter fun r=>decide (r.s = (i:Int))).flatMap rmc))∧Hid ((srtP R i ++ (R.take j).filter fun r=>decide (r.s = (i:Int))).length = mm)∧Hid (Below wc.heap.size wc wq)) (fun s14 _=>m - (intOf s14).toNat)
       case atStart=>exact ⟨0,mm,c',CA,rfl,Nat.zero_le _,by omega,HKC,HCO0,HCL0,HBY⟩
       case round =>
        clear HKC HCO HCL HBY HCO0 HCL0 hmm HB19
        obtain ⟨j,mm,c',CA,rfl,hj,hmm,HKC,HCO,HCL,HBY⟩:=hrel
        by_cases hlj:j < m
        case neg =>
         obtain rfl:j = m:=by omega
         have b2:¬ (j:Int) < (j:Int):=by omega
         have HTA:=Lib.hid (show R.take j = R from List.take_of_length_le (by rw [HRm.out];exact Nat.le_refl _))
         have hmm2:mm ≤ (i + 1) * j:=by rw [Nat.succ_mul];exact hmm
         rw [HTA.out,← srtP_succ] at HCO HCL
         go_wp2
         go_roundw
         case rel=>exact ⟨i + 1,mm,c',CA,_,by go_num,rfl,by omega,hmm2,HKC,HCO,HCL,HBY⟩
         case measure=>simp [intOf];omega
        obtain ⟨bd,r,hA,hr,g0,g1,g2,g3⟩:=rm_reads (HR4.out wr HBY.out) (j:=j) (by rw [HRm.out];exact hlj)
        have HA:=Lib.hid hA
        have HGG:=Lib.hid (show ∀ V,Below wc.heap.size wc V → V.cell? (bd.add (j * 4)) = some (.int .i64 r.s)∧V.cell? ⟨(bd.add (j * 4)).block,(bd.add (j * 4)).off + 1,none⟩ = some (.int .i64 r.k)∧V.cell? ⟨(bd.add (j * 4)).block,(bd.add (j * 4)).off + 2,none⟩ = some (.int .i64 r.r)∧V.cell? ⟨(bd.add (j * 4)).block,(bd.add (j * 4)).off + 3,none⟩ = some (.int .i64 r.e) from fun V hb=>by
         obtain ⟨bd2,r2,hA2,hr2,e0,e1,e2,e3⟩:=rm_reads (HR4.out V hb) (j:=j) (by rw [HRm.out];exact hlj)
         rw [hA] at hA2
         injection hA2 with hA2
         subst hA2
         rw [hr] at hr2
         injection hr2 with hr2
         subst hr2
         exact ⟨e0,e1,e2,e3⟩)
        have HS:=Lib.hid (filter_snoc (f:=fun r=>decide (r.s = (i:Int))) hr)
        have b2:(j:Int) < (m:Int):=by omega
        clear hA hr g0 g1 g2 g3
        rw [HA.out]
        obtain ⟨h0,_⟩:=HGG.out wr HBY.out
        obtain ⟨rs,hrs⟩:∃ q,r.s = q:=⟨_,rfl⟩
        have HRS:=Lib.hid hrs
        rw [hrs] at h0
        clear hrs
        have hjm:i * m ≤ 16777216:=HMB.out i hi
        by_cases hxe:rs = (i:Int)
        case neg =>
         have hxb:(rs == (i:Int)) = false:=by simpa using hxe
         have HS2:=Lib.hid (show (R.take (j + 1)).filter (fun r=>decide (r.s = (i:Int))) = (R.take j).filter (fun r=>decide (r.s = (i:Int))) from by
          rw [HS.out,HRS.out,decide_eq_false hxe];exact List.append_nil _)
         clear HS
         go_wp2
         go_roundw
         case rel=>exact ⟨j + 1,mm,c',CA,by go_num,by omega,by omega,HKC,Lib.hid (by rw [HS2.out];exact HCO.out),Lib.hid (by rw [HS2.out];exact HCL.out),HBY⟩
         case measure=>simp [intOf];omega
        subst hxe
        have HS2:=Lib.hid (show (R.take (j + 1)).filter (fun r=>decide (r.s = (i:Int))) = (R.take j).filter (fun r=>decide (r.s = (i:Int))) ++ [r] from by
         rw [HS.out,HRS.out,decide_eq_true rfl];rfl)
        clear HS
        go_upto_region 31 with fail
        clear h0
        refine wp_region_U (fun V=>Below wc.heap.size wc V) (fun V=>V.cell? ⟨bC,2,none⟩ = some (.slice CA mm c')) 7 (by kernel_rfl) ?_
        change anyU _ _ _ _ _ _ _ 10 _ _ _
        have HBD:=Lib.hid (below_dr wr)
        have hA0:=HBY.out.trans ((below_dr wr).mono HBY.out.size)
        have HK9:=Lib.hid (HKC.out.below HBD.out HKC.out.lt)
        have HO9:=Lib.hid (own_below HCO.out HBD.out)
        generalize wr.drew = wd at HBD hA0 HK9 HO9 ⊢
        have hB0:=HK9.out.cell (j:=2) rfl
        (refine uA 0 ?_ rfl hA0 hB0 (fun W hA=>?_) ?_;rotate_left;(· (go_simp;try with_reducible rfl));(try simp only [Act.put,List.setIfInBounds_toArray,List.set_cons_zero,List.set_cons_succ]))
        (refine uB 1 ?_ rfl hA0 hB0 (fun W hA hB=>?_) ?_;rotate_left;(· (go_simp;try with_reducible rfl));(try simp only [Act.put,List.setIfInBounds_toArray,List.set_cons_zero,List.set_cons_succ]))
        (refine uA 2 ?_ rfl hA0 hB0 (fun W hA=>?_) ?_;rotate_left;(· (go_simp;try with_reducible rfl));refine uA 3 ?_ rfl hA0 hB0 (fun W hA=>?_) ?_;rotate_left;(· (go_simp;try with_reducible rfl));(try simp only [Act.put,List.setIfInBounds_toArray,List.set_cons_zero,List.set_cons_succ]))
        (refine uA 4 ?_ rfl hA0 hB0 (fun W hA=>?_) ?_;rotate_left;(· (go_simp;try with_reducible rfl));(try simp only [Act.put,List.setIfInBounds_toArray,List.set_cons_zero,List.set_cons_succ]))
        (refine uA 5 ?_ rfl hA0 hB0 (fun W hA=>?_) ?_;rotate_left;(· (obtain ⟨h0,h1,h2,h3⟩:=HGG.out W hA;rw [HRS.out] at h0;go_simp;try with_reducible rfl));(try simp only [Act.put,List.setIfInBounds_toArray,List.set_cons_zero,List.set_cons_succ]))
        refine uOne (i:=6) rfl (by kernel_rfl) (fun K hK=>?_)
        go_simp
        have hbz:=box_below wd (.cells #[.int .i64 (i:Int),.int .i64 r.k,.int .i64 r.r,.int .i64 r.e] 63)
        have hA1:=hA0.trans (hbz.mono hA0.size)
        have hB1:=(HK9.out.below hbz HK9.out.lt).cell (j:=2) rfl
        (refine hK _ _ ⟨hA1,fun _=>hB1⟩ ?_;clear hK K;(try simp only [Act.put,List.setIfInBounds_toArray,List.set_cons_zero,List.set_cons_succ]))
        refine uOne (i:=7) rfl (by kernel_rfl) (fun K hK=>?_)
        refine step_pushN wd [.int .i64 (i:Int),.int .i64 r.k,.int .i64 r.r,.int .i64 r.e] (by rfl) (.tmp 101) (.tmp 106) 36 (by rfl) wc.heap.size 63 (.agg #[.int .i64 0,.int .i64 0,.int .i64 0,.int .i64 0]) 4 32 Try.underlying36 rm_info (by rfl) (by decide) (by rfl) (.slice CA mm c') mm _ (by rfl) HO9.out (by rfl) (fun q hq=>by simp at hq;rcases hq with rfl | rfl | rfl | rfl <;> rfl) (by omega) (by omega) hA0.size ?_
        intro A9 c9 w9 ho9 hg9
        have HK10:=Lib.hid (HK9.out.kept hg9 (blk_ne_own HO9.out HK9.out (by decide)))
        have e9:=HK10.out.cell (j:=2) rfl
        have f9:=HK10.out.free 2
        have l9:=HK10.out.lt
        have hA2:=hA0.grown hg9 hA0.size (fun q hq=>(HO9.out.lt q hq).1)
        (refine hK _ _ ⟨hA2,fun h=>absurd (h.symm.trans (by kernel_rfl:_ = true)) Bool.false_ne_true⟩ ?_;clear hK K;(try simp only [Act.put,List.setIfInBounds_toArray,List.set_cons_zero,List.set_cons_succ]))
        refine uOne (i:=8) rfl (by kernel_rfl) (fun K hK=>?_)
        go_simp
        (refine hK _ _ ⟨hA2,fun h=>absurd (h.symm.trans (by kernel_rfl:_ = true)) Bool.false_ne_true⟩ ?_;clear hK K;(try simp only [Act.put,List.setIfInBounds_toArray,List.set_cons_zero,List.set_cons_succ]))
        refine uOne (i:=9) rfl (by kernel_rfl) (fun K hK=>?_)
        go_simp
        have hA3:=hA2.setCell (p:=⟨bC,2,none⟩) (by show wc.heap.size ≤ bC;rw [HBCe.out];exact Nat.le_refl _) (.slice A9 (mm + 1) c9)
        (refine hK _ _ ⟨hA3,fun h=>absurd (h.symm.trans (by kernel_rfl:_ = true)) Bool.false_ne_true⟩ ?_;clear hK K;(try simp only [Act.put,List.setIfInBounds_toArray,List.set_cons_zero,List.set_cons_succ]))
        refine anyU_done (by kernel_rfl) ?_ _
        have hgs:=grown_setCell w9 bC 2 (.slice A9 (mm + 1) c9)
        have HK11:=Lib.hid (HK10.out.set (j:=2) (by simp) (.slice A9 (mm + 1) c9))
        have HO11:=Lib.hid (show (w9.setCell ⟨bC,2,none⟩ (.slice A9 (mm + 1) c9)).ownsRow wc.heap.size 63 4 (.slice A9 (mm + 1) c9) (mm + 1) ((srtP R i ++ (R.take (j + 1)).filter fun r=>decide (r.s = (i:Int))).flatMap rmc) from by
         rw [HS2.out,← List.append_assoc,List.flatMap_append]
         have e:([r]:List Rm).flatMap rmc = [.int .i64 (i:Int),.int .i64 r.k,.int .i64 r.r,.int .i64 r.e]:=by unfold rmc;rw [← HRS.out];rfl
         rw [e]
         exact ho9.kept hgs (own_ne_blk ho9 HK10.out (by decide)))
        have HL11:=Lib.hid (show (srtP R i ++ (R.take (j + 1)).filter fun r=>decide (r.s = (i:Int))).length = mm + 1 by rw [HS2.out,← List.append_assoc,List.length_append,HCL.out];rfl)
        have HBN:=Lib.hid hA3
        clear hA0 hA1 hA2 hA3 hB0 hB1 e9 f9 l9 hgs hg9 ho9 hbz
        go_wp2
        go_roundw
        case rel=>exact ⟨j + 1,mm + 1,c9,A9,by go_num,by omega,by omega,HK11,HO11,HL11,HBN⟩
        case measure=>simp [intOf];omega
      obtain rfl:i = k:=by omega
      have b1:¬ (i:Int) < (i:Int):=by omega
      have HDL:=Lib.hid (show ([]:List Int) = (l.take 0).map (dstF P.a (inF i l)) from rfl)
      have hmm9:mm ≤ 16777216:=Nat.le_trans hmm (HMB.out i (Nat.le_refl _))
      go_wp2
      clear a0 a1 a2 a3 a4 a5
      go_loopw [15] (fun s15 wy=>∃ (t c9:Nat) (DA:Option Addr),s15 = .int .i64 t∧t ≤ nl∧Hid (Blk wy bC 38 [.slice LA nl cl,.slice DA t c9,.slice CA mm c'])∧Hid (wy.ownsRow wc.heap.size 63 4 (.slice CA mm c') mm ((srtP R i).flatMap rmc))∧Hid (wy.ownsRow wc.heap.size 3 1 (.slice DA t c9) t (iv ((l.take t).map (dstF P.a (inF i l)))))∧Hid (Below wc.heap.size wc wy)) (fun s15 _=>nl - (intOf s15).toNat)
      case atStart=>exact ⟨0,0,none,rfl,Nat.zero_le _,HKC,HCO,Lib.hid (World.ownsRow_nil _ _ _ _),HBY⟩
      case round =>
       clear HKC HCO HBY HB19
       obtain ⟨t,c9,DA,rfl,ht,HKC,HCO,HDO,HBY⟩:=hrel
       have HB19:=Lib.hid (HB13.out.trans (HBY.out.mono HB13.out.size))
       by_cases hlt7:t < nl
       case pos =>
        obtain ⟨x,hx⟩:∃ x,l[t]? = some x:=⟨_,List.getElem?_eq_getElem (by rw [HLL.out];exact hlt7)⟩
        obtain ⟨ad,hA,_,hcell⟩:=(HL4.out wr HBY.out) t (.int .i64 x) (by rw [iv_get,hx];rfl)
        subst hA
        have hxr:=HLR.out x (List.mem_of_getElem? hx)
        obtain ⟨xn,rfl⟩:∃ j:Nat,x = (j:Int):=⟨x.toNat,by omega⟩
        have HAD:=Lib.hid (show ∀ V,Below wc.heap.size wc V → V.cell? (ad.add t) = some (.int .i64 (xn:Int)) from fun V hb=>by
         obtain ⟨ad2,hA2,_,h3⟩:=(HL4.out V hb) t (.int .i64 (xn:Int)) (by rw [iv_get,hx];rfl)
         injection hA2 with hA2
         subst hA2
         exact h3)
        have HS:=Lib.hid (take_snoc' hx)
        have b2:(t:Int) < (nl:Int):=by omega
        have HDX:=Lib.hid (fun (V:World) (hb:Below wc.heap.size wc V)=>HDS.out (some ad) nl cl l xn V (HB13.out.trans (hb.mono HB13.out.size)) HLL.out (HL4.out V hb) hc1 hc2 HLI.out HLR.out (List.mem_of_getElem? hx))
        rw [← HPA.out] at HDX
        obtain ⟨d,hd⟩:∃ d,dstF P.a (inF i l) (xn:Int) = d:=⟨_,rfl⟩
        rw [hd] at HDX
        have HDE:=Lib.hid hd
        clear hx hcell hd hxr
        go_upto_region 35 with fail
        refine wp_region_U (fun V=>Below wc.heap.size wc V) (fun V=>V.cell? ⟨bC,1,none⟩ = some (.slice DA t c9)) 10 (by kernel_rfl) ?_
        change anyU _ _ _ _ _ _ _ 13 _ _ _
        have HBD:=Lib.hid (below_dr wr)
        have hA0:=HBY.out.trans ((below_dr wr).mono HBY.out.size)
        have HK9:=Lib.hid (HKC.out.below HBD.out HKC.out.lt)
        have HO9:=Lib.hid (own_below HCO.out HBD.out)
        have HD9:=Lib.hid (own_below HDO.out HBD.out)
        generalize wr.drew = wd at HBD hA0 HK9 HO9 HD9 ⊢
        have hB0:=HK9.out.cell (j:=1) rfl
        (refine uA 0 ?_ rfl hA0 hB0 (fun W hA=>?_) ?_;rotate_left;(· (go_simp;try with_reducible rfl));(try simp only [Act.put,List.setIfInBounds_toArray,List.set_cons_zero,List.set_cons_succ]))
        (refine uB 1 ?_ rfl hA0 hB0 (fun W hA hB=>?_) ?_;rotate_left;(· (go_simp;try with_reducible rfl));(try simp only [Act.put,List.setIfInBounds_toArray,List.set_cons_zero,List.set_cons_succ]))
        (refine uA 2 ?_ rfl hA0 hB0 (fun W hA=>?_) ?_;rotate_left;(· (obtain ⟨⟨a0,a1,a2,a3,a4⟩,a5⟩:=HK.out W (HB13.out.trans (hA.mono HB13.out.size));go_simp;try with_reducible rfl));(try simp only [Act.put,List.setIfInBounds_toArray,List.set_cons_zero,List.set_cons_succ]))
        (refine uA 3 ?_ rfl hA0 hB0 (fun W hA=>?_) ?_;rotate_left;(· (go_simp;try with_reducible rfl));refine uA 4 ?_ rfl hA0 hB0 (fun W hA=>?_) ?_;rotate_left;(· (go_simp;try with_reducible rfl));(try simp only [Act.put,List.setIfInBounds_toArray,List.set_cons_zero,List.set_cons_succ]))
        (refine uA 5 ?_ rfl hA0 hB0 (fun W hA=>?_) ?_;rotate_left;(· (go_simp;try with_reducible rfl));(try simp only [Act.put,List.setIfInBounds_toArray,List.set_cons_zero,List.set_cons_succ]))
        (refine uA 6 ?_ rfl hA0 hB0 (fun W hA=>?_) ?_;rotate_left;(· (have a0:=HAD.out W hA;go_simp;try with_reducible rfl));(try simp only [Act.put,List.setIfInBounds_toArray,List.set_cons_zero,List.set_cons_succ]))
        (refine uA 7 ?_ rfl hA0 hB0 (fun W hA=>?_) ?_;rotate_left;(· (go_simp;try with_reducible rfl));(try simp only [Act.put,List.setIfInBounds_toArray,List.set_cons_zero,List.set_cons_succ]))
        refine uOne (i:=8) rfl (by kernel_rfl) (fun K hK=>?_)
        go_simp
        go_at_call 47
        refine (HDX.out wd hA0).mono ?_
        rintro e we ⟨rfl,hbe⟩
        have hA1:=hA0.trans (hbe.mono hA0.size)
        have HK10:=Lib.hid (HK9.out.below hbe HK9.out.lt)
        have HO10:=Lib.hid (own_below HO9.out hbe)
        have HD10:=Lib.hid (own_below HD9.out hbe)
        have hB1:=HK10.out.cell (j:=1) rfl
        (refine hK _ _ ⟨hA1,fun _=>hB1⟩ ?_;clear hK K;(try simp only [Act.put,List.setIfInBounds_toArray,List.set_cons_zero,List.set_cons_succ]))
        clear hA0 hB0 hbe
        refine uOne (i:=9) rfl (by kernel_rfl) (fun K hK=>?_)
        go_simp
        have hbz:=box_below we (.cells #[.int .i64 d] 3)
        have hA2:=hA1.trans (hbz.mono hA1.size)
        have hB2:=(HK10.out.below hbz HK10.out.lt).cell (j:=1) rfl
        (refine hK _ _ ⟨hA2,fun _=>hB2⟩ ?_;clear hK K;(try simp only [Act.put,List.setIfInBounds_toArray,List.set_cons_zero,List.set_cons_succ]))
        refine uOne (i:=10) rfl (by kernel_rfl) (fun K hK=>?_)
        refine step_pushN we [.int .i64 d] (by rfl) (.tmp 116) (.tmp 124) 29 (by rfl) wc.heap.size 3 (.int .i64 0) 1 8 Try.underlying29 int_info (by rfl) (by decide) (by rfl) (.slice DA t c9) t _ (by rfl) HD10.out (by rfl) (fun q hq=>by simp at hq;subst hq;rfl) (by omega) (by omega) hA1.size ?_
        intro A9 e9 w9 ho9 hg9
        have HK11:=Lib.hid (HK10.out.kept hg9 (blk_ne_own HD10.out HK10.out (by decide)))
        have HO11:=Lib.hid (own_kept_ne HO10.out HD10.out (by decide) hg9)
        have q9:=HK11.out.cell (j:=1) rfl
        have f9:=HK11.out.free 1
        have l9:=HK11.out.lt
        have hA3:=hA1.grown hg9 hA1.size (fun q hq=>(HD10.out.lt q hq).1)
        (refine hK _ _ ⟨hA3,fun h=>absurd (h.symm.trans (by kernel_rfl:_ = true)) Bool.false_ne_true⟩ ?_;clear hK K;(try simp only [Act.put,List.setIfInBounds_toArray,List.set_cons_zero,List.set_cons_succ]))
        refine uOne (i:=11) rfl (by kernel_rfl) (fun K hK=>?_)
        go_simp
        (refine hK _ _ ⟨hA3,fun h=>absurd (h.symm.trans (by kernel_rfl:_ = true)) Bool.false_ne_true⟩ ?_;clear hK K;(try simp only [Act.put,List.setIfInBounds_toArray,List.set_cons_zero,List.set_cons_succ]))
        refine uOne (i:=12) rfl (by kernel_rfl) (fun K hK=>?_)
        go_simp
        have hA4:=hA3.setCell (p:=⟨bC,1,none⟩) (by show wc.heap.size ≤ bC;rw [HBCe.out];exact Nat.le_refl _) (.slice A9 (t + 1) e9)
        (refine hK _ _ ⟨hA4,fun h=>absurd (h.symm.trans (by kernel_rfl:_ = true)) Bool.false_ne_true⟩ ?_;clear hK K;(try simp only [Act.put,List.setIfInBounds_toArray,List.set_cons_zero,List.set_cons_succ]))
        refine anyU_done (by kernel_rfl) ?_ _
        have hgs:=grown_setCell w9 bC 1 (.slice A9 (t + 1) e9)
        have HK12:=Lib.hid (HK11.out.set (j:=1) (by simp) (.slice A9 (t + 1) e9))
        have HO12:=Lib.hid (HO11.out.kept hgs (own_ne_blk HO11.out HK11.out (by decide)))
        have HD12:=Lib.hid (show (w9.setCell ⟨bC,1,none⟩ (.slice A9 (t + 1) e9)).ownsRow wc.heap.size 3 1 (.slice A9 (t + 1) e9) (t + 1) (iv ((l.take (t + 1)).map (dstF P.a (inF i l)))) from by
         rw [HS.out,List.map_append,iv_append]
         have e:([(xn:Int)]:List Int).map (dstF P.a (inF i l)) = [d]:=by rw [← HDE.out];rfl
         rw [e]
         exact ho9.kept hgs (own_ne_blk ho9 HK11.out (by decide)))
        have HBN:=Lib.hid hA4
        clear hA1 hA2 hA3 hA4 hB1 hB2 q9 f9 l9 hgs hg9 ho9 hbz
        go_wp2
        go_roundw
        case rel=>exact ⟨t + 1,e9,A9,by go_num,by omega,HK12,HO12,HD12,HBN⟩
        case measure=>simp [intOf];omega
       obtain rfl:t = nl:=by omega
       have b2:¬ (t:Int) < (t:Int):=by omega
       have hTK:l.take t = l:=List.take_of_length_le (by rw [HLL.out];exact Nat.le_refl _)
       rw [hTK] at HDO
       have kR9:=HKR.out wr HB19.out
       have hB9:=HB.out wr HB19.out
       have kC9:=HKC.out
       have f0:=kR9.free 0
       have f1:=kR9.free 1
       have f2:=kR9.free 2
       have e0:=kR9.cell (j:=0) rfl
       have e1:=kR9.cell (j:=1) rfl
       have e2:=kR9.cell (j:=2) rfl
       have l9:=kR9.lt
       have d0:=kC9.cell (j:=0) rfl
       have d1:=kC9.cell (j:=1) rfl
       have d2:=kC9.cell (j:=2) rfl
       have hL9:=HL4.out wr HBY.out
       have hc9:=own_cap' HDO.out
       have hcC:=own_cap' HCO.out
       have HPK:=Lib.hid (And.intro hc9 (And.intro hcC hL9))
       clear hc9 hcC hL9 kC9 hTK
       go_wp2
       have hkr:=((kR9.set (j:=0) (by simp) (.slice LA t cl)).set (j:=1) (by simp) (.slice DA t c9)).set (j:=2) (by simp) (.slice CA mm c')
       have z0:=hkr.cell (j:=0) rfl
       have z1:=hkr.cell (j:=1) rfl
       have z2:=hkr.cell (j:=2) rfl
       have hq:∀ k:Nat,w.heap.size ≤ (⟨w.heap.size + 1,k,none⟩:Addr).block:=fun k=>by show w.heap.size ≤ w.heap.size + 1;omega
       have F:=((hB9.setCell (p:=⟨w.heap.size + 1,0,none⟩) (hq 0) (.slice LA t cl)).setCell (p:=⟨w.heap.size + 1,1,none⟩) (hq 1) (.slice DA t c9)).setCell (p:=⟨w.heap.size + 1,2,none⟩) (hq 2) (.slice CA mm c')
       refine bodyPost_ret (v:=.agg #[.slice LA t cl,.slice DA t c9,.slice CA mm c']) (by simp [results,Try.results14,go_sem,z0,z1,z2]) rfl ?_
       have hg:=((grown_setCell wr (w.heap.size + 1) 0 (.slice LA t cl)).trans (grown_setCell _ _ 1 (.slice DA t c9))).trans (grown_setCell _ _ 2 (.slice CA mm c'))
       have h64:=keeps64_blk kR9 (by intro v hv y e;subst e;simp at hv) hg
       have hlow:w.heap.size + 1 < wc.heap.size:=Nat.lt_of_lt_of_le HBS.out HB13.out.size
       have hce:(⟨⟨LA,t,cl,l⟩,⟨DA,t,c9,l.map (dstF P.a (inF i l))⟩,CA,mm,c',srtP R i⟩:CV).ce = prvC P:=by
        rw [← HCE.out]
        unfold CV.ce cerL
        rw [HN.out]
        rfl
       refine ⟨⟨⟨LA,t,cl,l⟩,⟨DA,t,c9,l.map (dstF P.a (inF i l))⟩,CA,mm,c',srtP R i⟩,rfl,⟨⟨HLL.out,hc1,hc2,RdI.k64 HPK.out.2.2 h64⟩,⟨by show (l.map _).length = t;rw [List.length_map,HLL.out],HPK.out.1.1,HPK.out.1.2,rdI_own (by rw [List.length_map,HLL.out]) (own_kept_low HDO.out hg hlow)⟩,HCL.out,RdR.of_own (by omega) (fun _ _=>rfl) (own_kept_low HCO.out hg hlow),HPK.out.2.1.1,HPK.out.2.1.2⟩,hce,?_,F⟩
       have h5:=prvC_few HM.out
       rw [← hce] at h5
       have h6:(srtP R i).length ≤ 1000000:=h5
       rw [HCL.out] at h6
       exact h6
    | false =>
     have hne:¬ (1 < rk∧W = []):=fun h9=>absurd (HQ.out.2 h9) (by simp)
     have HNX:=Lib.hid (show PvS P k (rk + 1) (l.filter (kpW W)) (R ++ W) from by
      have h9:=HPS.out.next HM.out HN.out (by rw [HWE.out];exact hne)
      rw [HWE.out] at h9
      exact h9)
     have HL4:=Lib.hid (fun (V:World) (hb:Below wc.heap.size wc V)=>(HRL.out.below (HB3.out.trans (hb.mono HB3.out.size))).more (HB3.out.trans (hb.mono HB3.out.size)).size)
     have HW4:=Lib.hid (fun (V:World) (hb:Below wc.heap.size wc V)=>RdR.of_own (f:=rmc) (l:=W) (by omega) (fun _ _=>rfl) (own_below HO7.out hb))
     have hc7:=own_cap' HO7.out
     clear hne HQ
     obtain ⟨wo,rfl⟩:∃ wo,wo = wr:=⟨_,rfl⟩
     go_wp2
     go_loopw [8,9,10,11] (fun s8 s9 s10 s11 wy=>∃ (i nn c':Nat) (NA:Option Addr) (v10 v11:Value),s8 = .slice NA nn c'∧s9 = .int .i64 i∧s10 = v10∧s11 = v11∧i ≤ nl∧nn ≤ i∧Hid (wy.ownsRow wc.heap.size 3 1 (.slice NA nn c') nn (iv ((l.take i).filter (kpW W))))∧Hid (((l.take i).filter (kpW W)).length = nn)∧Hid (Below wc.heap.size wc wy)) (fun _ s9 _ _ _=>nl - (intOf s9).toNat)
     case atStart=>exact ⟨0,0,0,none,_,_,rfl,rfl,rfl,rfl,Nat.zero_le _,Nat.le_refl _,Lib.hid (World.ownsRow_nil _ _ _ _),Lib.hid rfl,Lib.hid (Below.refl _ _)⟩
     case round =>
      obtain ⟨i,nn,c',NA,v10,v11,rfl,rfl,rfl,rfl,hi,hnn,HNO,HNL,HBY⟩:=hrel
      by_cases hlt:i < nl
      case neg =>
       obtain rfl:i = nl:=by omega
       have b1:¬ (i:Int) < (i:Int):=by omega
       have HTA:=Lib.hid (show l.take i = l from List.take_of_length_le (by rw [HLL.out];exact Nat.le_refl _))
       rw [HTA.out] at HNO HNL
       have HO9:=Lib.hid (own_below HO3.out HBY.out)
       have hsz:w1.heap.size ≤ wr.heap.size:=Nat.le_trans HB13.out.size HBY.out.size
       go_wp2_with (first | (at_builtin;refine wpList_appN rmc 4 (by decide) (fun _=>rfl) wr rfl (.tmp 75) (.tmp 76) 36 rfl w1.heap.size 63 (.agg #[.int .i64 0,.int .i64 0,.int .i64 0,.int .i64 0]) 32 Try.underlying36 rm_info (by rfl) (.slice A m c) m _ rfl HO9.out _ A7 m7 c7 W HW7.out rfl (HW4.out wr HBY.out) (rmc_one _) (by omega) (by omega) hsz ?_;intro v' w' ho' hg';obtain ⟨A',c9,rfl⟩:=own_shape ho') | fail)
       have HO10:=Lib.hid (show w'.ownsRow w1.heap.size 63 4 (.slice A' (m + m7) c9) (m + m7) ((R ++ W).flatMap rmc) by rw [List.flatMap_append];exact ho')
       have HRM2:=Lib.hid (show (R ++ W).length = m + m7 by rw [List.length_append,HRm.out,HW7.out])
       have hno:=own_kept_ne HNO.out HO9.out (by decide) hg'
       have HRL2:=Lib.hid (rdI_own HNL.out hno)
       have hcn:=own_cap' hno
       have HBF:=Lib.hid ((HB13.out.trans (HBY.out.mono HB13.out.size)).grown hg' hsz (fun j hj=>(HO9.out.lt j hj).1))
       have hwk:IntKind.i64.wrap (rk + 1) = rk + 1:=IntWalk.i64_in _ (by omega)
       clear HO9 ho' hg' hno
       go_roundw
       case rel=>exact ⟨rk + 1,nn,c',m + m7,c9,NA,A',l.filter (kpW W),R ++ W,_,_,_,_,_,rfl,rfl,by go_num,rfl,rfl,rfl,rfl,rfl,hcn.1,hcn.2,HNX,HNL,HRL2,HO10,HRM2,HBF⟩
       case measure=>simp [intOf];omega
      obtain ⟨x,hx⟩:∃ x,l[i]? = some x:=⟨_,List.getElem?_eq_getElem (by rw [HLL.out];exact hlt)⟩
      obtain ⟨ad,hA,_,hcell⟩:=(HL4.out wr HBY.out) i (.int .i64 x) (by rw [iv_get,hx];rfl)
      subst hA
      have HS:=Lib.hid (filter_snoc (f:=kpW W) hx)
      have b1:(i:Int) < (nl:Int):=by omega
      obtain ⟨wp,rfl⟩:∃ wp,wp = wr:=⟨_,rfl⟩
      have HAD:=Lib.hid (fun (V:World) (hb:Below wp.heap.size wp V)=>(hb.cell (World.block_lt_of_cell? _ _ hcell)).trans hcell)
      clear hx hcell
      go_wp2
      go_loopw [10,11] (fun s10 s11 wq=>∃ (j:Nat) (g:Bool),s10 = .bool g∧s11 = .int .i64 j∧j ≤ m7∧Hid (g = (W.take j).any fun r=>r.s == x)∧Hid (Below wp.heap.size wp wq)) (fun _ s11 _=>m7 - (intOf s11).toNat)
      case atStart=>exact ⟨0,false,rfl,rfl,Nat.zero_le _,Lib.hid rfl,Lib.hid (Below.refl _ _)⟩
      case round =>
       obtain ⟨j,g,rfl,rfl,hj,HG,HBQ⟩:=hrel
       by_cases hlj:j < m7
       case pos =>
        obtain ⟨bd,r,hA7,hr,g0,_,_,_⟩:=rm_reads (HW4.out wr (HBY.out.trans (HBQ.out.mono HBY.out.size))) (j:=j) (by rw [HW7.out];exact hlj)
        obtain ⟨rs,hrs⟩:∃ q,r.s = q:=⟨_,rfl⟩
        rw [hrs] at g0
        have HG0:=Lib.hid (fun (V:World) (hb:Below wr.heap.size wr V)=>(hb.cell (World.block_lt_of_cell? _ _ g0)).trans g0)
        have HS4:=Lib.hid (show (W.take (j + 1)).any (fun r=>r.s == x) = (g || (rs == x)) by rw [any_snoc hr,← HG.out,hrs])
        have HA7:=Lib.hid hA7
        have b2:(j:Int) < (m7:Int):=by omega
        clear hr hrs g0 hA7
        rw [HA7.out]
        cases g with
        | true =>
         go_upto_region 19 with fail
         refine wp_region_U (fun V=>Below wr.heap.size wr V) (fun _=>True) 99 (by kernel_rfl) ?_
         change anyU _ _ _ _ _ _ _ 14 _ _ _
         have hB0:True:=trivial
         have hA0:=below_dr wr
         generalize wr.drew = wd at hA0 ⊢
         (refine uA 0 ?_ rfl hA0 hB0 (fun W hA=>?_) ?_;rotate_left;(· (go_simp;try with_reducible rfl));refine uA 1 ?_ rfl hA0 hB0 (fun W hA=>?_) ?_;rotate_left;(· (go_simp;try with_reducible rfl));(try simp only [Act.put,List.setIfInBounds_toArray,List.set_cons_zero,List.set_cons_succ]))
         (refine uS 2 rfl hA0 hB0 ?_;refine uS 3 rfl hA0 hB0 ?_;refine uS 4 rfl hA0 hB0 ?_;(try simp only [Act.put,List.setIfInBounds_toArray,List.set_cons_zero,List.set_cons_succ]))
         (refine uS 5 rfl hA0 hB0 ?_;refine uS 6 rfl hA0 hB0 ?_;refine uS 7 rfl hA0 hB0 ?_;(try simp only [Act.put,List.setIfInBounds_toArray,List.set_cons_zero,List.set_cons_succ]))
         (refine uS 8 rfl hA0 hB0 ?_;refine uS 9 rfl hA0 hB0 ?_;refine uS 10 rfl hA0 hB0 ?_;(try simp only [Act.put,List.setIfInBounds_toArray,List.set_cons_zero,List.set_cons_succ]))
         (refine uS 11 rfl hA0 hB0 ?_;(try simp only [Act.put,List.setIfInBounds_toArray,List.set_cons_zero,List.set_cons_succ]))
         (refine uA 12 ?_ rfl hA0 hB0 (fun W hA=>?_) ?_;rotate_left;(· (go_simp;try with_reducible rfl));(try simp only [Act.put,List.setIfInBounds_toArray,List.set_cons_zero,List.set_cons_succ]))
         refine uOne (i:=13) rfl (by kernel_rfl) (fun K hK=>?_)
         go_simp
         (refine hK _ _ ⟨hA0,fun _=>hB0⟩ ?_;clear hK K;(try simp only [Act.put,List.setIfInBounds_toArray,List.set_cons_zero,List.set_cons_succ]))
         refine anyU_done (by kernel_rfl) ?_ _
         have HBN:=Lib.hid (HBQ.out.trans (hA0.mono HBQ.out.size))
         clear hA0
         go_wp2
         go_roundw
         case rel=>exact ⟨j + 1,_,rfl,by go_num,by omega,Lib.hid (by rw [HS4.out];first | (simp;done) | (rw [HXB.out];rfl)),HBN⟩
         case measure=>simp [intOf];omega
        | false =>
         by_cases hxe:rs = x
         ·subst hxe
          go_upto_region 19 with fail
          refine wp_region_U (fun V=>Below wr.heap.size wr V) (fun _=>True) 99 (by kernel_rfl) ?_
          change anyU _ _ _ _ _ _ _ 14 _ _ _
          have hB0:True:=trivial
          have hA0:=below_dr wr
          generalize wr.drew = wd at hA0 ⊢
          (refine uA 0 ?_ rfl hA0 hB0 (fun W hA=>?_) ?_;rotate_left;(· (go_simp;try with_reducible rfl));refine uA 1 ?_ rfl hA0 hB0 (fun W hA=>?_) ?_;rotate_left;(· (go_simp;try with_reducible rfl));(try simp only [Act.put,List.setIfInBounds_toArray,List.set_cons_zero,List.set_cons_succ]))
          (refine uA 2 ?_ rfl hA0 hB0 (fun W hA=>?_) ?_;rotate_left;(· (go_simp;try with_reducible rfl));refine uA 3 ?_ rfl hA0 hB0 (fun W hA=>?_) ?_;rotate_left;(· (go_simp;try with_reducible rfl));(try simp only [Act.put,List.setIfInBounds_toArray,List.set_cons_zero,List.set_cons_succ]))
          (refine uA 4 ?_ rfl hA0 hB0 (fun W hA=>?_) ?_;rotate_left;(· (go_simp;try with_reducible rfl));(try simp only [Act.put,List.setIfInBounds_toArray,List.set_cons_zero,List.set_cons_succ]))
          (refine uA 5 ?_ rfl hA0 hB0 (fun W hA=>?_) ?_;rotate_left;(· (go_simp;try with_reducible rfl));(try simp only [Act.put,List.setIfInBounds_toArray,List.set_cons_zero,List.set_cons_succ]))
          (refine uA 6 ?_ rfl hA0 hB0 (fun W hA=>?_) ?_;rotate_left;(· (have a0:=HG0.out W hA;go_simp;try with_reducible rfl));(try simp only [Act.put,List.setIfInBounds_toArray,List.set_cons_zero,List.set_cons_succ]))
          (refine uA 7 ?_ rfl hA0 hB0 (fun W hA=>?_) ?_;rotate_left;(· (go_simp;try with_reducible rfl));refine uA 8 ?_ rfl hA0 hB0 (fun W hA=>?_) ?_;rotate_left;(· (go_simp;try with_reducible rfl));(try simp only [Act.put,List.setIfInBounds_toArray,List.set_cons_zero,List.set_cons_succ]))
          (refine uA 9 ?_ rfl hA0 hB0 (fun W hA=>?_) ?_;rotate_left;(· (go_simp;try with_reducible rfl));(try simp only [Act.put,List.setIfInBounds_toArray,List.set_cons_zero,List.set_cons_succ]))
          (refine uA 10 ?_ rfl hA0 hB0 (fun W hA=>?_) ?_;rotate_left;(· (have a0:=HAD.out W (HBQ.out.trans (hA.mono HBQ.out.size));go_simp;try with_reducible rfl));(try simp only [Act.put,List.setIfInBounds_toArray,List.set_cons_zero,List.set_cons_succ]))
          (refine uA 11 ?_ rfl hA0 hB0 (fun W hA=>?_) ?_;rotate_left;(· (go_simp;try with_reducible rfl));(try simp only [Act.put,List.setIfInBounds_toArray,List.set_cons_zero,List.set_cons_succ]))
          (refine uA 12 ?_ rfl hA0 hB0 (fun W hA=>?_) ?_;rotate_left;(· (go_simp;try with_reducible rfl));(try simp only [Act.put,List.setIfInBounds_toArray,List.set_cons_zero,List.set_cons_succ]))
          refine uOne (i:=13) rfl (by kernel_rfl) (fun K hK=>?_)
          go_simp
          (refine hK _ _ ⟨hA0,fun _=>hB0⟩ ?_;clear hK K;(try simp only [Act.put,List.setIfInBounds_toArray,List.set_cons_zero,List.set_cons_succ]))
          refine anyU_done (by kernel_rfl) ?_ _
          have HBN:=Lib.hid (HBQ.out.trans (hA0.mono HBQ.out.size))
          clear hA0
          go_wp2
          go_roundw
          case rel=>exact ⟨j + 1,_,rfl,by go_num,by omega,Lib.hid (by rw [HS4.out];first | (simp;done) | (rw [HXB.out];rfl)),HBN⟩
          case measure=>simp [intOf];omega
         ·have hxb:(rs == x) = false:=by simpa using hxe
          go_upto_region 19 with fail
          refine wp_region_U (fun V=>Below wr.heap.size wr V) (fun _=>True) 99 (by kernel_rfl) ?_
          change anyU _ _ _ _ _ _ _ 14 _ _ _
          have hB0:True:=trivial
          have hA0:=below_dr wr
          generalize wr.drew = wd at hA0 ⊢
          (refine uA 0 ?_ rfl hA0 hB0 (fun W hA=>?_) ?_;rotate_left;(· (go_simp;try with_reducible rfl));refine uA 1 ?_ rfl hA0 hB0 (fun W hA=>?_) ?_;rotate_left;(· (go_simp;try with_reducible rfl));(try simp only [Act.put,List.setIfInBounds_toArray,List.set_cons_zero,List.set_cons_succ]))
          (refine uA 2 ?_ rfl hA0 hB0 (fun W hA=>?_) ?_;rotate_left;(· (go_simp;try with_reducible rfl));refine uA 3 ?_ rfl hA0 hB0 (fun W hA=>?_) ?_;rotate_left;(· (go_simp;try with_reducible rfl));(try simp only [Act.put,List.setIfInBounds_toArray,List.set_cons_zero,List.set_cons_succ]))
          (refine uA 4 ?_ rfl hA0 hB0 (fun W hA=>?_) ?_;rotate_left;(· (go_simp;try with_reducible rfl));(try simp only [Act.put,List.setIfInBounds_toArray,List.set_cons_zero,List.set_cons_succ]))
          (refine uA 5 ?_ rfl hA0 hB0 (fun W hA=>?_) ?_;rotate_left;(· (go_simp;try with_reducible rfl));(try simp only [Act.put,List.setIfInBounds_toArray,List.set_cons_zero,List.set_cons_succ]))
          (refine uA 6 ?_ rfl hA0 hB0 (fun W hA=>?_) ?_;rotate_left;(· (have a0:=HG0.out W hA;go_simp;try with_reducible rfl));(try simp only [Act.put,List.setIfInBounds_toArray,List.set_cons_zero,List.set_cons_succ]))
          (refine uA 7 ?_ rfl hA0 hB0 (fun W hA=>?_) ?_;rotate_left;(· (go_simp;try with_reducible rfl));refine uA 8 ?_ rfl hA0 hB0 (fun W hA=>?_) ?_;rotate_left;(· (go_simp;try with_reducible rfl));(try simp only [Act.put,List.setIfInBounds_toArray,List.set_cons_zero,List.set_cons_succ]))
          (refine uA 9 ?_ rfl hA0 hB0 (fun W hA=>?_) ?_;rotate_left;(· (go_simp;try with_reducible rfl));(try simp only [Act.put,List.setIfInBounds_toArray,List.set_cons_zero,List.set_cons_succ]))
          (refine uA 10 ?_ rfl hA0 hB0 (fun W hA=>?_) ?_;rotate_left;(· (have a0:=HAD.out W (HBQ.out.trans (hA.mono HBQ.out.size));go_simp;try with_reducible rfl));(try simp only [Act.put,List.setIfInBounds_toArray,List.set_cons_zero,List.set_cons_succ]))
          (refine uA 11 ?_ rfl hA0 hB0 (fun W hA=>?_) ?_;rotate_left;(· (go_simp;try with_reducible rfl));(try simp only [Act.put,List.setIfInBounds_toArray,List.set_cons_zero,List.set_cons_succ]))
          have HXB:=Lib.hid hxb
          clear hxb hxe
          (refine uA 12 ?_ rfl hA0 hB0 (fun W hA=>?_) ?_;rotate_left;(· (go_simp;try with_reducible rfl));(try simp only [Act.put,List.setIfInBounds_toArray,List.set_cons_zero,List.set_cons_succ]))
          refine uOne (i:=13) rfl (by kernel_rfl) (fun K hK=>?_)
          go_simp
          (refine hK _ _ ⟨hA0,fun _=>hB0⟩ ?_;clear hK K;(try simp only [Act.put,List.setIfInBounds_toArray,List.set_cons_zero,List.set_cons_succ]))
          refine anyU_done (by kernel_rfl) ?_ _
          have HBN:=Lib.hid (HBQ.out.trans (hA0.mono HBQ.out.size))
          clear hA0
          go_wp2
          go_roundw
          case rel=>exact ⟨j + 1,_,rfl,by go_num,by omega,Lib.hid (by rw [HS4.out];first | (simp;done) | (rw [HXB.out];rfl)),HBN⟩
          case measure=>simp [intOf];omega
       obtain rfl:j = m7:=by omega
       have b2:¬ (j:Int) < (j:Int):=by omega
       have HKW:=Lib.hid (show kpW W x = !g by
        unfold kpW
        rw [HG.out,List.take_of_length_le (by rw [HW7.out];exact Nat.le_refl _)])
       have HB9:=Lib.hid (HBY.out.trans (HBQ.out.mono HBY.out.size))
       have HNO2:=Lib.hid (own_below HNO.out HBQ.out)
       cases g with
       | true =>
        have HS2:=Lib.hid (show (l.take (i + 1)).filter (kpW W) = (l.take i).filter (kpW W) from by rw [HS.out,HKW.out];exact List.append_nil _)
        clear HS
        go_wp2
        go_roundw
        case rel=>exact ⟨i + 1,nn,c',NA,_,_,rfl,by go_num,rfl,rfl,by omega,by omega,Lib.hid (by rw [HS2.out];exact HNO2.out),Lib.hid (by rw [HS2.out];exact HNL.out),HB9⟩
        case measure=>simp [intOf];omega
       | false =>
        have HS2:=Lib.hid (show (l.take (i + 1)).filter (kpW W) = (l.take i).filter (kpW W) ++ [x] from by rw [HS.out,HKW.out];rfl)
        clear HS
        have a9:=HAD.out wr HBQ.out
        have hsz:=HB9.out.size
        go_wp2_with (first | (at_builtin;refine wpList_push wr (.int .i64 x) rfl (.tmp 67) (.tmp 72) 29 rfl wc.heap.size 3 (.int .i64 0) 8 Try.underlying29 int_info rfl (.slice NA nn c') nn _ rfl HNO2.out rfl rfl (by omega) (by omega) hsz ?_;intro v' w' ho' hg' hb1;obtain ⟨A',c9,rfl⟩:=own_shape ho') | fail)
        have HNO3:=Lib.hid (show w'.ownsRow wc.heap.size 3 1 (.slice A' (nn + 1) c9) (nn + 1) (iv ((l.take (i + 1)).filter (kpW W))) by rw [HS2.out,iv_append];exact ho')
        have HBX:=Lib.hid (HB9.out.trans hb1)
        go_roundw
        case rel=>exact ⟨i + 1,nn + 1,c9,A',_,_,rfl,by go_num,rfl,rfl,by omega,by omega,HNO3,Lib.hid (by rw [HS2.out,List.length_append,HNL.out];rfl),HBX⟩
        case measure=>simp [intOf];omega
end Go.Proofs.Ytdnmpndnpfklcaa

/- Walk: maximality.Ranks. -/
import Derived.Test.YtdnmpndnpfklcaaXt
namespace Go.Proofs.Ytdnmpndnpfklcaa
open Go.RowKit Go Go.Maps
set_option maxRecDepth 100000 in
set_option maxHeartbeats 3200000 in
theorem max_Ranks (z:PB) (c:CV) (w:World) (h:z.ok w w.heap.size) (hm:z.m.ok) (hc:c.ok w w.heap.size) (hrn:c.rn ≤ 1000000) (hf:FOk z.m.a.st c.ce) (hv:VOk z.m c.ce) :
    Calls Try.prog 23 #[.agg (pbc z).toArray,.agg (cvc c).toArray] w (RetDs (rnkS c.rm) (mxR c.rm).toNat w):=by
  have HC:=Lib.hid (fun (W:World) (h9:z.ok W W.heap.size) (h8:c.ok W W.heap.size)=>max_check z c W h9 hm h8 hrn)
  have HV0:=Lib.hid (fun (v:Int) (h9:VerIs z.m c.ce v)=>VerIs.unique h9 (VerIs.of hf hv))
  obtain ⟨CC,hCC⟩:∃ q,c.ce = q:=⟨_,rfl⟩
  have HCR:=Lib.hid (show CC.rm = c.rm by rw [← hCC];rfl)
  have hrn4:c.rn ≤ 4096:=by
    have h0:=hm.wf.st0
    have h3:=hm.wf.st1
    have h1:=incR_len (k:=z.m.a.st.toNat) hf.rinc (by rw [show ((z.m.a.st.toNat:Nat):Int) = z.m.a.st by omega];exact hf.rrng)
    have h2:c.ce.rm.length = c.rn:=hc.rl
    omega
  have HRR:=Lib.hid (show ∀ r ∈ c.rm,0 ≤ r.s∧r.s < 4096 from fun r hr=>by have:=hf.rrng r hr;have:=hm.wf.st1;omega)
  rw [hCC] at hf hv HC HV0
  clear hCC
  have HFO:=Lib.hid hf
  have HVO:=Lib.hid hv
  have HM:=Lib.hid hm
  have hb1:=box_below w (.cells (pbc z).toArray 34)
  have kx:=Blk.new w 34 (pbc z)
  obtain ⟨w1,hw1⟩:∃ w1,w1 = w.alloc (.cells (pbc z).toArray 34):=⟨_,rfl⟩
  rw [← hw1] at hb1 kx
  have hb2:=box_below w1 (.cells (cvc c).toArray 38)
  have kx2:=kx.below hb2 kx.lt
  have kc:=Blk.new w1 38 (cvc c)
  have hs1:w1.heap.size = w.heap.size + 1:=by rw [hw1];simp
  rw [hs1] at kc
  obtain ⟨w2,hw2⟩:∃ w2,w2 = w1.alloc (.cells (cvc c).toArray 38):=⟨_,rfl⟩
  rw [← hw2] at hb2 kx2 kc
  have hb12:=hb1.trans (hb2.mono hb1.size)
  have HZ:=Lib.hid (fun (W:World) (hb:Below w2.heap.size w2 W)=>(h.below (hb12.trans (hb.mono hb12.size))).more (hb12.trans (hb.mono hb12.size)).size)
  have HZC:=Lib.hid (fun (W:World) (hb:Below w2.heap.size w2 W)=>(hc.below (hb12.trans (hb.mono hb12.size))).more (hb12.trans (hb.mono hb12.size)).size)
  have HK:=Lib.hid (fun (W:World) (hb:Below w2.heap.size w2 W)=>kx2.below hb kx2.lt)
  have HKC:=Lib.hid (fun (W:World) (hb:Below w2.heap.size w2 W)=>kc.below hb kc.lt)
  have HB:=Lib.hid (fun (W:World) (hb:Below w2.heap.size w2 W)=>hb12.trans (hb.mono hb12.size))
  have HW2:=Lib.hid (show (w.alloc (.cells (pbc z).toArray 34)).alloc (.cells (cvc c).toArray 38) = w2 by rw [hw2,hw1])
  have hst:0 ≤ z.x.a.st:=hm.wf.st0
  have hst1:z.x.a.st ≤ 4096:=hm.wf.st1
  obtain ⟨n,hn⟩:∃ n:Nat,z.x.a.st = (n:Int):=⟨z.x.a.st.toNat,by omega⟩
  have HN:=Lib.hid hn
  have hn4:n ≤ 4096:=by omega
  have HRL:=Lib.hid hc.rl
  have HLE:=Lib.hid (show z.x.a.ed.length = z.x.ne from h.x.le)
  have hel:z.x.ne ≤ 1000000:=by have h1:=hm.wf.ed_le;have h2:z.m.a.ed.length = z.x.ne:=h.x.le;omega
  have HER:=Lib.hid (show ∀ y ∈ z.x.a.ed,(0 ≤ y.f∧y.f < (n:Int))∧(0 ≤ y.t∧y.t < (n:Int)) from fun y hy=>by have:=hm.wf.ev_rng hy;have:z.m.a.st = z.x.a.st:=rfl;omega)
  clear hst hst1 hb1 hb2 hb12 kx kx2 kc hw1 hw2 hs1 h hm hc hf hv
  unfold pbc at HC HK HW2 ⊢
  unfold cvc at HC HKC HW2 ⊢
  rw [hn] at HC HK HW2 ⊢
  clear hn
  obtain ⟨⟨A,na,ca,M,nm,cm,E,ne,ce,a⟩,⟨UA,un,uc,ul⟩,FA,fn,fc,flx⟩:=z
  obtain ⟨P,hP⟩:∃ q,PB.m ⟨⟨A,na,ca,M,nm,cm,E,ne,ce,a⟩,⟨UA,un,uc,ul⟩,FA,fn,fc,flx⟩ = q:=⟨_,rfl⟩
  have HPA:=Lib.hid (show P.a = a by rw [← hP];rfl)
  dsimp only at HC HK HW2 HZ HN HER HLE hel ⊢
  rw [hP] at HC HV0 HFO HVO HM
  clear hP
  obtain ⟨⟨a0,a1,a2,a3,a4⟩,a5⟩:=Blk.c6 (HK.out w2 (Below.refl _ _))
  obtain ⟨c0,c1,c2⟩:=Blk.c3 (HKC.out w2 (Below.refl _ _))
  go_enter Try.func23,Try.ntmps23
  go_upto_region 1 with fail
  rw [HW2.out]
  go_wp2_with fail
  refine (HC.out w2 (HZ.out w2 (Below.refl _ _)) (HZC.out w2 (Below.refl _ _))).mono ?_
  rintro _ w3 ⟨v,rfl,hvi,hb3⟩
  obtain rfl:=HV0.out v hvi
  have HB3:=Lib.hid hb3
  clear a0 a1 a2 a3 a4 a5 c0 c1 c2 HC hb3 hvi HV0
  obtain ⟨⟨KA,kn,kc,kl⟩,⟨DA,dn,dc,dl⟩,RA,rn,rc,l⟩:=c
  dsimp only at HKC HZC HRL HRR HCR hrn4 hrn ⊢
  have HRG:=Lib.hid (show ∀ r ∈ l,1 ≤ r.k∧r.k ≤ 4097 from fun r hr=>(HVO.out.rmv r (by rw [HCR.out];exact hr)).rk)
  obtain ⟨c0,c1,c2⟩:=Blk.c3 (HKC.out w3 HB3.out)
  have HMX0:=Lib.hid (show mxR (l.take 0) = 0 from rfl)
  go_wp2
  clear c0 c1 c2
  go_loopw [7,9,22] (fun s7 s9 s22 wr=>∃ (j:Nat) (m:Int) (v9:Value),s7 = .int .i64 m∧s9 = v9∧s22 = .int .i64 j∧j ≤ rn∧(0 ≤ m∧m ≤ 4097)∧Hid (mxR (l.take j) = m)∧Hid (Below w3.heap.size w3 wr)) (fun _ _ s22 _=>rn - (intOf s22).toNat)
  case atStart=>exact ⟨0,0,_,rfl,rfl,rfl,Nat.zero_le _,⟨by omega,by omega⟩,HMX0,Lib.hid (Below.refl _ _)⟩
  case round =>
    clear HMX0
    obtain ⟨j,m,v9,rfl,rfl,rfl,hj,⟨m0,m1⟩,HMX,HBL⟩:=hrel
    by_cases hlt:j < rn
    case pos =>
      have b1:(j:Int) < (rn:Int):=by omega
      obtain ⟨ad,x,hA,hx,g0,g1,g2,g3⟩:=rm_reads (HZC.out wr (HB3.out.trans (HBL.out.mono HB3.out.size))).rr (j:=j) (by show j < l.length;rw [show l.length = rn by exact HRL.out];exact hlt)
      have hA':RA = some ad:=hA
      subst hA'
      have hx':l[j]? = some x:=hx
      obtain ⟨k0,k1⟩:=HRG.out x (List.mem_of_getElem? hx')
      have HM9:=Lib.hid (show mxR (l.take (j + 1)) = max m x.k from by rw [take_snoc' hx',mxR_snoc,HMX.out])
      have hbx:=box_below wr (.cells #[.int .i64 x.s,.int .i64 x.k,.int .i64 x.r,.int .i64 x.e] 63)
      have ke:Blk (wr.alloc (.cells #[.int .i64 x.s,.int .i64 x.k,.int .i64 x.r,.int .i64 x.e] 63)) wr.heap.size 63 [.int .i64 x.s,.int .i64 x.k,.int .i64 x.r,.int .i64 x.e]:=Blk.new _ _ [_,_,_,_]
      have HB5:=Lib.hid (HBL.out.trans (hbx.mono HBL.out.size))
      clear hA hx hx' hbx HBL
      go_upto_region 8 with fail
      clear g0 g1 g2 g3
      generalize wr.heap.size = b9 at ke ⊢
      generalize wr.alloc (.cells #[.int .i64 x.s,.int .i64 x.k,.int .i64 x.r,.int .i64 x.e] 63) = w5 at ke HB5 ⊢
      have e1:=ke.cell (j:=1) rfl
      by_cases hmk:m ≤ x.k
      · have HM8:=Lib.hid (show mxR (l.take (j + 1)) = x.k by rw [HM9.out];omega)
        have hmk2:¬ x.k < m:=by omega
        go_wp2
        go_roundw
        case rel=>exact ⟨j + 1,x.k,_,by go_num,rfl,by go_num,by omega,⟨by omega,by omega⟩,HM8,HB5⟩
        case measure=>simp [intOf];omega
      · have HM8:=Lib.hid (show mxR (l.take (j + 1)) = m by rw [HM9.out];omega)
        have hmk2:x.k < m:=by omega
        go_wp2
        go_roundw
        case rel=>exact ⟨j + 1,m,_,by go_num,rfl,by go_num,by omega,⟨by omega,by omega⟩,HM8,HB5⟩
        case measure=>simp [intOf];omega
    obtain ⟨jn,hjn⟩:∃ q,q = rn:=⟨_,rfl⟩
    obtain rfl:j = rn:=by omega
    have b1:¬ (j:Int) < (j:Int):=by omega
    rw [List.take_of_length_le (by rw [show l.length = j by exact HRL.out];exact Nat.le_refl _)] at HMX
    obtain ⟨kk,rfl⟩:∃ k:Nat,m = (k:Int):=⟨m.toNat,by omega⟩
    have hkk:kk ≤ 4097:=by omega
    have HKK:=Lib.hid (show (mxR l).toNat = kk by rw [HMX.out];rfl)
    have hmk:∀ W:World,(Instr.makeSlice 29 (.int .i64 (kk:Int)) (.int .i64 (kk:Int))).run Try.prog W = .ok (.slice (some ⟨W.heap.size,0,none⟩) kk kk) (W.alloc (.cells (madeCells #[.int .i64 0] kk) 3)):=fun W=>run_make_row' 29 3 (.int .i64 0) 8 Try.underlying29 int_info rfl .i64 .i64 kk (by omega) (by omega) W
    clear hjn hlt
    go_upto_region 11 with fail
    clear hmk
    have HO0:=Lib.hid (show Blk (wr.alloc (.cells (madeCells #[.int .i64 0] kk) 3)) wr.heap.size 3 (iv ((l.take 0).foldl rnkX (List.replicate kk 0))) from by
      rw [made_ints];exact Blk.new _ _ _)
    have HB0:=Lib.hid (HBL.out.trans ((box_below wr (.cells (madeCells #[.int .i64 0] kk) 3)).mono HBL.out.size))
    have HOW:=Lib.hid HBL.out.size
    generalize wr.heap.size = ob at HO0 HOW ⊢
    generalize wr.alloc (.cells (madeCells #[.int .i64 0] kk) 3) = w5 at HO0 HB0 ⊢
    have HSP:=Lib.hid (fun (j:Nat)=>rnkF_spec (n:=kk) (l.take j) [] (List.replicate kk 0) (fun r hr=>by
      have hm:=List.mem_of_mem_take hr
      have h1:=(mxR_ge l 0).2 r hm
      have h2:mxR l = (kk:Int):=HMX.out
      unfold mxR at h2
      exact ⟨(HRG.out r hm).1,by omega⟩) List.length_replicate (fun i h0 h1=>by rw [gI_rep];rfl))
    obtain ⟨c0,c1,c2⟩:=Blk.c3 (HKC.out w5 (HB3.out.trans (HB0.out.mono HB3.out.size)))
    go_wp2
    clear c0 c1 c2
    go_loopw [12,36] (fun s12 s36 wr=>∃ (i:Nat) (v12:Value),s12 = v12∧s36 = .int .i64 i∧i ≤ j∧Hid (Blk wr ob 3 (iv ((l.take i).foldl rnkX (List.replicate kk 0))))∧Hid (Below w3.heap.size w3 wr)) (fun _ s36 _=>j - (intOf s36).toNat)
    case atStart=>exact ⟨0,_,rfl,rfl,Nat.zero_le _,HO0,HB0⟩
    case round =>
      clear HO0 HB0
      obtain ⟨i,v12,rfl,rfl,hi,HO,HBL2⟩:=hrel
      by_cases hlt:i < j
      case neg =>
        obtain rfl:i = j:=by omega
        have b2:¬ (i:Int) < (i:Int):=by omega
        rw [List.take_of_length_le (by rw [show l.length = i by exact HRL.out];exact Nat.le_refl _)] at HO
        have HRN:=Lib.hid (show rnkS l = l.foldl rnkX (List.replicate kk 0) by unfold rnkS;rw [HKK.out])
        have HLN:=Lib.hid (show (rnkS l).length = (mxR l).toNat from (rnkS_spec (fun r hr=>(HRG.out r hr).1)).1)
        go_wp2
        refine bodyPost_ret (v:=.tuple #[_,.int .i64 0]) (by simp [results,Try.results23,go_sem];rfl) rfl ?_
        refine ⟨ob,by rw [HKK.out],by rw [HRN.out];exact HO.out,HLN.out,?_,HB.out _ (HB3.out.trans (HBL2.out.mono HB3.out.size))⟩
        have h1:=(HB.out _ HB3.out).size
        have h2:=HOW.out
        omega
      have b2:(i:Int) < (j:Int):=by omega
      obtain ⟨ad,x,hA,hx,g0,g1,g2,g3⟩:=rm_reads (HZC.out wr (HB3.out.trans (HBL2.out.mono HB3.out.size))).rr (j:=i) (by show i < l.length;rw [show l.length = j by exact HRL.out];exact hlt)
      have hA':RA = some ad:=hA
      subst hA'
      have hx':l[i]? = some x:=hx
      obtain ⟨k0,k1⟩:=HRG.out x (List.mem_of_getElem? hx')
      have k2:x.k ≤ (kk:Int):=by
        have h1:=(mxR_ge l 0).2 x (List.mem_of_getElem? hx')
        have h2:mxR l = (kk:Int):=HMX.out
        unfold mxR at h2
        omega
      have HST:=Lib.hid (show (l.take (i + 1)).foldl rnkX (List.replicate kk 0) = rnkX ((l.take i).foldl rnkX (List.replicate kk 0)) x from by rw [take_snoc' hx',List.foldl_append];rfl)
      obtain ⟨hln,hgv⟩:=HSP.out i
      obtain ⟨gv,hg⟩:∃ q,gI ((l.take i).foldl rnkX (List.replicate kk 0)) (x.k - 1) = q:=⟨_,rfl⟩
      have hg2:0 ≤ gv∧gv ≤ 4096:=by
        have h1:=hgv (x.k - 1) (by omega) (by omega)
        rw [hg,List.nil_append] at h1
        have h2:cnR (l.take i) (x.k - 1 + 1) ≤ (l.take i).length:=List.countP_le_length
        rw [List.length_take] at h2
        omega
      obtain ⟨kp,hkp⟩:∃ q,x.k.toNat - 1 = q:=⟨_,rfl⟩
      have hkl:kp < ((l.take i).foldl rnkX (List.replicate kk 0)).length:=by rw [hln];omega
      have HGV:=Lib.hid hg
      have HKP:=Lib.hid hkp
      have HKL:=Lib.hid hkl
      have hbx:=box_below wr (.cells #[.int .i64 x.s,.int .i64 x.k,.int .i64 x.r,.int .i64 x.e] 63)
      have ke:Blk (wr.alloc (.cells #[.int .i64 x.s,.int .i64 x.k,.int .i64 x.r,.int .i64 x.e] 63)) wr.heap.size 63 [.int .i64 x.s,.int .i64 x.k,.int .i64 x.r,.int .i64 x.e]:=Blk.new _ _ [_,_,_,_]
      have HB5:=Lib.hid (HBL2.out.trans (hbx.mono HBL2.out.size))
      have HO5:=Lib.hid (HO.out.below hbx HO.out.lt)
      clear hA hx hx' hbx HBL2 HO hln hgv hg hkl
      go_upto_region 14 with fail
      clear g0 g1 g2 g3
      generalize wr.heap.size = b12 at ke ⊢
      generalize wr.alloc (.cells #[.int .i64 x.s,.int .i64 x.k,.int .i64 x.r,.int .i64 x.e] 63) = w6 at ke HB5 HO5 ⊢
      have e1:=ke.cell (j:=1) rfl
      have d1:w6.cell? ⟨ob,kp,none⟩ = some (.int .i64 gv):=by
        have h9:=HO5.out.cell (iv_gI HKL.out)
        rw [show ((kp:Nat):Int) = x.k - 1 by have:=HKP.out;omega,HGV.out] at h9
        exact h9
      rw [← hkp] at d1
      have f1:w6.frozen? ⟨ob,x.k.toNat - 1,none⟩ = false:=HO5.out.free _
      have l1:ob < w6.heap.size:=HO5.out.lt
      have w1':IntKind.i64.wrap (x.k - 1) = x.k - 1:=IntWalk.i64_in _ (by omega)
      have w2':IntKind.i64.wrap (gv + 1) = gv + 1:=IntWalk.i64_in _ (by omega)
      have t1:¬ x.k - 1 < 0:=by omega
      have t2:x.k - 1 < (kk:Int):=by omega
      have HO9:=Lib.hid (show Blk (w6.setCell ⟨ob,x.k.toNat - 1,none⟩ (.int .i64 (gv + 1))) ob 3 (iv ((l.take (i + 1)).foldl rnkX (List.replicate kk 0))) from by
        have e9:∀ R:List Int,rnkX R x = R.set (x.k - 1).toNat (gI R (x.k - 1) + 1):=fun R=>rfl
        rw [HST.out,e9,HGV.out,show (x.k - 1).toNat = x.k.toNat - 1 by omega,← iv_set]
        exact HO5.out.set (by rw [iv_length,HKP.out];exact HKL.out) _)
      have HB9:=Lib.hid (HB5.out.setCell (p:=⟨ob,x.k.toNat - 1,none⟩) HOW.out (.int .i64 (gv + 1)))
      clear hkp
      go_wp2
      go_roundw
      case rel=>exact ⟨i + 1,_,rfl,by go_num,by omega,HO9,HB9⟩
      case measure=>simp [intOf];omega
end Go.Proofs.Ytdnmpndnpfklcaa

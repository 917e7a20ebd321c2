/- Walk of (*synthesis.problem).distances. -/
import Derived.Test.YtdnmpndnpfklcaaX2
import Derived.Test.YtdnmpndnpfklcaaXc
namespace Go.Proofs.Ytdnmpndnpfklcaa
open Go.RowKit Go Go.Maps
set_option maxRecDepth 100000 in
set_option maxHeartbeats 6400000 in
theorem syn_distances (x:AV) (u:IV) (pb o lb n m:Nat) (g:Int → Option Hd) (N:List Bool) (w0 w:World) (hx:x.ok w w.heap.size) (hw:WF x.a) (hn:x.a.st = (n:Int)) (hS:StM w0 x u pb o lb n w m x.a.ed g N) :
  Calls Try.prog 95 #[.pointer (some ⟨pb,0,none⟩)] w (RetDis (dsS x.a.ed N x.a.ma).1 n w):=by
 obtain ⟨A,na,ca,M,nm,cm,E,ne,ce,a⟩:=x
 dsimp only at hw hn hS ⊢
 have HII:=Lib.hid (fun (W:World) (hb:Below w.heap.size w W)=>hS.quiet hb)
 have HRM:=Lib.hid (fun (W:World) (hb:Below w.heap.size w W)=>(AutR.more (AutR.below hx hb) hb.size).rm)
 have HLM:=Lib.hid hx.lm
 have HMR:=Lib.hid (show ∀ s ∈ a.ma,0 ≤ s∧s < (n:Int) from fun s hs=>by have:=hw.mrng s hs;omega)
 have HER:=Lib.hid (show ∀ x ∈ a.ed,(0 ≤ x.f∧x.f < (n:Int))∧(0 ≤ x.t∧x.t < (n:Int)) from fun x hx=>by have:=hw.ev_rng hx;omega)
 have HEL:=Lib.hid (show a.ed.length ≤ 1000000 from by have:=hw.ed_le;omega)
 have HNL:=Lib.hid hS.nl
 have hst1:=hw.st1
 rw [hn] at hst1
 have hnm:nm ≤ 4096:=by
  have:=inc_len (n:=n) hw.minc (by rw [← hn];exact hw.mrng)
  have hlm:a.ma.length = nm:=hx.lm
  omega
 have HDS:=Lib.hid (DsI.start (es:=a.ed) (N:=N) (n:=n) HMR.out (hw.minc.imp (fun h=>by omega)))
 have hn4:n ≤ 4096:=by omega
 have hm:∀ W:World,(Instr.makeSlice 29 (.int .i64 (n:Int)) (.int .i64 (n:Int))).run Try.prog W = .ok (.slice (some ⟨W.heap.size,0,none⟩) n n) (W.alloc (.cells (madeCells #[.int .i64 0] n) 3)):=fun W=>run_make_row' 29 3 (.int .i64 0) 8 Try.underlying29 int_info rfl .i64 .i64 n (by omega) (by omega) W
 have HD0:=Lib.hid (show DisW w (w.alloc (.cells (madeCells #[.int .i64 0] n) 3)) (.slice none 0 0) 0 (d1L n 0,[]) from by
  refine ⟨box_below _ _,?_,World.ownsRow_nil _ _ _ _,rfl⟩
  rw [show madeCells #[.int .i64 0] n = (iv (d1L n 0)).toArray from by
   apply Array.ext'
   rw [toList_madeCells_one]
   simp [d1L,iv]]
  exact Blk.new _ _ _)
 have a1:=hS.kp.cell (j:=1) rfl
 clear hx hw hn hS
 go_enter Try.func95,Try.ntmps95
 go_upto_region 2 with fail
 clear a1 hm
 go_wp2
 go_loopw [4,19] (fun s4 s19 wr=>∃ (k:Nat) (v4:Value),s4 = v4∧s19 = .int .i64 k∧k ≤ n∧Hid (DisW w wr (.slice none 0 0) 0 (d1L n k,[]))) (fun _ s19 _=>n - (intOf s19).toNat)
 case atStart=>exact ⟨0,_,rfl,rfl,Nat.zero_le _,HD0⟩
 case round =>
  clear HD0
  obtain ⟨k,v4,rfl,rfl,hk,HD⟩:=hrel
  by_cases hlt:k < n
  ·have b1:(k:Int) < (n:Int):=by omega
   have g2:wr.frozen? ⟨w.heap.size,k,none⟩ = false:=HD.out.out.free _
   have g3:w.heap.size < wr.heap.size:=HD.out.out.lt
   obtain ⟨q,hu⟩:∃ u,(iv (d1L n k))[k]? = some u:=⟨_,List.getElem?_eq_getElem (by rw [iv_length,d1L_len hk];exact hlt)⟩
   have g1:wr.cell? ⟨w.heap.size,k,none⟩ = some q:=HD.out.out.cell hu
   have HD2:=Lib.hid (show DisW w (wr.setCell ⟨w.heap.size,k,none⟩ (.int .i64 (-1))) (.slice none 0 0) 0 (d1L n (k + 1),[]) from by rw [← d1L_set hlt];exact HD.out.set (by rw [d1L_len hk];exact hlt) (-1))
   clear hu
   go_wp2
   go_roundw
   case rel=>exact ⟨k + 1,_,rfl,by go_num,by omega,HD2⟩
   case measure=>simp [intOf];omega
  obtain rfl:k = n:=by omega
  have b1:¬ (k:Int) < (k:Int):=by omega
  have hd0:d1L k k = List.replicate k (-1):=by unfold d1L;simp
  rw [hd0] at HD
  obtain ⟨SM,hSM⟩:∃ s,dsI N a.ma (List.replicate k (-1),[]) = s:=⟨_,rfl⟩
  rw [hSM] at HDS
  have HU0:=Lib.hid (show dsU 0 (List.replicate k (-1),[]) from fun v hv=>by rw [List.eq_of_mem_replicate hv];decide)
  have HSM:=Lib.hid (show dsI N (a.ma.drop 0) (List.replicate k (-1),[]) = SM from hSM)
  have HLL:=Lib.hid (show ((List.replicate k (-1:Int),([]:List Int)).1.length = k) from List.length_replicate ..)
  have HRES:=Lib.hid (show (dsS a.ed N a.ma).1 = (dsG a.ed N (k + 1 - 0) 0 SM).1 from by rw [← hSM];unfold dsS;rw [HNL.out];rfl)
  obtain ⟨RES,hRES⟩:∃ r,(dsS a.ed N a.ma).1 = r:=⟨_,rfl⟩
  rw [hRES] at HRES
  have HR00:=Lib.hid hRES
  clear hd0 hSM hRES
  have a2:=(HII.out wr HD.out.bel).kp.cell (j:=2) rfl
  generalize (List.replicate k (-1:Int),([]:List Int)) = S0 at HD HU0 HSM HLL
  go_wp2
  clear a2
  go_loopw [5,7,32] (fun s5 s7 s32 wr=>∃ (j q:Nat) (v5 v7:Value) (S:DS),v5 = s5∧s7 = v7∧s32 = .int .i64 j∧j ≤ nm∧q ≤ j∧Hid (DisW w wr v5 q S)∧Hid (dsI N (a.ma.drop j) S = SM)∧Hid (dsU 0 S)∧Hid (S.1.length = k)) (fun _ _ s32 _=>nm - (intOf s32).toNat)
  case atStart=>exact ⟨0,0,_,_,S0,rfl,rfl,rfl,Nat.zero_le _,Nat.le_refl _,HD,HSM,HU0,HLL⟩
  case round =>
   clear HD HSM HU0 HLL
   obtain ⟨j,q,v5,v7,S,rfl,rfl,rfl,hj,hq,HD,HSM,HU,HLL⟩:=hrel
   obtain ⟨OA,oc,rfl⟩:=own_shape HD.out.row
   by_cases hlt:j < nm
   ·obtain ⟨ad,s,rfl,hab,hs,hcs⟩:=(HRM.out wr HD.out.bel).at_ (k:=j) (by rw [HLM.out];exact hlt)
    have b2:(j:Int) < (nm:Int):=by omega
    obtain ⟨s0,s1⟩:=HMR.out s (List.mem_of_getElem? hs)
    obtain ⟨b,hb⟩:∃ b,fl N s = b:=⟨_,rfl⟩
    have g0:=(HII.out wr HD.out.bel).kp.cell (j:=6) rfl
    have g1:wr.cell? ⟨lb,s.toNat,none⟩ = some (.bool b):=(HII.out wr HD.out.bel).kl.cell (by rw [bvl_get,fl_get hb s0 (by rw [HNL.out];exact s1)];rfl)
    have hstep:dsI N (a.ma.drop j) S = dsI N (a.ma.drop (j + 1)) (dsM N S s):=by rw [drop_cons' hs];rfl
    have HSM2:=Lib.hid (hstep.symm.trans HSM.out)
    have t1:¬ s < 0:=by omega
    clear hs hab hstep
    cases b with
    | false =>
     have HSM3:=Lib.hid (show dsI N (a.ma.drop (j + 1)) S = SM from by
      have:=HSM2.out
      unfold dsM at this
      rw [if_neg (by rw [hb];simp)] at this
      exact this)
     clear hb
     go_wp2
     go_roundw
     case rel=>exact ⟨j + 1,q,_,_,S,rfl,rfl,by go_num,by omega,by omega,HD,HSM3,HU,HLL⟩
     case measure=>simp [intOf];omega
    | true =>
     have HSM3:=Lib.hid (show dsI N (a.ma.drop (j + 1)) (S.1.set s.toNat 0,S.2 ++ [s]) = SM from by
      have:=HSM2.out
      unfold dsM at this
      rw [if_pos hb] at this
      exact this)
     have hsl:s.toNat < S.1.length:=by rw [HLL.out];omega
     have g2:wr.frozen? ⟨w.heap.size,s.toNat,none⟩ = false:=HD.out.out.free _
     have g3:w.heap.size < wr.heap.size:=HD.out.out.lt
     have g4:=HD.out.cell s0 hsl rfl
     have HD2:=Lib.hid (HD.out.set hsl 0)
     have HU2:=Lib.hid (HU.out.set (j:=s.toNat) (v:=0) (Int.le_refl _) (S.2 ++ [s]))
     have HL2:=Lib.hid (show (S.1.set s.toNat 0,S.2 ++ [s]).1.length = k by rw [List.length_set];exact HLL.out)
     have hs2:=HD2.out.siz
     clear hb
     go_upto_region 13 with fail
     clear g0 g1 g2 g3 g4
     generalize wr.setCell ⟨w.heap.size,s.toNat,none⟩ (.int .i64 0) = w5 at HD2 hs2 ⊢
     go_wp2_with (first | (at_builtin;refine wpList_push w5 (.int .i64 s) rfl (.tmp 46) (.tmp 48) 29 rfl (w.heap.size + 1) 3 (.int .i64 0) 8 Try.underlying29 int_info rfl _ q _ rfl HD2.out.row rfl rfl (by omega) (by omega) hs2 ?_;intro v' w' ho' hg' hb1) | fail)
     have HD3:=Lib.hid (HD2.out.push (x:=s) ho' hg')
     go_roundw
     case rel=>exact ⟨j + 1,q + 1,_,_,_,rfl,rfl,by go_num,by omega,by omega,HD3,HSM3,HU2,HL2⟩
     case measure=>simp [intOf];omega
   obtain rfl:j = nm:=by omega
   have b2:¬ (j:Int) < (j:Int):=by omega
   have hsm:S = SM:=by
    have:=HSM.out
    rw [List.drop_of_length_le (by rw [HLM.out];exact Nat.le_refl _)] at this
    exact this
   subst hsm
   clear HSM HMR HRM
   go_upto_region 16 with fail
   go_loopw [5,8,10] (fun s5 s8 s10 wr=>∃ (i q:Nat) (v5 v10:Value) (S:DS),v5 = s5∧s8 = .int .i64 i∧s10 = v10∧i ≤ q∧q ≤ k∧Hid (DisW w wr v5 q S)∧Hid (DsI a.ed N a.ma k i S)∧Hid (dsU (i:Int) S)∧Hid (RES = (dsG a.ed N (k + 1 - i) i S).1)) (fun _ s8 _ _=>4097 - (intOf s8).toNat)
   case atStart=>exact ⟨0,q,_,_,S,rfl,rfl,rfl,Nat.zero_le _,by have:=HDS.out.qlen;rw [HD.out.ql] at this;exact this,HD,HDS,HU,HRES⟩
   case round =>
    clear HD HDS HU HRES HLL hq b2 hj
    obtain ⟨i,q,v5,v10,S,rfl,rfl,rfl,hi,hqk,HD,HDI,HU,HRES⟩:=hrel
    by_cases hlt:i < q
    ·obtain ⟨s,hs⟩:∃ s,S.2[i]? = some s:=⟨_,List.getElem?_eq_getElem (by rw [HD.out.ql];exact hlt)⟩
     have b2:(i:Int) < (q:Int):=by omega
     obtain ⟨oa,oc,rfl,ho1,ho2⟩:=RdI.own_at' HD.out.ql HD.out.row hs
     have hsr:=(HDI.out.rng s (List.mem_of_getElem? hs)).1
     have HKW:=Lib.hid (intKey s (WalkArith.wf_i64 (by omega)))
     obtain ⟨RA,rc,hRA,_⟩:=(HII.out wr HD.out.bel).into.rdx s
     have HRX:=Lib.hid (fun (W:World) (hb:Below w.heap.size w W)=>(HII.out W hb).into.rdx_at hRA)
     obtain ⟨nl,hnl⟩:∃ nl,(preL a.ed s).length = nl:=⟨_,rfl⟩
     rw [hnl] at hRA
     have HLK:=Lib.hid (fun (W:World) (hb:Below w.heap.size w W)=>(show (Instr.lookup 155 (.map (some o)) (.int .i64 s) false).run Try.prog W = .ok (.slice RA nl rc) W from by
      have h:=(HII.out W hb).into.tab.look (t:=155) intLaw Try.underlying155 (zeroIts W) s HKW.out
      rw [hRA] at h
      exact h))
     have HNE:=Lib.hid hnl
     have hnm:nl ≤ 1000000:=by
      have h1:=List.length_filter_le (fun x:Ed=>decide (x.t = s)) a.ed
      have h2:=HEL.out
      rw [← hnl]
      exact Nat.le_trans h1 h2
     obtain ⟨d,hd⟩:∃ d,gI S.1 s = d:=⟨_,rfl⟩
     have hsl:s.toNat < S.1.length:=by rw [HDI.out.len];omega
     have hdi:d ≤ (i:Int):=by rw [← hd];exact HU.out.at_ hsr.1 hsl
     have hd0:0 ≤ d:=by
      rw [← hd]
      rcases HDI.out.on s hsr.1 hsr.2 with h9 | h9
      ·exact h9.2
      ·exact absurd (List.mem_of_getElem? hs) h9.1
     have HQ0:=Lib.hid (show DsQ a.ed N a.ma k i s ((preL a.ed s).take 0) S from ⟨HDI.out,hs,fun x hx=>by cases hx⟩)
     have HU0:=Lib.hid (show dsU ((i:Int) + 1) S from fun v hv=>by have:=HU.out v hv;omega)
     have HR0:=Lib.hid (show RES = (dsG a.ed N (k + 1 - (i + 1)) (i + 1) (dsR N d ((preL a.ed s).drop 0) S)).1 from by
      rw [HRES.out,show k + 1 - i = (k + 1 - (i + 1)) + 1 by omega,dsG_at hs,hd];rfl)
     have HGD:=Lib.hid hd
     have hs0:=hsr.1
     have hs1:=hsr.2
     have HOC:=Lib.hid (fun (W:World) (hb:Below wr.heap.size wr W)=>(hb.cell (World.block_lt_of_cell? _ _ ho2)).trans ho2)
     clear hs hRA hnl hd hsl HDI HU HRES hsr
     go_upto_region 18 with fail
     clear ho1 ho2
     refine wp_region_U (fun W=>Below wr.heap.size wr W) (fun _=>True) 99 (by kernel_rfl) ?_
     change anyU _ _ _ _ _ _ _ 11 _ _ _
     have hB0:True:=trivial
     have hA0:=below_dr wr
     have HDX:=Lib.hid (fun (W:World) (hb:Below wr.heap.size wr W)=>HD.out.bel.trans (hb.mono HD.out.bel.size))
     generalize wr.drew = wd at hA0 ⊢
     (refine uA 0 ?_ rfl hA0 hB0 (fun W hA=>?_) ?_;rotate_left;(· (go_simp;try with_reducible rfl));refine uA 1 ?_ rfl hA0 hB0 (fun W hA=>?_) ?_;rotate_left;(· (go_simp;try with_reducible rfl));refine uA 2 ?_ rfl hA0 hB0 (fun W hA=>?_) ?_;rotate_left;(· (go_simp;try with_reducible rfl));(try simp only [Act.put,List.setIfInBounds_toArray,List.set_cons_zero,List.set_cons_succ]))
     (refine uA 3 ?_ rfl hA0 hB0 (fun W hA=>?_) ?_;rotate_left;(· (have a0:=(HII.out W (HDX.out W hA)).kp.cell (j:=5) rfl;go_simp;try with_reducible rfl));(try simp only [Act.put,List.setIfInBounds_toArray,List.set_cons_zero,List.set_cons_succ]))
     (refine uA 4 ?_ rfl hA0 hB0 (fun W hA=>?_) ?_;rotate_left;(· (go_simp;try with_reducible rfl));refine uA 5 ?_ rfl hA0 hB0 (fun W hA=>?_) ?_;rotate_left;(· (go_simp;try with_reducible rfl));refine uA 6 ?_ rfl hA0 hB0 (fun W hA=>?_) ?_;rotate_left;(· (go_simp;try with_reducible rfl));(try simp only [Act.put,List.setIfInBounds_toArray,List.set_cons_zero,List.set_cons_succ]))
     (refine uA 7 ?_ rfl hA0 hB0 (fun W hA=>?_) ?_;rotate_left;(· (have a0:=HOC.out W hA;go_simp;try with_reducible rfl));(try simp only [Act.put,List.setIfInBounds_toArray,List.set_cons_zero,List.set_cons_succ]))
     (refine uA 8 ?_ rfl hA0 hB0 (fun W hA=>?_) ?_;rotate_left;(· (have a0:=HLK.out W (HDX.out W hA);go_simp;try with_reducible rfl));(try simp only [Act.put,List.setIfInBounds_toArray,List.set_cons_zero,List.set_cons_succ]))
     (refine uA 9 ?_ rfl hA0 hB0 (fun W hA=>?_) ?_;rotate_left;(· (go_simp;try with_reducible rfl));refine uA 10 ?_ rfl hA0 hB0 (fun W hA=>?_) ?_;rotate_left;(· (go_simp;try with_reducible rfl));(try simp only [Act.put,List.setIfInBounds_toArray,List.set_cons_zero,List.set_cons_succ]))
     refine anyU_done (by kernel_rfl) ?_ _
     have HD1:=Lib.hid (HD.out.quiet hA0)
     clear hA0 hB0 HD HDX HOC HLK
     go_wp2_with fail
     go_loopw [5,10,67] (fun s5 s10 s67 wr=>∃ (e q:Nat) (v5 v10:Value) (S:DS),v5 = s5∧s10 = v10∧s67 = .int .i64 e∧e ≤ nl∧i < q∧q ≤ k∧Hid (DisW w wr v5 q S)∧Hid (DsQ a.ed N a.ma k i s ((preL a.ed s).take e) S)∧Hid (dsU ((i:Int) + 1) S)∧Hid (gI S.1 s = d)∧Hid (RES = (dsG a.ed N (k + 1 - (i + 1)) (i + 1) (dsR N d ((preL a.ed s).drop e) S)).1)) (fun _ _ s67 _=>nl - (intOf s67).toNat)
     case atStart=>exact ⟨0,q,_,_,S,rfl,rfl,rfl,Nat.zero_le _,hlt,hqk,HD1,HQ0,HU0,HGD,HR0⟩
     case round =>
      clear HD1 HQ0 HU0 HGD HR0 hlt hqk b2 hi
      obtain ⟨e,q,v5,v10,S,rfl,rfl,rfl,he,hiq,hqk,HD,HQ,HU,HGD,HRES⟩:=hrel
      by_cases hle:e < nl
      ·have b2:(e:Int) < (nl:Int):=by omega
       obtain ⟨ad,xf,hA,hab,hxf,g0⟩:=(HRX.out wr HD.out.bel).at_ (k:=e) (by rw [List.length_map,HNE.out];exact hle)
       subst hA
       obtain ⟨x,hx,rfl⟩:∃ x,(preL a.ed s)[e]? = some x∧x.f = xf:=by
        rw [List.getElem?_map] at hxf
        obtain ⟨x,h1,h2⟩:=Option.map_eq_some_iff.1 hxf
        exact ⟨x,h1,h2⟩
       obtain ⟨hxe,hxt⟩:=preL_mem.1 (List.mem_of_getElem? hx)
       have hxr:=(HER.out x hxe).1
       have hqs:=HQ.out.step HER.out hxe hxt
       rw [HGD.out,← take_snoc' hx] at hqs
       have hrs:=dsR_at (N:=N) (d:=d) (s:=S) hx
       have HR2:=Lib.hid (show RES = (dsG a.ed N (k + 1 - (i + 1)) (i + 1) (dsR N d ((preL a.ed s).drop (e + 1)) (dsX N d S x))).1 from by rw [HRES.out,hrs])
       have hsl:s.toNat < S.1.length:=by rw [HQ.out.o.len];omega
       have hfl:x.f.toNat < S.1.length:=by rw [HQ.out.o.len];omega
       have hq1:=HQ.out.at_
       have HQS:=Lib.hid hqs
       obtain ⟨b,hb⟩:∃ b,fl N x.f = b:=⟨_,rfl⟩
       obtain ⟨v,hv⟩:∃ v,gI S.1 x.f = v:=⟨_,rfl⟩
       have HFL:=Lib.hid hb
       have HGV:=Lib.hid hv
       obtain ⟨y,hy⟩:∃ y,x.f = y:=⟨_,rfl⟩
       rw [hy] at g0 hxr hfl HFL HGV
       have HYX:=Lib.hid hy
       have e9:=(HII.out wr HD.out.bel).kp.cell (j:=6) rfl
       have e1:wr.cell? ⟨lb,y.toNat,none⟩ = some (.bool b):=(HII.out wr HD.out.bel).kl.cell (by rw [bvl_get,fl_get HFL.out hxr.1 (by rw [HNL.out];exact hxr.2)];rfl)
       have e2:=HD.out.cell hxr.1 hfl HGV.out
       have t1:¬ y < 0:=by omega
       have t2:y < (k:Int):=hxr.2
       obtain ⟨OA,oc,rfl⟩:=own_shape HD.out.row
       clear hxf hx hab hxe hxt hqs hrs hb hv hy
       by_cases hc:b = true∧v < 0
       case neg =>
        have HX:=Lib.hid (show dsX N d S x = S from by unfold dsX;rw [if_neg (by rw [HYX.out,HFL.out,HGV.out];exact hc)])
        have HQ9:=Lib.hid (show DsQ a.ed N a.ma k i s ((preL a.ed s).take (e + 1)) S from by have:=HQS.out.1;rw [HX.out] at this;exact this)
        have HR9:=Lib.hid (show RES = (dsG a.ed N (k + 1 - (i + 1)) (i + 1) (dsR N d ((preL a.ed s).drop (e + 1)) S)).1 from by have:=HR2.out;rw [HX.out] at this;exact this)
        cases b with
        | false =>
         clear hc
         go_wp2
         go_roundw
         case rel=>exact ⟨e + 1,q,_,_,S,rfl,rfl,by go_num,by omega,hiq,hqk,HD,HQ9,HU,HGD,HR9⟩
         case measure=>simp [intOf];omega
        | true =>
         have t3:¬ v < 0:=fun h=>hc ⟨rfl,h⟩
         clear hc
         go_wp2
         go_roundw
         case rel=>exact ⟨e + 1,q,_,_,S,rfl,rfl,by go_num,by omega,hiq,hqk,HD,HQ9,HU,HGD,HR9⟩
         case measure=>simp [intOf];omega
       obtain ⟨rfl,t3⟩:=hc
       have HX:=Lib.hid (show dsX N d S x = (S.1.set y.toNat (d + 1),S.2 ++ [y]) from by unfold dsX;rw [if_pos (by rw [HYX.out,HFL.out,HGV.out];exact ⟨rfl,t3⟩),HYX.out])
       have HQ9:=Lib.hid (show DsQ a.ed N a.ma k i s ((preL a.ed s).take (e + 1)) (S.1.set y.toNat (d + 1),S.2 ++ [y])∧gI (S.1.set y.toNat (d + 1)) s = d from by have:=HQS.out;rw [HX.out] at this;exact this)
       have HR9:=Lib.hid (show RES = (dsG a.ed N (k + 1 - (i + 1)) (i + 1) (dsR N d ((preL a.ed s).drop (e + 1)) (S.1.set y.toNat (d + 1),S.2 ++ [y]))).1 from by have:=HR2.out;rw [HX.out] at this;exact this)
       have HU9:=Lib.hid (HU.out.set (j:=y.toNat) (v:=d + 1) (by omega) (S.2 ++ [y]))
       have hql:q + 1 ≤ k:=by
        have:=HQ9.out.1.o.qlen
        rw [List.length_append,HD.out.ql] at this
        exact this
       obtain ⟨oa,oc',hoe,ho1,ho2⟩:=RdI.own_at' HD.out.ql HD.out.row hq1
       injection hoe with h1 h2 h3
       subst h1
       clear h2 h3 hq1
       have e3:=HD.out.cell hs0 hsl HGD.out
       have b5:(i:Int) < (q:Int):=by omega
       have hw1:IntKind.i64.wrap (d + 1) = d + 1:=IntWalk.i64_in _ (by omega)
       have t4:¬ s < 0:=by omega
       have g2:wr.frozen? ⟨w.heap.size,y.toNat,none⟩ = false:=HD.out.out.free _
       have g3:w.heap.size < wr.heap.size:=HD.out.out.lt
       have HD7:=Lib.hid (HD.out.set hfl (d + 1))
       go_upto_region 23 with fail
       clear g0 g2 g3 e1 e2 e3 e9 ho1 ho2 hw1 t4 b5
       have hs7:=HD7.out.siz
       generalize wr.setCell ⟨w.heap.size,y.toNat,none⟩ (.int .i64 (d + 1)) = w7 at HD7 hs7 ⊢
       go_wp2_with (first | (at_builtin;refine wpList_push w7 (.int .i64 y) rfl (.tmp 96) (.tmp 98) 29 rfl (w.heap.size + 1) 3 (.int .i64 0) 8 Try.underlying29 int_info rfl _ q _ rfl HD7.out.row rfl rfl (by omega) (by omega) hs7 ?_;intro v' w' ho' hg' hb1) | fail)
       have HD8:=Lib.hid (HD7.out.push (x:=y) ho' hg')
       go_roundw
       case rel=>exact ⟨e + 1,q + 1,_,_,_,rfl,rfl,by go_num,by omega,by omega,hql,HD8,Lib.hid HQ9.out.1,HU9,Lib.hid HQ9.out.2,HR9⟩
       case measure=>simp [intOf];omega
      ·obtain rfl:e = nl:=by omega
       have b2:¬ (e:Int) < (e:Int):=by omega
       have HD9:=Lib.hid (show DsI a.ed N a.ma k (i + 1) S from by
        have h:=HQ.out
        rw [List.take_of_length_le (by rw [HNE.out];exact Nat.le_refl _)] at h
        exact h.fin)
       have HR9:=Lib.hid (show RES = (dsG a.ed N (k + 1 - (i + 1)) (i + 1) S).1 from by
        have h:=HRES.out
        rw [List.drop_of_length_le (by rw [HNE.out];exact Nat.le_refl _)] at h
        exact h)
       have HU9:=Lib.hid (show dsU ((i + 1:Nat):Int) S from HU.out)
       go_wp2
       go_roundw
       case rel=>exact ⟨i + 1,q,_,_,S,rfl,by go_num,rfl,by omega,hqk,HD,HD9,HU9,HR9⟩
       case measure=>simp [intOf];omega
    ·obtain rfl:i = q:=by omega
     have b2:¬ (i:Int) < (i:Int):=by omega
     obtain ⟨OA,oc,rfl⟩:=own_shape HD.out.row
     have HRF:=Lib.hid (show RES = S.1 from by rw [HRES.out,dsG_no (by rw [HD.out.ql];exact Nat.le_refl _)])
     go_wp2
     go_ret
     refine ⟨_,rfl,?_,Nat.le_refl _,HD.out.bel⟩
     rw [HR00.out,HRF.out];exact HD.out.out
end Go.Proofs.Ytdnmpndnpfklcaa

/- Walks: reach.list, closure, Interior. -/
import Derived.Test.YtdnmpndnpfklcaaIv
import Derived.Deep.LoopGhost
namespace Go.Proofs.Ytdnmpndnpfklcaa
open Go.RowKit Go Go.Maps
theorem onJ_all {N:List Bool} {n:Nat} (h:N.length = n):onJ N n = onF N:=by unfold onJ onF;rw [h]
set_option maxRecDepth 100000 in
theorem reach_list (b n:Nat) (N:List Bool) (w:World) (hk:Blk w b 4 (bvl N)) (hN:N.length = n) (hn4:n ≤ 4096) :
  Calls Try.prog 118 #[.slice (some ⟨b,0,none⟩) n n] w fun e w'=>∃ v,e = .returned v∧w'.ownsRow w.heap.size 3 1 v (onF N).length (iv (onF N))∧Below w.heap.size w w':=by
 have HK:=Lib.hid hk
 have HN:=Lib.hid hN
 clear hk hN
 go_enter Try.func118,Try.ntmps118
 go_wp2
 go_loopw [3,4,5,8] (fun s3 s4 s5 s8 wr=>∃ (k m:Nat) (v4 v5:Value),s4 = v4∧s5 = v5∧s8 = .int .i64 k∧k ≤ n∧m ≤ k∧Hid ((onJ N k).length = m)∧Hid (wr.ownsRow w.heap.size 3 1 s3 m (iv (onJ N k)))∧Hid (Below w.heap.size w wr)) (fun _ _ _ s8 _=>n - (intOf s8).toNat)
 case atStart=>exact ⟨0,0,_,_,rfl,rfl,rfl,Nat.zero_le _,Nat.le_refl _,Lib.hid rfl,Lib.hid (World.ownsRow_nil _ _ _ _),Lib.hid (Below.refl _ _)⟩
 case round =>
  obtain ⟨k,m,v4,v5,rfl,rfl,rfl,hk,hmk,HM,HO,HBL⟩:=hrel
  by_cases hlt:k < n
  case pos =>
   obtain ⟨q,hq⟩:∃ q,N[k]? = some q:=⟨_,List.getElem?_eq_getElem (by rw [HN.out];exact hlt)⟩
   have c1:wr.cell? ⟨b,k,none⟩ = some (.bool q):=(HK.out.below HBL.out HK.out.lt).cell (by rw [bvl_get,hq];rfl)
   have HS:=Lib.hid (onJ_snoc hq)
   have b1:(k:Int) < (n:Int):=by omega
   have hsz:=HBL.out.size
   clear hq
   cases q with
   | true =>
    have HS2:=Lib.hid (show onJ N (k + 1) = onJ N k ++ [(k:Int)] from HS.out)
    clear HS
    go_wp2_with (first | (at_builtin;refine wpList_push wr (.int .i64 (k:Int)) rfl (.tmp 14) (.tmp 16) 29 rfl w.heap.size 3 (.int .i64 0) 8 Try.underlying29 int_info rfl _ m _ rfl HO.out rfl rfl (by omega) (by omega) hsz ?_;intro v' w' ho' hg' hb1) | fail)
    go_roundw
    case rel=>exact ⟨k + 1,m + 1,_,_,rfl,rfl,by go_num,by omega,by omega,Lib.hid (by rw [HS2.out,List.length_append,HM.out];rfl),Lib.hid (by rw [HS2.out,iv_append];exact ho'),Lib.hid (HBL.out.trans hb1)⟩
    case measure=>simp [intOf];omega
   | false =>
    have HS2:=Lib.hid (show onJ N (k + 1) = onJ N k from by rw [HS.out];exact List.append_nil _)
    clear HS
    go_wp2
    go_roundw
    case rel=>exact ⟨k + 1,m,_,_,rfl,rfl,by go_num,by omega,by omega,Lib.hid (by rw [HS2.out];exact HM.out),Lib.hid (by rw [HS2.out];exact HO.out),HBL⟩
    case measure=>simp [intOf];omega
  obtain rfl:k = n:=by omega
  have b1:¬ (k:Int) < (k:Int):=by omega
  go_wp2
  refine bodyPost_ret (v:=_) (by simp [results,Try.results118,go_sem];rfl) rfl ?_
  refine ⟨_,rfl,?_,HBL.out⟩
  rw [← onJ_all HN.out,HM.out]
  exact HO.out
set_option maxRecDepth 100000 in
theorem reach_closure (x:AV) (n:Nat) (T:Option Addr) (ct nt:Nat) (tl:List Int) (V:Option Addr) (cv nv:Nat) (vl:List Int) (w:World) (hx:x.ok w w.heap.size) (hw:WF x.a) (hn:x.a.st = (n:Int)) (htl:tl.length = nt) (hT:RdI w w.heap.size T tl) (hc1:nt ≤ ct) (hc2:ct ≤ 9223372036854775807) (hse:setErr tl (n:Int) = 0)
  (hvl:vl.length = nv) (hV:RdI w w.heap.size V vl) (hc3:nv ≤ cv) (hc4:cv ≤ 9223372036854775807) (hve:setErr vl 32 = 0) :
  Calls Try.prog 117 #[.agg #[.slice x.A x.na x.ca,.int .i64 x.a.st,.slice x.M x.nm x.cm,.slice x.E x.ne x.ce],.slice T nt ct,.slice V nv cv] w fun e w'=>e = .returned (.int .i64 0)∧Below w.heap.size w w':=by
 obtain ⟨A,na,ca,M,nm,cm,E,ne,ce,a⟩:=x
 dsimp only at hw hn ⊢
 have hb1:=box_below w (.cells #[.slice A na ca,.int .i64 a.st,.slice M nm cm,.slice E ne ce] 32)
 obtain ⟨w1,hw9⟩:∃ w1,w1 = w.alloc (.cells #[.slice A na ca,.int .i64 a.st,.slice M nm cm,.slice E ne ce] 32):=⟨_,rfl⟩
 have kx:Blk w1 w.heap.size 32 [.slice A na ca,.int .i64 a.st,.slice M nm cm,.slice E ne ce]:=by rw [hw9];exact Blk.new _ _ [_,_,_,_]
 rw [← hw9] at hb1
 have HG0:=Lib.hid (fun (W:World) (hb:Below w1.heap.size w1 W)=>Blk.c4 (kx.below hb kx.lt))
 rw [hn] at HG0
 obtain ⟨a0,a1,a2,a3⟩:=HG0.out w1 (Below.refl _ _)
 have HCK:=Lib.hid (automaton_Check A na ca M nm cm E ne ce a w1 ((AutR.below hx hb1).more hb1.size))
 rw [hw.chk,hn] at HCK
 have HTK:=Lib.hid (fun (W:World) (hb:Below w1.heap.size w1 W)=>(hT.below (hb1.trans (hb.mono hb1.size))).more (hb1.trans (hb.mono hb1.size)).size)
 have HVK:=Lib.hid (fun (W:World) (hb:Below w1.heap.size w1 W)=>(hV.below (hb1.trans (hb.mono hb1.size))).more (hb1.trans (hb.mono hb1.size)).size)
 rw [hn] at hw9 ⊢
 have HW9:=Lib.hid hw9;clear hw9
 have HB1:=Lib.hid hb1;clear hb1
 have HTL:=Lib.hid htl
 have HVL:=Lib.hid hvl
 have HSE:=Lib.hid hse
 have HVE:=Lib.hid hve
 clear kx hx hn hT hV htl hvl hse hve hw
 go_enter Try.func117,Try.ntmps117
 go_wp2_with fail
 rw [← HW9.out]
 refine HCK.out.mono ?_
 rintro e w2 ⟨rfl,hb2⟩
 have HB2:=Lib.hid hb2;clear hb2
 clear HCK a0 a1 a2 a3
 obtain ⟨a0,a1,a2,a3⟩:=HG0.out w2 HB2.out
 go_wp2_with fail
 refine (reach_checkStates A na ca M nm cm E ne ce (n:Int) T ct nt tl 0 w2 HTL.out HSE.out (HTK.out w2 HB2.out) hc1 hc2).mono ?_
 rintro e w3 ⟨rfl,hb23⟩
 have HB3:=Lib.hid (HB2.out.trans (hb23.mono HB2.out.size))
 clear a0 a1 a2 a3 hb23
 go_wp2_with fail
 refine (reach_checkSet V cv nv vl 32 0 w3 HVL.out HVE.out (HVK.out w3 HB3.out) hc3 hc4).mono ?_
 rintro e w4 ⟨rfl,rfl⟩
 go_wp2
 go_ret
 exact ⟨rfl,HB1.out.trans (HB3.out.mono HB1.out.size)⟩
theorem inF_map {n:Nat} {set:List Int} (hs:∀ s ∈ set,0 ≤ s∧s < (n:Int)):inF n set = (rngI (n:Int)).map fun s=>hasB set s:=by
 apply List.ext_getElem?
 intro i
 unfold rngI
 rw [List.getElem?_map,List.getElem?_map,Int.toNat_natCast]
 by_cases hi:i < n
 ·rw [List.getElem?_range hi]
  obtain ⟨q,hq⟩:∃ q,fl (inF n set) (i:Int) = q:=⟨_,rfl⟩
  have h1:=fl_get hq (by omega) (by rw [inF_len];omega)
  rw [Int.toNat_natCast] at h1
  rw [h1]
  show some q = some (hasB set (i:Int))
  congr 1
  have h2:=inF_fl hs (t:=(i:Int)) (by omega)
  rw [hq] at h2
  rw [Bool.eq_iff_iff,h2,hasB_mem]
 ·rw [List.getElem?_eq_none (by rw [inF_len];omega),List.getElem?_eq_none (by rw [List.length_range];omega)]
  rfl
theorem cntT_le (N:List Bool):cntT N ≤ N.length:=List.countP_le_length
theorem inX_snoc {V:List Int} {ed:List Ed} {c:List Bool × Bool} {j:Nat} {x:Ed} (h:ed[j]? = some x):(ed.take (j + 1)).foldl (inX V) c = inX V ((ed.take j).foldl (inX V) c) x:=by
 rw [take_snoc' h,List.foldl_append];rfl
def InRes (V:List Int) (ed:List Ed) (RES:List Bool) (g:Nat) (q:Bool) (N:List Bool):Prop:=(q = true → 0 < g∧cntT N < g∧inG V ed g N = RES)∧(q = false → N = RES)
theorem InRes.step {V:List Int} {ed:List Ed} {RES N N':List Bool} {g:Nat} {q:Bool} (h:InRes V ed RES g true N) (he:inP V ed N = (N',q)):InRes V ed RES (g - 1) q N'∧g - 1 < g:=by
 obtain ⟨h1,h2,h3⟩:=h.1 rfl
 obtain ⟨g',rfl⟩:∃ k,g = k + 1:=⟨g - 1,by omega⟩
 refine ⟨⟨fun hq=>?_,fun hq=>?_⟩,by omega⟩
 ·subst hq
  have h4:=inP_cnt (V:=V) (ed:=ed) (N:=N) (by rw [he])
  rw [he] at h4
  rw [inG,he,if_pos rfl] at h3
  dsimp only at h4
  exact ⟨by omega,by omega,h3⟩
 ·subst hq
  rw [inG,he,if_neg (by simp)] at h3
  exact h3
set_option maxRecDepth 100000 in
set_option maxHeartbeats 1600000 in
theorem reach_Interior (x:AV) (n:Nat) (T:Option Addr) (ct nt:Nat) (tl:List Int) (V:Option Addr) (cv nv:Nat) (vl:List Int) (w:World) (hx:x.ok w w.heap.size) (hw:WF x.a) (hn:x.a.st = (n:Int)) (htl:tl.length = nt) (hT:RdI w w.heap.size T tl) (hc1:nt ≤ ct) (hc2:ct ≤ 9223372036854775807) (hti:Inc tl) (htr:∀ s ∈ tl,0 ≤ s∧s < (n:Int))
  (hvl:vl.length = nv) (hV:RdI w w.heap.size V vl) (hc3:nv ≤ cv) (hc4:cv ≤ 9223372036854775807) (hvi:Inc vl) (hvr:∀ s ∈ vl,0 ≤ s∧s < 32) :
  Calls Try.prog 99 #[.agg #[.slice x.A x.na x.ca,.int .i64 x.a.st,.slice x.M x.nm x.cm,.slice x.E x.ne x.ce],.slice T nt ct,.slice V nv cv] w (RetLE (inS x.a tl vl) w):=by
 have hn4:n ≤ 4096:=by have:=hw.st1;omega
 have HCL:=Lib.hid (fun (W:World) (h1:x.ok W W.heap.size) (h2:RdI W W.heap.size T tl) (h3:RdI W W.heap.size V vl)=>reach_closure x n T ct nt tl V cv nv vl W h1 hw hn htl h2 hc1 hc2 (setErr_fit hti htr) hvl h3 hc3 hc4 (setErr_fit hvi hvr))
 obtain ⟨RES,hRES⟩:∃ q,inG vl x.a.ed (n + 1) (inF n tl) = q:=⟨_,rfl⟩
 have HIN:=Lib.hid (show inS x.a tl vl = onF RES from by unfold inS;rw [← hRES,inF_map htr,hn];rfl)
 have HR0:=Lib.hid (show InRes vl x.a.ed RES (n + 1) true (inF n tl) from ⟨fun _=>⟨by omega,by have:=cntT_le (inF n tl);rw [inF_len] at this;omega,hRES⟩,fun h=>by cases h⟩)
 have HER:=Lib.hid (show ∀ y ∈ x.a.ed,(0 ≤ y.f∧y.f < (n:Int))∧(0 ≤ y.t∧y.t < (n:Int)) from fun y hy=>by have:=hw.ev_rng hy;omega)
 have hel:x.ne ≤ 1000000:=by have h1:=hw.ed_le;have h2:x.a.ed.length = x.ne:=hx.le;omega
 obtain ⟨A,na,ca,M,nm,cm,E,ne,ce,a⟩:=x
 dsimp only at hw hn HCL HIN HR0 HER hel ⊢
 have hb1:=box_below w (.cells #[.slice A na ca,.int .i64 a.st,.slice M nm cm,.slice E ne ce] 32)
 obtain ⟨w1,hw9⟩:∃ w1,w1 = w.alloc (.cells #[.slice A na ca,.int .i64 a.st,.slice M nm cm,.slice E ne ce] 32):=⟨_,rfl⟩
 have kx:Blk w1 w.heap.size 32 [.slice A na ca,.int .i64 a.st,.slice M nm cm,.slice E ne ce]:=by rw [hw9];exact Blk.new _ _ [_,_,_,_]
 rw [← hw9] at hb1
 have HG0:=Lib.hid (fun (W:World) (hb:Below w1.heap.size w1 W)=>Blk.c4 (kx.below hb kx.lt))
 rw [hn] at HG0 HCL
 obtain ⟨a0,a1,a2,a3⟩:=HG0.out w1 (Below.refl _ _)
 have HXK:=Lib.hid (fun (W:World) (hb:Below w1.heap.size w1 W)=>AutR.more (AutR.below hx (hb1.trans (hb.mono hb1.size))) (hb1.trans (hb.mono hb1.size)).size)
 have HTK:=Lib.hid (fun (W:World) (hb:Below w1.heap.size w1 W)=>(hT.below (hb1.trans (hb.mono hb1.size))).more (hb1.trans (hb.mono hb1.size)).size)
 have HVK:=Lib.hid (fun (W:World) (hb:Below w1.heap.size w1 W)=>(hV.below (hb1.trans (hb.mono hb1.size))).more (hb1.trans (hb.mono hb1.size)).size)
 rw [hn] at hw9 ⊢
 have HW9:=Lib.hid hw9;clear hw9
 have HB1:=Lib.hid hb1;clear hb1
 have HTL:=Lib.hid htl
 have HVL:=Lib.hid hvl
 have HTR:=Lib.hid htr
 have HLE:=Lib.hid (show a.ed.length = ne from hx.le)
 clear kx hx hn hT hV htl hvl hw hti htr hvi hvr hRES
 go_enter Try.func99,Try.ntmps99
 go_wp2_with fail
 rw [← HW9.out]
 refine (HCL.out w1 (HXK.out w1 (Below.refl _ _)) (HTK.out w1 (Below.refl _ _)) (HVK.out w1 (Below.refl _ _))).mono ?_
 rintro e w2 ⟨rfl,hb2⟩
 have HB2:=Lib.hid hb2;clear hb2
 clear HCL a0 a1 a2 a3
 obtain ⟨a0,a1,a2,a3⟩:=HG0.out w2 HB2.out
 go_wp2_with fail
 refine (reach_flags A na ca M nm cm E ne ce n T ct nt tl w2 hn4 HTL.out (HTK.out w2 HB2.out) HTR.out hc1 hc2).mono ?_
 rintro e w3 ⟨fb,rfl,hk,hfl,hb3⟩
 have HK0:=Lib.hid hk
 have HB3:=Lib.hid hb3
 have HFL:=Lib.hid hfl
 have HLN0:=Lib.hid (inF_len n tl)
 clear a0 a1 a2 a3 hk hb3 hfl
 generalize inF n tl = N0 at HK0 HLN0 HR0
 go_wp2
 go_loopg [10,12,27] (n + 1) (fun gk s10 s12 s27 wr=>∃ (q:Bool) (v12 v27:Value) (N:List Bool),s10 = .bool q∧s12 = v12∧s27 = v27∧Hid (InRes vl a.ed RES gk q N)∧Hid (N.length = n)∧Hid (Blk wr fb 4 (bvl N))∧Hid (Below w2.heap.size w2 wr))
 case atStart=>exact ⟨true,_,_,N0,rfl,rfl,rfl,HR0,HLN0,HK0,HB3⟩
 case round =>
  clear HR0 HLN0 HK0 HB3
  obtain ⟨q,v12,v27,N,rfl,rfl,rfl,HR,HLN,HK,HBL⟩:=hrel
  cases q with
  | false =>
   have HNR:=Lib.hid (HR.out.2 rfl)
   have HLS:=Lib.hid (reach_list fb n N wr HK.out HLN.out hn4)
   go_wp2_with fail
   refine HLS.out.mono ?_
   rintro e w5 ⟨v,rfl,ho,hb5⟩
   have HO:=Lib.hid ho
   have HB5:=Lib.hid hb5
   clear ho hb5
   obtain ⟨OA,oc,rfl⟩:=own_shape HO.out
   go_wp2
   refine bodyPost_ret (v:=.tuple #[_,.int .i64 0]) (by simp [results,Try.results99,go_sem];rfl) rfl ?_
   have HB9:=Lib.hid (HB1.out.trans ((HB2.out.trans (HBL.out.mono HB2.out.size)).mono HB1.out.size))
   refine ⟨_,rfl,?_,HB9.out.trans (HB5.out.mono HB9.out.size)⟩
   rw [HIN.out,← HNR.out]
   exact own_base HO.out HB9.out.size
  | true =>
   obtain ⟨a0,a1,a2,a3⟩:=HG0.out wr (HB2.out.trans (HBL.out.mono HB2.out.size))
   have HF0:=Lib.hid (show (a.ed.take 0).foldl (inX vl) (N,false) = (N,false) from rfl)
   go_wp2
   clear a0 a1 a2 a3
   go_loopw [10,12,27] (fun s10 s12 s27 wr=>∃ (j:Nat) (q:Bool) (v12:Value) (N':List Bool),s10 = .bool q∧s12 = v12∧s27 = .int .i64 j∧j ≤ ne∧Hid ((a.ed.take j).foldl (inX vl) (N,false) = (N',q))∧Hid (N'.length = n)∧Hid (Blk wr fb 4 (bvl N'))∧Hid (Below w2.heap.size w2 wr)) (fun _ _ s27 _=>ne - (intOf s27).toNat)
   case atStart=>exact ⟨0,false,_,N,rfl,rfl,rfl,Nat.zero_le _,HF0,HLN,HK,HBL⟩
   case round =>
    clear HF0 HLN HK HBL
    obtain ⟨j,q,v12,N',rfl,rfl,rfl,hj,HF,HLN,HK,HBL⟩:=hrel
    by_cases hlt:j < ne
    case neg =>
     obtain ⟨jn,hjn⟩:∃ q,q = ne:=⟨_,rfl⟩
     obtain rfl:j = ne:=by omega
     have b1:¬ (j:Int) < (j:Int):=by omega
     rw [List.take_of_length_le (by rw [HLE.out];exact Nat.le_refl _)] at HF
     obtain ⟨r1,r2⟩:=HR.out.step (show inP vl a.ed N = (N',q) from HF.out)
     have HR9:=Lib.hid r1
     have HM9:=Lib.hid r2
     clear r1 r2 hjn hlt HR
     go_wp2
     go_roundg (gk - 1)
     case rel=>exact ⟨q,_,_,N',rfl,rfl,rfl,HR9,HLN,HK,HBL⟩
     case measure=>exact HM9.out
    have b1:(j:Int) < (ne:Int):=by omega
    obtain ⟨ad,x,rfl,hab,hx,g0,g1,g2⟩:=(HXK.out wr (HB2.out.trans (HBL.out.mono HB2.out.size))).re.at_ (k:=j) (by rw [HLE.out];exact hlt)
    have r1:wr.cell? ⟨(ad.add (j * 3)).block,(ad.add (j * 3)).off + 1,none⟩ = some (.int .i64 x.e):=st_cells (j:=0) g1
    have r2:wr.cell? ⟨(ad.add (j * 3)).block,(ad.add (j * 3)).off + 2,none⟩ = some (.int .i64 x.t):=st_cells (j:=1) g2
    obtain ⟨⟨f0,f1⟩,t0,t1⟩:=HER.out x (List.mem_of_getElem? hx)
    have hbx:=box_below wr (.cells #[.int .i64 x.f,.int .i64 x.e,.int .i64 x.t] 67)
    have ke:Blk (wr.alloc (.cells #[.int .i64 x.f,.int .i64 x.e,.int .i64 x.t] 67)) wr.heap.size 67 [.int .i64 x.f,.int .i64 x.e,.int .i64 x.t]:=Blk.new _ _ [_,_,_]
    have HB5:=Lib.hid (HBL.out.trans (hbx.mono HBL.out.size))
    have HK5:=Lib.hid (HK.out.below hbx HK.out.lt)
    have HSN:=Lib.hid (show (a.ed.take (j + 1)).foldl (inX vl) (N,false) = inX vl (N',q) x from by rw [inX_snoc hx,HF.out])
    clear hx hab hbx HBL HK HF
    go_upto_region 11 with fail
    clear g0 g1 g2 r1 r2
    generalize wr.heap.size = bx at ke ⊢
    generalize wr.alloc (.cells #[.int .i64 x.f,.int .i64 x.e,.int .i64 x.t] 67) = w5 at ke HB5 HK5 ⊢
    have e0:=ke.cell (j:=0) rfl
    have e1:=ke.cell (j:=1) rfl
    have e2:=ke.cell (j:=2) rfl
    obtain ⟨q1,hq1⟩:∃ q,fl N' x.f = q:=⟨_,rfl⟩
    obtain ⟨q2,hq2⟩:∃ q,fl N' x.t = q:=⟨_,rfl⟩
    obtain ⟨q3,hq3⟩:∃ q,hasB vl x.e = q:=⟨_,rfl⟩
    have HQ3:=Lib.hid hq3
    have d1:w5.cell? ⟨fb,x.f.toNat,none⟩ = some (.bool q1):=HK5.out.cell (by rw [bvl_get,fl_get hq1 f0 (by rw [HLN.out];exact f1)];rfl)
    have d2:w5.cell? ⟨fb,x.t.toNat,none⟩ = some (.bool q2):=HK5.out.cell (by rw [bvl_get,fl_get hq2 t0 (by rw [HLN.out];exact t1)];rfl)
    have HX:=Lib.hid (show inX vl (N',q) x = if (q1 && !q2 && q3) = true then (N'.set x.f.toNat false,true) else (N',q) from by unfold inX;rw [hq1,hq2,hq3])
    have s1:¬ x.f < 0:=by omega
    have s2:¬ x.t < 0:=by omega
    clear hq1 hq2 hq3
    by_cases hc:(q1 && !q2) = true
    case neg =>
     have HF9:=Lib.hid (show (a.ed.take (j + 1)).foldl (inX vl) (N,false) = (N',q) from by
      rw [HSN.out,HX.out,if_neg]
      intro h
      rw [Bool.and_eq_true] at h
      exact hc h.1)
     cases q1 with
     | false =>
      clear hc
      go_wp2
      go_roundw
      case rel=>exact ⟨j + 1,q,_,N',rfl,rfl,by go_num,by omega,HF9,HLN,HK5,HB5⟩
      case measure=>simp [intOf];omega
     | true =>
      cases q2 with
      | true =>
       clear hc
       go_wp2
       go_roundw
       case rel=>exact ⟨j + 1,q,_,N',rfl,rfl,by go_num,by omega,HF9,HLN,HK5,HB5⟩
       case measure=>simp [intOf];omega
      | false=>exact absurd rfl hc
    obtain ⟨rfl,rfl⟩:q1 = true∧q2 = false:=by
     cases q1 <;> cases q2 <;> simp at hc ⊢
    clear hc
    have HCN:=Lib.hid (slices_Contains V cv nv vl x.e q3 w5 HVL.out HQ3.out (HVK.out w5 (HB2.out.trans (HB5.out.mono HB2.out.size))) hc3 hc4)
    go_wp2_with fail
    refine HCN.out.mono ?_
    rintro e w6 ⟨rfl,rfl⟩
    cases q3 with
    | false =>
     have HF9:=Lib.hid (show (a.ed.take (j + 1)).foldl (inX vl) (N,false) = (N',q) from by rw [HSN.out,HX.out];rfl)
     go_wp2
     go_roundw
     case rel=>exact ⟨j + 1,q,_,N',rfl,rfl,by go_num,by omega,HF9,HLN,HK5,HB5⟩
     case measure=>simp [intOf];omega
    | true =>
     have HF9:=Lib.hid (show (a.ed.take (j + 1)).foldl (inX vl) (N,false) = (N'.set x.f.toNat false,true) from by rw [HSN.out,HX.out];rfl)
     have g2:w5.frozen? ⟨fb,x.f.toNat,none⟩ = false:=HK5.out.free _
     have g3:fb < w5.heap.size:=HK5.out.lt
     have HK9:=Lib.hid (show Blk (w5.setCell ⟨fb,x.f.toNat,none⟩ (.bool false)) fb 4 (bvl (N'.set x.f.toNat false)) from by
      have h9:=HK5.out.set (j:=x.f.toNat) (by rw [bvl_length,HLN.out];omega) (.bool false)
      rwa [bvl_set] at h9)
     have HB9:=Lib.hid (HB5.out.setCell (p:=⟨fb,x.f.toNat,none⟩) HFL.out (.bool false))
     have HL9:=Lib.hid (show (N'.set x.f.toNat false).length = n by rw [List.length_set];exact HLN.out)
     go_wp2
     go_roundw
     case rel=>exact ⟨j + 1,true,_,_,rfl,rfl,by go_num,by omega,HF9,HL9,HK9,HB9⟩
     case measure=>simp [intOf];omega
end Go.Proofs.Ytdnmpndnpfklcaa

/- Walks: the law's ends, seen. -/
import Derived.Test.YtddhaidimadliaaGreatKe
import Derived.Test.YtddhaidimadliaaGreatJx
import Derived.Test.YtddhaidimadliaaGreatJf
import Derived.Test.YtddhaidimadliaaGreatKb
import Derived.Test.YtddhaidimadliaaGreatJy
namespace Go.Proofs.YtddhaidimadliaaGreat
open Go.RowKit Go
def endsL (a:Aut) (s:Int) (ws:List Int):Int:=if s < 0 ∨ a.st ≤ s then -1 else endL a s ws
theorem endL_one {a:Aut} {s x:Int} {ws:List Int} {k:Nat} (hx:ws[k]? = some x):endL a s (ws.drop k) = if nxt a s x < 0 then -1 else endL a (nxt a s x) (ws.drop (k + 1)):=by
 obtain ⟨hk,he⟩:=List.getElem?_eq_some_iff.1 hx
 rw [List.drop_eq_getElem_cons hk,he]
 rfl
set_option maxRecDepth 100000 in
set_option maxHeartbeats 1600000 in
theorem law_ends (x:AV) (s0:Int) (y:IV) (r:Int) (w:World) (hx:x.ok w w.heap.size) (hy:y.ok w w.heap.size) (hr:endsL x.a s0 y.l = r) :
  Calls Tryz.prog 34 #[.agg #[.slice x.A x.na x.ca,.int .i64 x.a.st,.slice x.M x.nm x.cm,.slice x.E x.ne x.ce],.int .i64 s0,.slice y.A y.n y.c] w fun e w'=>e = .returned (.int .i64 r)∧Below w.heap.size w w':=by
 obtain ⟨A,na,ca,M,nm,cm,E,ne,ce,a⟩:=x
 obtain ⟨W,nw,cw,ws⟩:=y
 dsimp only at hr ⊢
 have hb1:=box_below w (.cells #[.slice A na ca,.int .i64 a.st,.slice M nm cm,.slice E ne ce] 34)
 obtain ⟨w1,hw9⟩:∃ w1,w1 = w.alloc (.cells #[.slice A na ca,.int .i64 a.st,.slice M nm cm,.slice E ne ce] 34):=⟨_,rfl⟩
 have kx:Blk w1 w.heap.size 34 [.slice A na ca,.int .i64 a.st,.slice M nm cm,.slice E ne ce]:=by rw [hw9];exact Blk.new _ _ [_,_,_,_]
 rw [← hw9] at hb1
 have HG0:=Lib.hid (fun (W:World) (hb:Below w1.heap.size w1 W)=>Blk.c4 (kx.below hb kx.lt))
 have HXK:=Lib.hid (fun (W:World) (hb:Below w1.heap.size w1 W)=>(show AutR W W.heap.size A na ca M nm cm E ne ce a from AutR.more (AutR.below hx (hb1.trans (hb.mono hb1.size))) (hb1.trans (hb.mono hb1.size)).size))
 have HYK:=Lib.hid (fun (W:World) (hb:Below w1.heap.size w1 W)=>(hy.below (hb1.trans (hb.mono hb1.size))))
 have HST:=Lib.hid (fun (W:World) (hb:Below w1.heap.size w1 W) (s v:Int)=>law_step A na ca M nm cm E ne ce a s v W (HXK.out W hb))
 have HBL:=Lib.hid (fun (W:World) (hb:Below w1.heap.size w1 W)=>hb1.trans (hb.mono hb1.size))
 have hl:ws.length = nw:=hy.la
 have hc1:nw ≤ cw:=hy.ac
 have hc2:cw ≤ 9223372036854775807:=hy.cA
 obtain ⟨sv,hsv⟩:∃ z,a.st = z:=⟨_,rfl⟩
 unfold endsL at hr
 rw [hsv] at hw9 HG0 HST hr ⊢
 have HW9:=Lib.hid hw9;clear hw9
 have HL:=Lib.hid hl;clear hl
 have lx:=kx.lt
 clear kx hx hy hsv hb1
 obtain ⟨a0,a1,a2,a3⟩:=HG0.out w1 (Below.refl _ _)
 by_cases h1:s0 < 0
 ·rw [if_pos (.inl h1)] at hr
  subst hr
  go_enter Tryz.func34,Tryz.ntmps34
  go_upto_region 1 with fail
  rw [← HW9.out]
  go_wp2
  go_ret
  exact ⟨rfl,HBL.out _ (Below.refl _ _)⟩
 by_cases h2:sv ≤ s0
 ·rw [if_pos (.inr h2)] at hr
  subst hr
  go_enter Tryz.func34,Tryz.ntmps34
  go_upto_region 1 with fail
  rw [← HW9.out]
  go_wp2
  go_ret
  exact ⟨rfl,HBL.out _ (Below.refl _ _)⟩
 rw [if_neg (by omega)] at hr
 have HR0:=Lib.hid (show r = endL a s0 (ws.drop 0) from hr.symm)
 clear hr
 go_enter Tryz.func34,Tryz.ntmps34
 go_upto_region 1 with fail
 rw [← HW9.out]
 go_wp2
 clear a0 a1 a2 a3
 go_loopw [1,6,8,19] (fun s1 s6 s8 s19 wr=>∃ (k:Nat) (s:Int) (v6 v8:Value),s1 = .int .i64 s∧s6 = v6∧s8 = v8∧s19 = .int .i64 k∧k ≤ nw∧Hid (r = endL a s (ws.drop k))∧Hid (Below w1.heap.size w1 wr)) (fun _ _ _ s19 _=>nw - (intOf s19).toNat)
 case atStart=>exact ⟨0,s0,_,_,rfl,rfl,rfl,rfl,Nat.zero_le _,HR0,Lib.hid (Below.refl _ _)⟩
 case round =>
  clear HR0
  obtain ⟨k,s,v6,v8,rfl,rfl,rfl,rfl,hk,HR,HB⟩:=hrel
  obtain ⟨a0,a1,a2,a3⟩:=HG0.out wr HB.out
  by_cases hlt:k < nw
  ·obtain ⟨x,hx⟩:∃ x,ws[k]? = some x:=⟨_,List.getElem?_eq_getElem (by have:=HL.out;omega)⟩
   obtain ⟨ad,rfl,hab,hcx⟩:=(HYK.out wr HB.out).ra k (.int .i64 x) (by simp [iv,hx])
   have b1:(k:Int) < (nw:Int):=by omega
   have hr:=HR.out
   rw [endL_one hx] at hr
   have HC:=Lib.hid (HST.out wr HB.out s x)
   obtain ⟨nx,hnx⟩:∃ z,nxt a s x = z:=⟨_,rfl⟩
   rw [hnx] at HC hr
   have HR2:=Lib.hid hr;clear hr
   clear hx HR hab hnx
   go_wp2_with fail
   refine HC.out.mono ?_
   rintro e w2 ⟨rfl,hb2⟩
   have HB2:=Lib.hid (HB.out.trans (hb2.mono HB.out.size))
   clear HC hcx a0 a1 a2 a3 hb2
   by_cases hn:nx < 0
   ·have HR3:=Lib.hid (show r = -1 by rw [HR2.out,if_pos hn])
    go_wp2
    go_ret
    exact ⟨ret_int HR3.out.symm,HBL.out _ HB2.out⟩
   ·have HR3:=Lib.hid (show r = endL a nx (ws.drop (k + 1)) by rw [HR2.out,if_neg hn])
    go_wp2
    go_roundw
    case rel=>exact ⟨k + 1,nx,_,_,rfl,rfl,rfl,by go_num,by omega,HR3,HB2⟩
    case measure=>simp [intOf];omega
  ·obtain rfl:k = nw:=by omega
   have b1:¬ (k:Int) < (k:Int):=by omega
   have hr:=HR.out
   rw [List.drop_of_length_le (by have:=HL.out;omega)] at hr
   have HR2:=Lib.hid (show r = s from hr)
   clear hr HR
   go_wp2
   go_ret
   exact ⟨ret_int HR2.out.symm,HBL.out _ HB.out⟩
def RetSn (l:List Int) (f:Bool) (w:World) (e:Ending) (w':World):Prop:=∃ v,e = .returned (.tuple #[v,.bool f])∧w'.ownsRow w.heap.size 3 1 v l.length (iv l)∧Below w.heap.size w w'
theorem obsW_snoc {m:Dm} {ws:List Int} {k:Nat} {x:Int} (hx:ws[k]? = some x):obsW m (ws.take (k + 1)) = obsW m (ws.take k) ++ (if m.ob x = true then [x] else []):=by
 rw [take_snocD hx,obsW_app]
 congr 1
 unfold obsW
 by_cases h:m.ob x = true
 ·rw [if_pos h,List.filter_cons_of_pos h];rfl
 ·rw [if_neg h,List.filter_cons_of_neg h];rfl
theorem fltB_snoc {m:Dm} {c:Int} {ws:List Int} {k:Nat} {x:Int} (hx:ws[k]? = some x):fltB m c (ws.take (k + 1)) = (fltB m c (ws.take k) || m.ft x == c):=by
 rw [take_snocD hx,fltB_app]
 congr 1
 simp [fltB]
set_option maxRecDepth 100000 in
set_option maxHeartbeats 1600000 in
theorem law_seen (z:DV) (c:Int) (y:IV) (w:World) (h:z.ok w w.heap.size) (hy:y.ok w w.heap.size) (hn:y.n ≤ 1000000) (hin:∀ x ∈ y.l,0 ≤ x∧x < (z.nv:Int)) :
  Calls Tryz.prog 35 #[.agg (dvc z).toArray,.int .i64 c,.slice y.A y.n y.c] w (RetSn (obsW z.m y.l) (fltB z.m c y.l) w):=by
 obtain ⟨⟨A,na,ca,M,nm,cm,E,ne,ce,a⟩,V,nv,cv,l⟩:=z
 obtain ⟨W,nw,cw,ws⟩:=y
 dsimp only at hn hin ⊢
 have HLL:=Lib.hid h.ll
 have HIN:=Lib.hid hin
 have hl:ws.length = nw:=hy.la
 have hc1:nw ≤ cw:=hy.ac
 have hc2:cw ≤ 9223372036854775807:=hy.cA
 obtain ⟨w1,hw1⟩:∃ w1,w1 = w.alloc (.cells #[.slice A na ca,.int .i64 a.st,.slice M nm cm,.slice E ne ce,.slice V nv cv] 37):=⟨_,rfl⟩
 have hb1:=box_below w (.cells #[.slice A na ca,.int .i64 a.st,.slice M nm cm,.slice E ne ce,.slice V nv cv] 37)
 have kx:Blk w1 w.heap.size 37 [.slice A na ca,.int .i64 a.st,.slice M nm cm,.slice E ne ce,.slice V nv cv]:=by rw [hw1];exact Blk.new _ _ [_,_,_,_,_]
 rw [← hw1] at hb1
 have HK:=Lib.hid (fun (W:World) (hb:Below w1.heap.size w1 W)=>kx.below hb kx.lt)
 have HOK:=Lib.hid (fun (W:World) (hb:Below w1.heap.size w1 W)=>(h.below (hb1.trans (hb.mono hb1.size))).more (hb1.trans (hb.mono hb1.size)).size)
 have HYK:=Lib.hid (fun (W:World) (hb:Below w1.heap.size w1 W)=>hy.below (hb1.trans (hb.mono hb1.size)))
 have HRE:=Lib.hid (fun (W:World) (hb:Below w1.heap.size w1 W)=>(h.rl.below (hb1.trans (hb.mono hb1.size))).more hb1.size)
 have HBL:=Lib.hid (fun (W:World) (hb:Below w1.heap.size w1 W)=>hb1.trans (hb.mono hb1.size))
 have hs1:w.heap.size ≤ w1.heap.size:=hb1.size
 unfold dvc
 dsimp only
 obtain ⟨mm,hmm⟩:∃ m,DV.m ⟨⟨A,na,ca,M,nm,cm,E,ne,ce,a⟩,V,nv,cv,l⟩ = m:=⟨_,rfl⟩
 rw [hmm]
 have HFT:=Lib.hid (fun (j:Nat) (e:Ev) (hj:l[j]? = some e)=>(show mm.ft (j:Int) = e.fault∧mm.ob (j:Int) = e.o by rw [← hmm];exact ⟨by simp [Dm.ft,DV.m,gI,hj],by simp [Dm.ob,DV.m,fl,hj]⟩))
 obtain ⟨sv,hsv⟩:∃ s,a.st = s:=⟨_,rfl⟩
 rw [hsv] at hw1 HK ⊢
 have HW1:=Lib.hid hw1;clear hw1
 have HL:=Lib.hid hl;clear hl
 clear h kx hb1 hy hmm hsv hin
 go_enter Tryz.func35,Tryz.ntmps35
 go_upto_region 1 with fail
 rw [← HW1.out]
 go_wp2
 go_loopw [8,9,11,14] (fun s8 s9 s11 s14 wr=>∃ (k n:Nat) (v8 v11:Value),v8 = s8∧s9 = .bool (fltB mm c (ws.take k))∧s11 = v11∧s14 = .int .i64 k∧k ≤ nw∧n ≤ k∧Hid (n = (obsW mm (ws.take k)).length)∧Hid (wr.ownsRow w1.heap.size 3 1 v8 n (iv (obsW mm (ws.take k))))∧Hid (Below w1.heap.size w1 wr)) (fun _ _ _ s14 _=>nw - (intOf s14).toNat)
 case atStart=>exact ⟨0,0,_,_,rfl,rfl,rfl,rfl,Nat.zero_le _,Nat.zero_le _,Lib.hid rfl,Lib.hid (World.ownsRow_nil _ _ _ _),Lib.hid (Below.refl _ _)⟩
 case round =>
  obtain ⟨k,n,v8,v11,rfl,rfl,rfl,rfl,hk,hnk,HNL,HO,HB⟩:=hrel
  have a4:=(HK.out wr HB.out).cell (j:=4) rfl
  by_cases hlt:k < nw
  ·obtain ⟨x,hx⟩:∃ x,ws[k]? = some x:=⟨_,List.getElem?_eq_getElem (by have:=HL.out;omega)⟩
   obtain ⟨ad,rfl,hab,hcx⟩:=(HYK.out wr HB.out).ra k (.int .i64 x) (by simp [iv,hx])
   have b1:(k:Int) < (nw:Int):=by omega
   have hxr:=HIN.out x (List.mem_of_getElem? hx)
   obtain ⟨j,rfl⟩:∃ j:Nat,x = (j:Int):=⟨x.toNat,by omega⟩
   obtain ⟨ev,e,rfl,hvb,hje,hes,q0,q1,q2,q3,q4⟩:=(HRE.out wr HB.out).at_ (k:=j) (by have h9:=HLL.out;omega)
   have p2':=ev_cells (j:=1) q2
   have p4':=ev_cells (j:=3) q4
   have b2:(j:Int) < (nv:Int):=by omega
   obtain ⟨f1,f2⟩:=HFT.out j e hje
   have HOS:=Lib.hid (obsW_snoc (m:=mm) hx)
   have HFS:=Lib.hid (fltB_snoc (m:=mm) (c:=c) hx)
   rw [f1] at HFS
   rw [f2] at HOS
   have hsz:=HB.out.size
   obtain ⟨f,hf⟩:∃ b,fltB mm c (ws.take k) = b:=⟨_,rfl⟩
   rw [hf] at HFS ⊢
   obtain ⟨ob,hob⟩:∃ b,e.o = b:=⟨_,rfl⟩
   rw [hob] at HOS p2'
   obtain ⟨fq,hfq⟩:∃ b,(e.fault == c) = b:=⟨_,rfl⟩
   rw [hfq] at HFS
   clear hf hob hje hes q0 q1 q2 q3 q4 hx f1 f2 hab
   cases ob with
   | true =>
    cases f with
    | true =>
     go_wp2_with (first | (at_builtin;refine wpList_push wr (.int .i64 (j:Int)) rfl (.tmp 24) (.tmp 26) 31 rfl w1.heap.size 3 (.int .i64 0) 8 Tryz.underlying31 int_info rfl _ n _ rfl HO.out rfl rfl (by omega) (by omega) hsz ?_;intro v' w' ho' hg' hb1) | fail)
     go_roundw
     case rel=>exact ⟨k + 1,n + 1,_,_,rfl,by rw [HFS.out];rfl,rfl,by go_num,by omega,by omega,Lib.hid (by rw [HOS.out,List.length_append,HNL.out];rfl),Lib.hid (by rw [HOS.out,iv_append];exact ho'),Lib.hid (HB.out.trans hb1)⟩
     case measure=>simp [intOf];omega
    | false =>
     go_wp2_with (first | (at_builtin;refine wpList_push wr (.int .i64 (j:Int)) rfl (.tmp 24) (.tmp 26) 31 rfl w1.heap.size 3 (.int .i64 0) 8 Tryz.underlying31 int_info rfl _ n _ rfl HO.out rfl rfl (by omega) (by omega) hsz ?_;intro v' w' ho' hg' hb1;have HBX:=Lib.hid (HB.out.trans hb1);have a4':=(HK.out w' HBX.out).cell (j:=4) rfl;have p4'':=(hb1.cell (p:=⟨(ev.add (j * 5)).block,(ev.add (j * 5)).off + 4,none⟩) (by rw [block_of_add];exact hvb)).trans p4') | fail)
     go_roundw
     case rel=>exact ⟨k + 1,n + 1,_,_,rfl,by rw [HFS.out];rfl,rfl,by go_num,by omega,by omega,Lib.hid (by rw [HOS.out,List.length_append,HNL.out];rfl),Lib.hid (by rw [HOS.out,iv_append];exact ho'),Lib.hid (HB.out.trans hb1)⟩
     case measure=>simp [intOf];omega
   | false =>
    cases f with
    | true =>
     go_wp2
     go_roundw
     case rel=>exact ⟨k + 1,n,_,_,rfl,by rw [HFS.out];rfl,rfl,by go_num,by omega,by omega,Lib.hid (by rw [HOS.out,HNL.out];simp),Lib.hid (by rw [HOS.out];simpa using HO.out),HB⟩
     case measure=>simp [intOf];omega
    | false =>
     go_wp2
     go_roundw
     case rel=>exact ⟨k + 1,n,_,_,rfl,by rw [HFS.out];rfl,rfl,by go_num,by omega,by omega,Lib.hid (by rw [HOS.out,HNL.out];simp),Lib.hid (by rw [HOS.out];simpa using HO.out),HB⟩
     case measure=>simp [intOf];omega
  ·obtain rfl:k = nw:=by omega
   have b1:¬ (k:Int) < (k:Int):=by omega
   have hta:ws.take k = ws:=List.take_of_length_le (by rw [HL.out];exact Nat.le_refl _)
   rw [hta] at HO HNL ⊢
   obtain ⟨f,hf⟩:∃ b,fltB mm c ws = b:=⟨_,rfl⟩
   have hO:=HO.out
   rw [HNL.out] at hO
   have HF:=Lib.hid (And.intro (own_base hO hs1) (HBL.out _ HB.out))
   clear hO
   rw [hf]
   go_wp2
   refine bodyPost_ret (v:=.tuple #[v8,.bool f]) (by simp [results,Tryz.results35,go_sem]) rfl ?_
   exact ⟨_,(by first | rfl | rw [hf]),HF.out⟩
end Go.Proofs.YtddhaidimadliaaGreat
/- Walk: the law's lasso. -/
namespace Go.Proofs.YtddhaidimadliaaGreat
open Go.RowKit Go
def badW (n:Nat) (l:List Int):Bool:=l.any fun v=>decide (v < 0) || decide ((n:Int) ≤ v)
theorem badW_no {n:Nat} {l:List Int} (h:badW n l = false):∀ x ∈ l,0 ≤ x∧x < (n:Int):=fun x hx=>by
 unfold badW at h
 rw [List.any_eq_false] at h
 have:=h x hx
 simp at this
 omega
def lasV (m:Dm) (c:Int) (F FC N NC:List Int):Bool :=
 decide (0 ≤ endsL m.a 0 F) && decide (0 ≤ endsL m.a 0 N) && decide (0 < FC.length) && (endsL m.a (endsL m.a 0 F) FC == endsL m.a 0 F) && (endsL m.a (endsL m.a 0 N) NC == endsL m.a 0 N) && fltB m c F && !fltB m c N && !fltB m c NC && eqB (obsW m F) (obsW m N) && eqB (obsW m FC) (obsW m NC)
def lasL (z:DV) (c:Int) (F FC N NC:List Int):Bool:=!([F,FC,N,NC].any (badW z.nv)) && lasV z.m c F FC N NC
theorem lasso1_ok (b:Nat) (V:Option Addr) (nv cv:Nat) (x:Int) (w:World) (hc:w.cell? ⟨b,4,none⟩ = some (.slice V nv cv)) :
  Calls Tryz.prog 33 #[.int .i64 x,.pointer (some ⟨b,0,none⟩)] w fun e w'=>e = .returned (.bool (decide (x < 0) || decide ((nv:Int) ≤ x)))∧w = w':=by
 by_cases h1:x < 0
 ·go_enter Tryz.func33,Tryz.ntmps33
  go_wp2
  go_ret
  exact ⟨by rw [decide_eq_true h1];rfl,rfl⟩
 ·go_enter Tryz.func33,Tryz.ntmps33
  go_wp2
  go_ret
  exact ⟨by rw [decide_eq_false (show ¬ x < 0 by omega)];rfl,rfl⟩
set_option maxRecDepth 100000 in
set_option maxHeartbeats 3200000 in
theorem law_lasso (z:DV) (c:Int) (F FC N NC:IV) (r:Bool) (w:World) (h:z.ok w w.heap.size) (hF:F.ok w w.heap.size) (hFC:FC.ok w w.heap.size) (hN:N.ok w w.heap.size) (hNC:NC.ok w w.heap.size)
  (hs:F.n ≤ 1000000∧FC.n ≤ 1000000∧N.n ≤ 1000000∧NC.n ≤ 1000000) (hr:lasL z c F.l FC.l N.l NC.l = r) :
  Calls Tryz.prog 12 #[.agg (dvc z).toArray,.int .i64 c,.agg #[F.v,FC.v,N.v,NC.v]] w fun e w'=>e = .returned (.bool r)∧Below w.heap.size w w':=by
 obtain ⟨s1,s2,s3,s4⟩:=hs
 have HEN:=Lib.hid (fun (W:World) (hz:z.ok W W.heap.size) (s:Int) (y:IV) (hy:y.ok W W.heap.size)=>law_ends z.x s y _ W hz.x hy rfl)
 have HSE:=Lib.hid (fun (W:World) (hz:z.ok W W.heap.size) (y:IV) (hy:y.ok W W.heap.size) (hn:y.n ≤ 1000000) (hb:badW z.nv y.l = false)=>law_seen z c y W hz hy hn (badW_no hb))
 unfold lasL lasV at hr
 obtain ⟨m,hm⟩:∃ m,z.m = m:=⟨_,rfl⟩
 have hma:m.a = z.x.a:=by rw [← hm];rfl
 rw [hm,hma] at hr
 rw [hm] at HSE
 clear hm hma
 obtain ⟨⟨A,na,ca,M,nm,cm,E,ne,ce,a⟩,V,nv,cv,l⟩:=z
 dsimp only at hr
 obtain ⟨w1,hw1⟩:∃ w1,w1 = w.alloc (.cells #[.slice A na ca,.int .i64 a.st,.slice M nm cm,.slice E ne ce,.slice V nv cv] 37):=⟨_,rfl⟩
 have hb1:=box_below w (.cells #[.slice A na ca,.int .i64 a.st,.slice M nm cm,.slice E ne ce,.slice V nv cv] 37)
 have kx:Blk w1 w.heap.size 37 [.slice A na ca,.int .i64 a.st,.slice M nm cm,.slice E ne ce,.slice V nv cv]:=by rw [hw1];exact Blk.new _ _ [_,_,_,_,_]
 rw [← hw1] at hb1
 obtain ⟨w2,hw2⟩:∃ w2,w2 = w1.alloc (.cells #[F.v,FC.v,N.v,NC.v] 45):=⟨_,rfl⟩
 have hb2:=box_below w1 (.cells #[F.v,FC.v,N.v,NC.v] 45)
 have ky:Blk w2 w1.heap.size 45 [F.v,FC.v,N.v,NC.v]:=by rw [hw2];exact Blk.new _ _ [_,_,_,_]
 rw [← hw2] at hb2
 have hs1:w1.heap.size = w.heap.size + 1:=by rw [hw1];simp
 rw [hs1] at ky
 have hb02:Below w.heap.size w w2:=hb1.trans (hb2.mono hb1.size)
 have HK:=Lib.hid (fun (W:World) (hb:Below w2.heap.size w2 W)=>(kx.below hb2 kx.lt).below hb (kx.below hb2 kx.lt).lt)
 have HY:=Lib.hid (fun (W:World) (hb:Below w2.heap.size w2 W)=>Blk.c4 (ky.below hb ky.lt))
 have HOK:=Lib.hid (fun (W:World) (hb:Below w2.heap.size w2 W)=>(h.below (hb02.trans (hb.mono hb02.size))).more (hb02.trans (hb.mono hb02.size)).size)
 have HF:=Lib.hid (fun (W:World) (hb:Below w2.heap.size w2 W)=>(hF.below (hb02.trans (hb.mono hb02.size))).more (hb02.trans (hb.mono hb02.size)).size)
 have HFC:=Lib.hid (fun (W:World) (hb:Below w2.heap.size w2 W)=>(hFC.below (hb02.trans (hb.mono hb02.size))).more (hb02.trans (hb.mono hb02.size)).size)
 have HN:=Lib.hid (fun (W:World) (hb:Below w2.heap.size w2 W)=>(hN.below (hb02.trans (hb.mono hb02.size))).more (hb02.trans (hb.mono hb02.size)).size)
 have HNC:=Lib.hid (fun (W:World) (hb:Below w2.heap.size w2 W)=>(hNC.below (hb02.trans (hb.mono hb02.size))).more (hb02.trans (hb.mono hb02.size)).size)
 have HBL:=Lib.hid (fun (W:World) (hb:Below w2.heap.size w2 W)=>hb02.trans (hb.mono hb02.size))
 have HRW:=Lib.hid (fun (W:World) (hb:Below w2.heap.size w2 W) (k:Nat) (x:IV) (hx:[F,FC,N,NC][k]? = some x)=>(show x.ok W W.heap.size from by
  match k,hx with
  | 0,hx=>obtain rfl:F = x:=Option.some.inj hx;exact HF.out W hb
  | 1,hx=>obtain rfl:FC = x:=Option.some.inj hx;exact HFC.out W hb
  | 2,hx=>obtain rfl:N = x:=Option.some.inj hx;exact HN.out W hb
  | 3,hx=>obtain rfl:NC = x:=Option.some.inj hx;exact HNC.out W hb
  | k + 4,hx=>cases hx))
 clear h hF hFC hN hNC kx ky hb02 hb1 hb2
 obtain ⟨FA,fn,fc,fl9⟩:=F
 obtain ⟨CA,cn,cc,cl9⟩:=FC
 obtain ⟨NA,nn,nc,nl9⟩:=N
 obtain ⟨DA,dn,dc,dl9⟩:=NC
 unfold dvc at HSE ⊢
 dsimp only [IV.v] at HF HFC HN HNC hw2 HY HEN HSE hr s1 s2 s3 s4 ⊢
 obtain ⟨sv,hsv⟩:∃ s,a.st = s:=⟨_,rfl⟩
 rw [hsv] at hw1 HK HEN HSE ⊢
 obtain ⟨bd,hbd⟩:∃ b,[fl9,cl9,nl9,dl9].any (badW nv) = b:=⟨_,rfl⟩
 rw [hbd] at hr
 have HW1:=Lib.hid hw1;clear hw1
 have HW2:=Lib.hid hw2;clear hw2
 have HS1:=Lib.hid hs1;clear hs1
 have HR:=Lib.hid hr;clear hr
 have HBD:=Lib.hid hbd;clear hbd
 clear hsv
 go_enter Tryz.func12,Tryz.ntmps12
 go_upto_region 1 with fail
 rw [← HW1.out,← HW2.out]
 obtain ⟨d0,d1,d2,d3⟩:=HY.out w2 (Below.refl _ _)
 go_upto_region 2 with fail
 obtain ⟨w3,hw3⟩:∃ W,W = w2.alloc (.cells #[.slice FA fn fc,.slice CA cn cc,.slice NA nn nc,.slice DA dn dc] 31):=⟨_,rfl⟩
 have hb3:=box_below w2 (.cells #[.slice FA fn fc,.slice CA cn cc,.slice NA nn nc,.slice DA dn dc] 31)
 have kl:Blk w3 w2.heap.size 31 [.slice FA fn fc,.slice CA cn cc,.slice NA nn nc,.slice DA dn dc]:=by rw [hw3];exact Blk.new _ _ [_,_,_,_]
 rw [← hw3] at hb3 ⊢
 have HB3:=Lib.hid hb3
 have HL3:=Lib.hid kl
 obtain ⟨bl,hbl⟩:∃ b,w2.heap.size = b:=⟨_,rfl⟩
 rw [hbl] at HL3 ⊢
 clear d0 d1 d2 d3 hw3 hb3 kl hbl
 go_loopw [6,8,29] (fun s6 s8 s29 wr=>∃ (k:Nat) (v6 v8:Value),s6 = v6∧s8 = v8∧s29 = .int .i64 k∧k ≤ 4∧wr = w3∧Hid ((([fl9,cl9,nl9,dl9].take k).any (badW nv)) = false)) (fun _ _ s29 _=>4 - (intOf s29).toNat)
 case atStart=>exact ⟨0,_,_,rfl,rfl,rfl,by omega,rfl,Lib.hid rfl⟩
 case round =>
  obtain ⟨k,v6,v8,rfl,rfl,rfl,hk,rfl,HX⟩:=hrel
  by_cases hlt:k < 4
  ·obtain ⟨x,hx⟩:∃ x:IV,([⟨FA,fn,fc,fl9⟩,⟨CA,cn,cc,cl9⟩,⟨NA,nn,nc,nl9⟩,⟨DA,dn,dc,dl9⟩]:List IV)[k]? = some x:=⟨_,List.getElem?_eq_getElem (by simpa using hlt)⟩
   have hxl:[fl9,cl9,nl9,dl9][k]? = some x.l:=by
    have:=congrArg (Option.map IV.l) hx
    rw [← List.getElem?_map] at this
    exact this
   have hxv:[Value.slice FA fn fc,.slice CA cn cc,.slice NA nn nc,.slice DA dn dc][k]? = some x.v:=by
    have:=congrArg (Option.map IV.v) hx
    rw [← List.getElem?_map] at this
    exact this
   have ck:wr.cell? ⟨bl,k,none⟩ = some x.v:=HL3.out.cell hxv
   have hxo:=HRW.out _ HB3.out k x hx
   obtain ⟨XA,xn,xc,xl⟩:=x
   dsimp only [IV.v] at ck hxl
   have b1:(k:Int) < 4:=by omega
   have b4:=(HK.out _ HB3.out).cell (j:=4) rfl
   obtain ⟨q,hq⟩:∃ q,badW nv xl = q:=⟨_,rfl⟩
   have HXL:=Lib.hid hxl
   have HC:=Lib.hid (ints_ContainsFunc XA xc xn xl 33 (.pointer (some ⟨w.heap.size,0,none⟩)) (fun v=>decide (v < 0) || decide ((nv:Int) ≤ v)) q _ hxo.la hxo.ra (by have h1:=hxo.ac;have h2:=hxo.cA;dsimp only at h1 h2;omega) (fun _ _=>rfl) (fun x=>lasso1_ok w.heap.size V nv cv x _ b4) hq)
   have HQ:=Lib.hid hq
   clear hx hxl hxv hxo b4 hq
   go_wp2_with fail
   refine HC.out.mono ?_
   rintro e w' ⟨rfl,rfl⟩
   clear HC ck
   cases q with
   | true =>
    have HR2:=Lib.hid (show r = false by
     rw [← HR.out,← HBD.out,show [fl9,cl9,nl9,dl9].any (badW nv) = true from List.any_eq_true.2 ⟨xl,List.mem_of_getElem? HXL.out,HQ.out⟩];rfl)
    go_wp2
    go_ret
    exact ⟨by rw [HR2.out];rfl,HBL.out _ HB3.out⟩
   | false =>
    have HX2:=Lib.hid (show (([fl9,cl9,nl9,dl9].take (k + 1)).any (badW nv)) = false by
     rw [List.take_add_one,HXL.out,List.any_append,HX.out]
     simp [HQ.out])
    go_wp2
    go_roundw
    case rel=>exact ⟨k + 1,_,_,rfl,rfl,by go_num,by omega,trivial,HX2⟩
    case measure=>simp [intOf];omega
  ·obtain rfl:k = 4:=by omega
   have hx:=HX.out
   have e4:[fl9,cl9,nl9,dl9].take 4 = [fl9,cl9,nl9,dl9]:=rfl
   rw [e4] at hx
   obtain rfl:bd = false:=HBD.out.symm.trans hx
   simp only [List.any_cons,List.any_nil,Bool.or_false,Bool.or_eq_false_iff] at hx
   obtain ⟨z1,z2,z3,z4⟩:=hx
   have HZ1:=Lib.hid z1
   have HZ2:=Lib.hid z2
   have HZ3:=Lib.hid z3
   have HZ4:=Lib.hid z4
   have hr:=HR.out
   rw [Bool.not_false,Bool.true_and] at hr
   obtain ⟨x1,hx1⟩:∃ s,endsL a 0 fl9 = s:=⟨_,rfl⟩
   obtain ⟨y1,hy1⟩:∃ s,endsL a 0 nl9 = s:=⟨_,rfl⟩
   rw [hx1,hy1] at hr
   obtain ⟨x2,hx2⟩:∃ s,endsL a x1 cl9 = s:=⟨_,rfl⟩
   obtain ⟨y2,hy2⟩:∃ s,endsL a y1 dl9 = s:=⟨_,rfl⟩
   rw [hx2,hy2] at hr
   have HE1:=Lib.hid (fun (W:World) (hb:Below w2.heap.size w2 W)=>(show Calls Tryz.prog 34 #[.agg #[.slice A na ca,.int .i64 sv,.slice M nm cm,.slice E ne ce],.int .i64 0,.slice FA fn fc] W fun e w'=>e = .returned (.int .i64 x1)∧Below W.heap.size W w' from hx1 ▸ HEN.out W (HOK.out W hb) 0 ⟨FA,fn,fc,fl9⟩ (HF.out W hb)))
   have HE2:=Lib.hid (fun (W:World) (hb:Below w2.heap.size w2 W)=>(show Calls Tryz.prog 34 #[.agg #[.slice A na ca,.int .i64 sv,.slice M nm cm,.slice E ne ce],.int .i64 0,.slice NA nn nc] W fun e w'=>e = .returned (.int .i64 y1)∧Below W.heap.size W w' from hy1 ▸ HEN.out W (HOK.out W hb) 0 ⟨NA,nn,nc,nl9⟩ (HN.out W hb)))
   have HE3:=Lib.hid (fun (W:World) (hb:Below w2.heap.size w2 W)=>(show Calls Tryz.prog 34 #[.agg #[.slice A na ca,.int .i64 sv,.slice M nm cm,.slice E ne ce],.int .i64 x1,.slice CA cn cc] W fun e w'=>e = .returned (.int .i64 x2)∧Below W.heap.size W w' from hx2 ▸ HEN.out W (HOK.out W hb) x1 ⟨CA,cn,cc,cl9⟩ (HFC.out W hb)))
   have HE4:=Lib.hid (fun (W:World) (hb:Below w2.heap.size w2 W)=>(show Calls Tryz.prog 34 #[.agg #[.slice A na ca,.int .i64 sv,.slice M nm cm,.slice E ne ce],.int .i64 y1,.slice DA dn dc] W fun e w'=>e = .returned (.int .i64 y2)∧Below W.heap.size W w' from hy2 ▸ HEN.out W (HOK.out W hb) y1 ⟨DA,dn,dc,dl9⟩ (HNC.out W hb)))
   clear HEN HRW hx1 hy1 hx2 hy2 HX HBD z1 z2 z3 z4 HR e4
   have HS1:=Lib.hid (fun (W:World) (hb:Below w2.heap.size w2 W)=>HSE.out W (HOK.out W hb) ⟨FA,fn,fc,fl9⟩ (HF.out W hb) s1 HZ1.out)
   have HS2:=Lib.hid (fun (W:World) (hb:Below w2.heap.size w2 W)=>HSE.out W (HOK.out W hb) ⟨NA,nn,nc,nl9⟩ (HN.out W hb) s3 HZ3.out)
   have HS3:=Lib.hid (fun (W:World) (hb:Below w2.heap.size w2 W)=>HSE.out W (HOK.out W hb) ⟨CA,cn,cc,cl9⟩ (HFC.out W hb) s2 HZ2.out)
   have HS4:=Lib.hid (fun (W:World) (hb:Below w2.heap.size w2 W)=>HSE.out W (HOK.out W hb) ⟨DA,dn,dc,dl9⟩ (HNC.out W hb) s4 HZ4.out)
   dsimp only at HS1 HS2 HS3 HS4
   obtain ⟨O1,hO1⟩:∃ s,obsW m fl9 = s:=⟨_,rfl⟩
   obtain ⟨O2,hO2⟩:∃ s,obsW m nl9 = s:=⟨_,rfl⟩
   obtain ⟨O3,hO3⟩:∃ s,obsW m cl9 = s:=⟨_,rfl⟩
   obtain ⟨O4,hO4⟩:∃ s,obsW m dl9 = s:=⟨_,rfl⟩
   obtain ⟨f1,hf1⟩:∃ s,fltB m c fl9 = s:=⟨_,rfl⟩
   obtain ⟨f2,hf2⟩:∃ s,fltB m c nl9 = s:=⟨_,rfl⟩
   obtain ⟨f3,hf3⟩:∃ s,fltB m c cl9 = s:=⟨_,rfl⟩
   obtain ⟨f4,hf4⟩:∃ s,fltB m c dl9 = s:=⟨_,rfl⟩
   rw [hO1,hf1] at HS1
   rw [hO2,hf2] at HS2
   rw [hO3,hf3] at HS3
   rw [hO4,hf4] at HS4
   obtain ⟨q5,hq5⟩:∃ s,eqB O1 O2 = s:=⟨_,rfl⟩
   obtain ⟨q6,hq6⟩:∃ s,eqB O3 O4 = s:=⟨_,rfl⟩
   obtain ⟨u1,hu1⟩:∃ s,(x2 == x1) = s:=⟨_,rfl⟩
   obtain ⟨u2,hu2⟩:∃ s,(y2 == y1) = s:=⟨_,rfl⟩
   have hcl:cl9.length = cn:=(HFC.out _ (Below.refl _ _)).la
   rw [hf1,hf2,hf4,hO1,hO2,hO3,hO4,hq5,hq6,hu1,hu2,hcl] at hr
   have HR:=Lib.hid hr
   have HQ5:=Lib.hid hq5
   have HQ6:=Lib.hid hq6
   clear hr hO1 hO2 hO3 hO4 hf1 hf2 hf3 hf4 hq5 hq6 hcl HSE HZ1 HZ2 HZ3 HZ4
   go_upto_region 7 with fail
   refine wp_region_U (fun W=>(W.cell? ⟨w.heap.size,0,none⟩ = some (.slice A na ca)∧W.cell? ⟨w.heap.size,1,none⟩ = some (.int .i64 sv)∧W.cell? ⟨w.heap.size,2,none⟩ = some (.slice M nm cm)∧W.cell? ⟨w.heap.size,3,none⟩ = some (.slice E ne ce))∧W.cell? ⟨w.heap.size + 1,0,none⟩ = some (.slice FA fn fc)∧W.cell? ⟨w.heap.size + 1,2,none⟩ = some (.slice NA nn nc)) (fun _=>True) 9 (by kernel_rfl) ?_
   change anyU _ _ _ _ _ _ _ 12 _ _ _
   have hB0:True:=trivial
   have HAT:=Lib.hid (fun (W:World) (hb:Below w2.heap.size w2 W)=>(show (W.cell? ⟨w.heap.size,0,none⟩ = some (.slice A na ca)∧W.cell? ⟨w.heap.size,1,none⟩ = some (.int .i64 sv)∧W.cell? ⟨w.heap.size,2,none⟩ = some (.slice M nm cm)∧W.cell? ⟨w.heap.size,3,none⟩ = some (.slice E ne ce))∧W.cell? ⟨w.heap.size + 1,0,none⟩ = some (.slice FA fn fc)∧W.cell? ⟨w.heap.size + 1,2,none⟩ = some (.slice NA nn nc) from ⟨Blk.c4 (HK.out W hb),(HY.out W hb).1,(HY.out W hb).2.2.1⟩))
   have hbd:=HB3.out.drew
   generalize wr.drew = w4 at hbd ⊢
   have HB4:=Lib.hid hbd
   have hA0:=HAT.out w4 HB4.out
   clear hbd
   (refine uA 0 ?_ rfl hA0 hB0 (fun W hA=>?_) ?_;rotate_left;(· (obtain ⟨⟨a0,a1,a2,a3⟩,d0,d2⟩:=hA;go_simp;try with_reducible rfl));(try simp only [Act.put,List.setIfInBounds_toArray,List.set_cons_zero,List.set_cons_succ]))
   (refine uA 1 ?_ rfl hA0 hB0 (fun W hA=>?_) ?_;rotate_left;(· (obtain ⟨⟨a0,a1,a2,a3⟩,d0,d2⟩:=hA;go_simp;try with_reducible rfl));(try simp only [Act.put,List.setIfInBounds_toArray,List.set_cons_zero,List.set_cons_succ]))
   (refine uA 2 ?_ rfl hA0 hB0 (fun W hA=>?_) ?_;rotate_left;(· (obtain ⟨⟨a0,a1,a2,a3⟩,d0,d2⟩:=hA;go_simp;try with_reducible rfl));(try simp only [Act.put,List.setIfInBounds_toArray,List.set_cons_zero,List.set_cons_succ]))
   (refine uA 3 ?_ rfl hA0 hB0 (fun W hA=>?_) ?_;rotate_left;(· (obtain ⟨⟨a0,a1,a2,a3⟩,d0,d2⟩:=hA;go_simp;try with_reducible rfl));(try simp only [Act.put,List.setIfInBounds_toArray,List.set_cons_zero,List.set_cons_succ]))
   (refine uA 5 ?_ rfl hA0 hB0 (fun W hA=>?_) ?_;rotate_left;(· (obtain ⟨⟨a0,a1,a2,a3⟩,d0,d2⟩:=hA;go_simp;try with_reducible rfl));(try simp only [Act.put,List.setIfInBounds_toArray,List.set_cons_zero,List.set_cons_succ]))
   (refine uA 6 ?_ rfl hA0 hB0 (fun W hA=>?_) ?_;rotate_left;(· (obtain ⟨⟨a0,a1,a2,a3⟩,d0,d2⟩:=hA;go_simp;try with_reducible rfl));(try simp only [Act.put,List.setIfInBounds_toArray,List.set_cons_zero,List.set_cons_succ]))
   (refine uA 7 ?_ rfl hA0 hB0 (fun W hA=>?_) ?_;rotate_left;(· (obtain ⟨⟨a0,a1,a2,a3⟩,d0,d2⟩:=hA;go_simp;try with_reducible rfl));(try simp only [Act.put,List.setIfInBounds_toArray,List.set_cons_zero,List.set_cons_succ]))
   (refine uA 8 ?_ rfl hA0 hB0 (fun W hA=>?_) ?_;rotate_left;(· (obtain ⟨⟨a0,a1,a2,a3⟩,d0,d2⟩:=hA;go_simp;try with_reducible rfl));(try simp only [Act.put,List.setIfInBounds_toArray,List.set_cons_zero,List.set_cons_succ]))
   have HC1:=Lib.hid (HE1.out w4 HB4.out)
   clear hA0
   refine uOne (i:=4) rfl (by kernel_rfl) (fun K hK=>?_)
   go_simp
   go_at_call 34
   refine HC1.out.mono ?_
   rintro _ w5 ⟨rfl,hb5⟩
   have HB5:=Lib.hid (HB4.out.trans (hb5.mono HB4.out.size))
   have hA1:=HAT.out w5 HB5.out
   go_simp
   (refine hK _ _ ⟨hA1,fun _=>hB0⟩ ?_;clear hK K;(try simp only [Act.put,List.setIfInBounds_toArray,List.set_cons_zero,List.set_cons_succ]))
   have HC2:=Lib.hid (HE2.out w5 HB5.out)
   clear hA1 hb5 HC1
   refine uOne (i:=9) rfl (by kernel_rfl) (fun K hK=>?_)
   go_simp
   go_at_call 34
   refine HC2.out.mono ?_
   rintro _ w6 ⟨rfl,hb6⟩
   have HB6:=Lib.hid (HB5.out.trans (hb6.mono HB5.out.size))
   have hA0:=HAT.out w6 HB6.out
   go_simp
   (refine hK _ _ ⟨hA0,fun _=>hB0⟩ ?_;clear hK K;(try simp only [Act.put,List.setIfInBounds_toArray,List.set_cons_zero,List.set_cons_succ]))
   (refine uA 10 ?_ rfl hA0 hB0 (fun W hA=>?_) ?_;rotate_left;(· (go_simp;try with_reducible rfl));refine uA 11 ?_ rfl hA0 hB0 (fun W hA=>?_) ?_;rotate_left;(· (go_simp;try with_reducible rfl));(try simp only [Act.put,List.setIfInBounds_toArray,List.set_cons_zero,List.set_cons_succ]))
   refine anyU_done (by kernel_rfl) ?_ _
   clear hA0 hb6 HC2 HE1 HE2 HAT
   obtain ⟨a0,a1,a2,a3,a4⟩:=Blk.c5 (HK.out w6 HB6.out)
   obtain ⟨d0,d1,d2,d3⟩:=HY.out w6 HB6.out
   have HC:=Lib.hid (HS1.out w6 HB6.out)
   go_wp2_with fail
   refine HC.out.mono ?_
   rintro e w7 ⟨v1,rfl,ho1,hb⟩
   obtain ⟨P1,pc1,rfl,pa1,pb1,rd1⟩:=own_slI ho1
   have HB7:=Lib.hid (HB6.out.trans (hb.mono HB6.out.size))
   have HW1:=Lib.hid (Below.refl w7.heap.size w7)
   have HRD1:=Lib.hid rd1
   clear a0 a1 a2 a3 a4 d0 d1 d2 d3 HC hb ho1 rd1 HS1
   obtain ⟨a0,a1,a2,a3,a4⟩:=Blk.c5 (HK.out w7 HB7.out)
   obtain ⟨d0,d1,d2,d3⟩:=HY.out w7 HB7.out
   have HC:=Lib.hid (HS2.out w7 HB7.out)
   go_wp2_with fail
   refine HC.out.mono ?_
   rintro e w8 ⟨v2,rfl,ho2,hb⟩
   obtain ⟨P2,pc2,rfl,pa2,pb2,rd2⟩:=own_slI ho2
   have HB8:=Lib.hid (HB7.out.trans (hb.mono HB7.out.size))
   have HW2:=Lib.hid (Below.refl w8.heap.size w8)
   have HRD2:=Lib.hid rd2
   have HW1:=Lib.hid (HW1.out.trans (hb.mono HW1.out.size))
   clear a0 a1 a2 a3 a4 d0 d1 d2 d3 HC hb ho2 rd2 HS2
   obtain ⟨a0,a1,a2,a3,a4⟩:=Blk.c5 (HK.out w8 HB8.out)
   obtain ⟨d0,d1,d2,d3⟩:=HY.out w8 HB8.out
   have HC:=Lib.hid (HS3.out w8 HB8.out)
   go_wp2_with fail
   refine HC.out.mono ?_
   rintro e w9 ⟨v3,rfl,ho3,hb⟩
   obtain ⟨P3,pc3,rfl,pa3,pb3,rd3⟩:=own_slI ho3
   have HB9:=Lib.hid (HB8.out.trans (hb.mono HB8.out.size))
   have HW3:=Lib.hid (Below.refl w9.heap.size w9)
   have HRD3:=Lib.hid rd3
   have HW1:=Lib.hid (HW1.out.trans (hb.mono HW1.out.size))
   have HW2:=Lib.hid (HW2.out.trans (hb.mono HW2.out.size))
   clear a0 a1 a2 a3 a4 d0 d1 d2 d3 HC hb ho3 rd3 HS3
   obtain ⟨a0,a1,a2,a3,a4⟩:=Blk.c5 (HK.out w9 HB9.out)
   obtain ⟨d0,d1,d2,d3⟩:=HY.out w9 HB9.out
   have HC:=Lib.hid (HS4.out w9 HB9.out)
   go_wp2_with fail
   refine HC.out.mono ?_
   rintro e w10 ⟨v4,rfl,ho4,hb⟩
   obtain ⟨P4,pc4,rfl,pa4,pb4,rd4⟩:=own_slI ho4
   have HB10:=Lib.hid (HB9.out.trans (hb.mono HB9.out.size))
   have HW4:=Lib.hid (Below.refl w10.heap.size w10)
   have HRD4:=Lib.hid rd4
   have HW1:=Lib.hid (HW1.out.trans (hb.mono HW1.out.size))
   have HW2:=Lib.hid (HW2.out.trans (hb.mono HW2.out.size))
   have HW3:=Lib.hid (HW3.out.trans (hb.mono HW3.out.size))
   clear a0 a1 a2 a3 a4 d0 d1 d2 d3 HC hb ho4 rd4 HS4
   obtain ⟨a0,a1,a2,a3,a4⟩:=Blk.c5 (HK.out w10 HB10.out)
   obtain ⟨d0,d1,d2,d3⟩:=HY.out w10 HB10.out
   by_cases hpx1:0 ≤ x1
   case neg =>
    have HR2:=Lib.hid (show r = false by rw [← HR.out,show decide (0 ≤ x1) = false from decide_eq_false hpx1];simp)
    go_wp2
    go_ret
    exact ⟨by rw [HR2.out];rfl,HBL.out _ HB10.out⟩
   rw [show decide (0 ≤ x1) = true from decide_eq_true hpx1] at HR
   by_cases hpy1:0 ≤ y1
   case neg =>
    have HR2:=Lib.hid (show r = false by rw [← HR.out,show decide (0 ≤ y1) = false from decide_eq_false hpy1];simp)
    go_wp2
    go_ret
    exact ⟨by rw [HR2.out];rfl,HBL.out _ HB10.out⟩
   rw [show decide (0 ≤ y1) = true from decide_eq_true hpy1] at HR
   by_cases hc0:(0:Int) < (cn:Int)
   case neg =>
    have HR2:=Lib.hid (show r = false by rw [← HR.out,show decide (0 < cn) = false from decide_eq_false (by omega)];simp)
    go_wp2
    go_ret
    exact ⟨by rw [HR2.out];rfl,HBL.out _ HB10.out⟩
   rw [show decide (0 < cn) = true from decide_eq_true (by omega)] at HR
   have HC:=Lib.hid (HE3.out w10 HB10.out)
   go_wp2_with fail
   refine HC.out.mono ?_
   rintro e w11 ⟨rfl,hb⟩
   have HB11:=Lib.hid (HB10.out.trans (hb.mono HB10.out.size))
   have HW1:=Lib.hid (HW1.out.trans (hb.mono HW1.out.size))
   have HW2:=Lib.hid (HW2.out.trans (hb.mono HW2.out.size))
   have HW3:=Lib.hid (HW3.out.trans (hb.mono HW3.out.size))
   have HW4:=Lib.hid (HW4.out.trans (hb.mono HW4.out.size))
   clear HC hb a0 a1 a2 a3 a4 d0 d1 d2 d3
   obtain ⟨a0,a1,a2,a3,a4⟩:=Blk.c5 (HK.out w11 HB11.out)
   obtain ⟨d0,d1,d2,d3⟩:=HY.out w11 HB11.out
   cases u1
   case false =>
    have HR2:=Lib.hid (show r = false by rw [← HR.out];simp)
    go_wp2
    go_ret
    exact ⟨by rw [HR2.out];rfl,HBL.out _ HB11.out⟩
   have HC:=Lib.hid (HE4.out w11 HB11.out)
   go_wp2_with fail
   refine HC.out.mono ?_
   rintro e w12 ⟨rfl,hb⟩
   have HB12:=Lib.hid (HB11.out.trans (hb.mono HB11.out.size))
   have HW1:=Lib.hid (HW1.out.trans (hb.mono HW1.out.size))
   have HW2:=Lib.hid (HW2.out.trans (hb.mono HW2.out.size))
   have HW3:=Lib.hid (HW3.out.trans (hb.mono HW3.out.size))
   have HW4:=Lib.hid (HW4.out.trans (hb.mono HW4.out.size))
   clear HC hb a0 a1 a2 a3 a4 d0 d1 d2 d3
   obtain ⟨a0,a1,a2,a3,a4⟩:=Blk.c5 (HK.out w12 HB12.out)
   obtain ⟨d0,d1,d2,d3⟩:=HY.out w12 HB12.out
   cases u2
   case false =>
    have HR2:=Lib.hid (show r = false by rw [← HR.out];simp)
    go_wp2
    go_ret
    exact ⟨by rw [HR2.out];rfl,HBL.out _ HB12.out⟩
   cases f1
   case false =>
    have HR2:=Lib.hid (show r = false by rw [← HR.out];simp)
    go_wp2
    go_ret
    exact ⟨by rw [HR2.out];rfl,HBL.out _ HB12.out⟩
   cases f2
   case true =>
    have HR2:=Lib.hid (show r = false by rw [← HR.out];simp)
    go_wp2
    go_ret
    exact ⟨by rw [HR2.out];rfl,HBL.out _ HB12.out⟩
   cases f4
   case true =>
    have HR2:=Lib.hid (show r = false by rw [← HR.out];simp)
    go_wp2
    go_ret
    exact ⟨by rw [HR2.out];rfl,HBL.out _ HB12.out⟩
   have HC:=Lib.hid (slices_Equal_n P1 P2 pc1 pc2 _ _ O1 O2 q5 w12 rfl rfl HQ5.out ((HRD1.out.below HW1.out).more HW1.out.size) pa1 pb1 ((HRD2.out.below HW2.out).more HW2.out.size))
   go_wp2_with fail
   refine HC.out.mono ?_
   rintro e w13 ⟨rfl,n13,hn13⟩
   have hb:Below w12.heap.size w12 w13:=by rw [hn13];exact below_drewN (Below.refl _ _) _
   have HB13:=Lib.hid (HB12.out.trans (hb.mono HB12.out.size))
   have HW3:=Lib.hid (HW3.out.trans (hb.mono HW3.out.size))
   have HW4:=Lib.hid (HW4.out.trans (hb.mono HW4.out.size))
   clear HC hb hn13 a0 a1 a2 a3 a4 d0 d1 d2 d3
   cases q5
   case false =>
    have HR2:=Lib.hid (show r = false by rw [← HR.out];simp)
    go_wp2
    go_ret
    exact ⟨by rw [HR2.out];rfl,HBL.out _ HB13.out⟩
   have HC:=Lib.hid (slices_Equal_n P3 P4 pc3 pc4 _ _ O3 O4 q6 w13 rfl rfl HQ6.out ((HRD3.out.below HW3.out).more HW3.out.size) pa3 pb3 ((HRD4.out.below HW4.out).more HW4.out.size))
   go_wp2_with fail
   refine HC.out.mono ?_
   rintro e w14 ⟨rfl,n14,hn14⟩
   have hb:Below w13.heap.size w13 w14:=by rw [hn14];exact below_drewN (Below.refl _ _) _
   have HB14:=Lib.hid (HB13.out.trans (hb.mono HB13.out.size))
   clear HC hb hn14
   have HR2:=Lib.hid (show r = q6 by rw [← HR.out];simp)
   go_wp2
   go_ret
   exact ⟨by rw [HR2.out];rfl,HBL.out _ HB14.out⟩
end Go.Proofs.YtddhaidimadliaaGreat
/- The statement DiagnosabilityVerifies: the plain law, the opening of a lasso, the walk. -/
namespace Go.Proofs.YtddhaidimadliaaGreat
section
open Go.ChangeShapes Go.WideShapes Go.ChangeAt Go.RowKit Go.Deep Go
variable {H:Type} {enc:TypeId × Value → H} {W:World} {spare:Nat → Bool} {held:Bool}
end
open Go.RowKit Go
theorem goS_rng {a:Aut} (h:WF a):∀ (ws:List Int) (t x:Int),0 ≤ t → t < a.st → goS (stA a) t ws = some x → 0 ≤ x∧x < a.st
 | [],t,x,h1,h2,e=>by injection e with e;subst e;exact ⟨h1,h2⟩
 | v :: ws,t,x,h1,h2,e=>by
  unfold goS at e
  cases hs:stA a t v with
  | none=>rw [hs] at e;cases e
  | some y =>
   rw [hs] at e
   have hx:=stA_rng h hs
   exact goS_rng h ws y x hx.1 hx.2 e
section
variable {m:Dm} {c:Int} {F FC N NC:List Int}
theorem las_pos (hw:WF m.a) (h:LasW m c F FC N NC):0 < m.a.st:=by
 obtain ⟨x,y,_,_,h3,_⟩:=h.run
 have hne:=h.ne
 cases FC with
 | nil=>exact absurd rfl hne
 | cons e r =>
  unfold goS at h3
  cases hs:stA m.a x e with
  | none=>rw [hs] at h3;cases h3
  | some z=>have:=stA_rng hw hs;omega
theorem verB_iff (hw:WF m.a):verB m c F FC N NC = true ↔ LasW m c F FC N NC:=by
 constructor
 ·intro h
  unfold verB at h
  split at h
  ·rename_i a f b g h1 h2
   split at h
   ·rename_i x p y q h3 h4
    simp only [Bool.and_eq_true,Bool.not_eq_true',beq_iff_eq,decide_eq_true_eq] at h
    obtain ⟨⟨⟨⟨⟨⟨⟨rfl,rfl⟩,hl⟩,rfl⟩,rfl⟩,rfl⟩,e1⟩,e2⟩:=h
    have h0:=((runC_go hw _ _ _ _ _).1 h1).1
    refine (las_code hw h0).2 ⟨a,b,p,false,h1,h2,h3,h4,rfl,?_,eqB_eq e1,eqB_eq e2⟩
    intro he
    rw [he] at hl
    exact absurd hl (by simp)
   ·cases h
  ·cases h
 ·intro h
  obtain ⟨x,y,p,q,h1,h2,h3,h4,rfl,hne,e1,e2⟩:=(las_code hw (las_pos hw h)).1 h
  unfold verB
  rw [h1,h2]
  dsimp only
  rw [h3,h4]
  have hl:0 < FC.length:=List.length_pos_iff.2 hne
  simp [hl,eqB_of e1,eqB_of e2]
theorem lasV_iff (hw:WF m.a):lasV m c F FC N NC = true ↔ LasW m c F FC N NC:=by
 constructor
 ·intro h
  unfold lasV at h
  simp only [Bool.and_eq_true,Bool.not_eq_true',beq_iff_eq,decide_eq_true_eq] at h
  obtain ⟨⟨⟨⟨⟨⟨⟨⟨⟨hx,hy⟩,hl⟩,e1⟩,e2⟩,f1⟩,f2⟩,f3⟩,o1⟩,o2⟩:=h
  have ends_eq:∀ {s:Int} {ws:List Int},0 ≤ endsL m.a s ws → endsL m.a s ws = endL m.a s ws:=fun {s ws} h=>by
   unfold endsL at h ⊢
   by_cases hb:s < 0 ∨ m.a.st ≤ s
   ·rw [if_pos hb] at h;omega
   ·rw [if_neg hb]
  have q1:=ends_eq hx
  have q2:=ends_eq hy
  have q3:=ends_eq (show 0 ≤ endsL m.a (endsL m.a 0 F) FC by rw [e1];exact hx)
  have q4:=ends_eq (show 0 ≤ endsL m.a (endsL m.a 0 N) NC by rw [e2];exact hy)
  refine (las_law hw).2 ⟨endsL m.a 0 F,endsL m.a 0 N,q1.symm,q2.symm,hx,hy,?_,q3.symm.trans e1,q4.symm.trans e2,f1,f2,f3,eqB_eq o1,eqB_eq o2⟩
  intro he
  rw [he] at hl
  exact absurd hl (by simp)
 ·intro h
  have h0:=las_pos hw h
  obtain ⟨x,y,g1,g2,g3,g4⟩:=h.run
  have hx:=goS_rng hw F 0 x (Int.le_refl 0) h0 g1
  have hy:=goS_rng hw N 0 y (Int.le_refl 0) h0 g2
  have ends_go:∀ {s t:Int} {ws:List Int},0 ≤ s → s < m.a.st → goS (stA m.a) s ws = some t → endsL m.a s ws = t:=fun {s t ws} a b g=>by
   unfold endsL
   rw [if_neg (by omega)]
   exact ((endL_go hw ws s a).1 t g).1
  have hl:0 < FC.length:=List.length_pos_iff.2 h.ne
  unfold lasV
  rw [ends_go (Int.le_refl 0) h0 g1,ends_go (Int.le_refl 0) h0 g2,ends_go hx.1 hx.2 g3,ends_go hy.1 hy.2 g4]
  simp [hx.1,hy.1,hl,h.yes,h.no.1,h.no.2,eqB_of h.obs.1,eqB_of h.obs.2]
theorem lasL_verB {z:DV} (hw:WF z.x.a) (hev:∀ x ∈ z.x.a.al,0 ≤ x∧x < (z.nv:Int)):lasL z c F FC N NC = verB z.m c F FC N NC:=by
 rw [Bool.eq_iff_iff,verB_iff (m:=z.m) hw]
 unfold lasL
 rw [Bool.and_eq_true,lasV_iff (m:=z.m) hw]
 constructor
 ·exact fun h=>h.2
 ·intro h
  refine ⟨?_,h⟩
  have nb:∀ l:List Int,(∀ v ∈ l,v ∈ z.m.a.al) → badW z.nv l = false:=fun l hl=>by
   unfold badW
   rw [List.any_eq_false]
   intro v hv
   have:=hev v (hl v hv)
   simp
   omega
  simp [nb F h.evs.1.1,nb FC h.evs.1.2,nb N h.evs.2.1,nb NC h.evs.2.2]
end
end Go.Proofs.YtddhaidimadliaaGreat

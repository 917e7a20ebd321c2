/- Walk of synthesis.result. -/
import Derived.Test.YtdnmpndnpfklcaaX6
import Derived.Test.YtdnmpndnpfklcaaX7
namespace Go.Proofs.Ytdnmpndnpfklcaa
open Go.RowKit Go Go.Maps
theorem res_size:(Try.prog.info? 81).map (·.size) = some 9:=by kernel_rfl
theorem res_results {fn:Func} {tmps:Array Value} {k b:Nat} {w:World} {vs:List Value} (hl:vs.length = 9) (hr:fn.results = #[.cell k 81]) (ht:tmps.getD k undef = .pointer (some ⟨b,0,none⟩)) (hk:Blk w b 81 vs) :
  (results fn tmps).run Try.prog w = .ok (.agg vs.toArray) w:=by
 have ht':tmps[k]?.getD undef = .pointer (some ⟨b,0,none⟩):=by simpa using ht
 have h:=run_loadVar_mid (P:=Try.prog) w b 0 81 vs _ (fun j v hv=>by rw [Nat.zero_add];exact hk.cell hv) Try.underlying81 rfl (by rw [hl];exact res_size)
 simp [results,hr,ht',h,asAddr]
structure CVQ (w:World) (b:Nat) (c:CV):Prop where
 k:w.ownsRow b 3 1 (.slice c.k.A c.k.n c.k.c) c.k.n (iv c.k.l)
 kl:c.k.l.length = c.k.n
 d:w.ownsRow b 3 1 (.slice c.d.A c.d.n c.d.c) c.d.n (iv c.d.l)
 dl:c.d.l.length = c.d.n
 r:w.ownsRow b 63 4 (.slice c.R c.rn c.rc) c.rn (c.rm.flatMap rmc)
 rl:c.rm.length = c.rn
theorem CVQ.ok {w:World} {b:Nat} {c:CV} (h:CVQ w b c):c.ok w w.heap.size :=
 ⟨iv_ok_own h.k h.kl,iv_ok_own h.d h.dl,h.rl,RdR.of_own (f:=rmc) (by omega) (fun _ _=>rfl) h.r,(own_cap' h.r).1,(own_cap' h.r).2⟩
theorem CVQ.low {w w':World} {b r:Nat} {c:CV} (h:CVQ w b c) (hg:w.grownBy w' (some r)) (hr:r < b):CVQ w' b c :=
 ⟨own_kept_low h.k hg hr,h.kl,own_kept_low h.d hg hr,h.dl,own_kept_low h.r hg hr,h.rl⟩
def RetRes (p:Mx) (w:World) (e:Ending) (w':World):Prop:=∃ (c:CV) (y:AV) (rk:Int) (OA:Option Addr) (on oc:Nat),
 e = .returned (.agg #[.slice c.k.A c.k.n c.k.c,.slice c.d.A c.d.n c.d.c,.slice c.R c.rn c.rc,.int .i64 rk,.slice y.A y.na y.ca,.int .i64 y.a.st,.slice y.M y.nm y.cm,.slice y.E y.ne y.ce,.slice OA on oc])∧CVQ w' w.heap.size c∧c.ce = prvC p∧AutQ w' w.heap.size y∧y.a = rsA p.a (prvC p).kp∧Below w.heap.size w w'
set_option maxRecDepth 100000 in
set_option maxHeartbeats 12800000 in
theorem syn_result (x:AV) (u f:IV) (n:Nat) (w:World) (hx:x.ok w w.heap.size) (hu:u.ok w w.heap.size) (hf:f.ok w w.heap.size) (hm:(Mx.mk x.a u.l f.l).ok) (hn:x.a.st = (n:Int)) :
  Calls Try.prog 78 #[.agg #[.slice x.A x.na x.ca,.int .i64 (n:Int),.slice x.M x.nm x.cm,.slice x.E x.ne x.ce],.slice f.A f.n f.c,.slice u.A u.n u.c,.bool true] w (RetRes ⟨x.a,u.l,f.l⟩ w):=by
 have hw:WF x.a:=hm.wf
 have hn4:n ≤ 4096:=by have:=hw.st1;omega
 have hfr:∀ s ∈ f.l,0 ≤ s∧s < (n:Int):=fun s hs=>by have h1:=hm.frng s hs;have h2:(Mx.mk x.a u.l f.l).a.st = x.a.st:=rfl;omega
 have hfn:f.n ≤ 4096:=by
  have h1:=inc_len (n:=n) hm.finc hfr
  have h2:f.l.length = f.n:=hf.la
  have h3:(Mx.mk x.a u.l f.l).f.length = f.l.length:=rfl
  omega
 obtain ⟨p,hp⟩:∃ p,p = Mx.mk x.a u.l f.l:=⟨_,rfl⟩
 rw [← hp] at hm ⊢
 have HP:=Lib.hid hp
 have HM:=Lib.hid hm
 have HN:=Lib.hid (show p.a.st = (n:Int) by rw [hp];exact hn)
 have HNX:=Lib.hid hn
 have HWF:=Lib.hid hw
 have HFR:=Lib.hid hfr
 have HFL:=Lib.hid (show f.l.length = f.n from hf.la)
 have hb1:=box_below w (.cells #[.slice x.A x.na x.ca,.int .i64 (n:Int),.slice x.M x.nm x.cm,.slice x.E x.ne x.ce] 32)
 have k0:=Blk.new w 32 [.slice x.A x.na x.ca,.int .i64 (n:Int),.slice x.M x.nm x.cm,.slice x.E x.ne x.ce]
 obtain ⟨wa,hwa⟩:∃ w1,w1 = w.alloc (.cells #[.slice x.A x.na x.ca,.int .i64 (n:Int),.slice x.M x.nm x.cm,.slice x.E x.ne x.ce] 32):=⟨_,rfl⟩
 have k0':Blk wa w.heap.size 32 [.slice x.A x.na x.ca,.int .i64 (n:Int),.slice x.M x.nm x.cm,.slice x.E x.ne x.ce]:=by rw [hwa];exact k0
 rw [← hwa] at hb1
 have hsa:wa.heap.size = w.heap.size + 1:=by rw [hwa];simp
 have hb2:=box_below wa (.cells #[.slice none 0 0,.slice none 0 0,.slice none 0 0,.int .i64 0,.slice none 0 0,.int .i64 0,.slice none 0 0,.slice none 0 0,.slice none 0 0] 81)
 have k02:=k0'.below hb2 k0'.lt
 have k1:=Blk.new wa 81 (resc (.slice none 0 0) (.slice none 0 0) (.slice none 0 0) 0)
 rw [hsa] at k1
 obtain ⟨w1,hw1⟩:∃ w1,w1 = wa.alloc (.cells #[.slice none 0 0,.slice none 0 0,.slice none 0 0,.int .i64 0,.slice none 0 0,.int .i64 0,.slice none 0 0,.slice none 0 0,.slice none 0 0] 81):=⟨_,rfl⟩
 have k1':Blk w1 (w.heap.size + 1) 81 (resc (.slice none 0 0) (.slice none 0 0) (.slice none 0 0) 0):=by rw [hw1];exact k1
 rw [← hw1] at hb2 k02
 have hb12:=hb1.trans (hb2.mono hb1.size)
 have HB1:=Lib.hid (fun (W:World) (hb:Below w1.heap.size w1 W)=>hb12.trans (hb.mono hb12.size))
 have HX:=Lib.hid (fun (W:World) (hb:Below w1.heap.size w1 W)=>(AutR.below hx (hb12.trans (hb.mono hb12.size))).more (hb12.trans (hb.mono hb12.size)).size)
 have HU:=Lib.hid (fun (W:World) (hb:Below w1.heap.size w1 W)=>(hu.below (hb12.trans (hb.mono hb12.size))).more (hb12.trans (hb.mono hb12.size)).size)
 have HF:=Lib.hid (fun (W:World) (hb:Below w1.heap.size w1 W)=>(hf.below (hb12.trans (hb.mono hb12.size))).more (hb12.trans (hb.mono hb12.size)).size)
 have HKR:=Lib.hid (fun (W:World) (hb:Below w1.heap.size w1 W)=>k1'.below hb k1'.lt)
 have HLT:=Lib.hid (show w.heap.size + 1 < w1.heap.size from k1'.lt)
 have HW1:=Lib.hid (show (w.alloc (.cells #[.slice x.A x.na x.ca,.int .i64 (n:Int),.slice x.M x.nm x.cm,.slice x.E x.ne x.ce] 32)).alloc (.cells #[.slice none 0 0,.slice none 0 0,.slice none 0 0,.int .i64 0,.slice none 0 0,.int .i64 0,.slice none 0 0,.slice none 0 0,.slice none 0 0] 81) = w1 by rw [hw1,hwa])
 have HST:=Lib.hid (syn_start x u f n w1 (HX.out w1 (Below.refl _ _)) (HF.out w1 (Below.refl _ _)) hw hn hfr (by omega))
 obtain ⟨a0,a1,a2,a3⟩:=Blk.c4 k02
 clear hx hu hf hm hw hn hp hfr hb1 hb2 hb12 k0 k0' k02 k1 k1' hwa hw1 hsa
 go_enter Try.func78,Try.ntmps78
 go_upto_region 1 with fail
 rw [HW1.out]
 clear HW1
 go_wp2_with fail
 refine HST.out.mono ?_
 rintro _ w2 ⟨pb,o,lb,mm,g,rfl,hS⟩
 have HS2:=Lib.hid hS
 clear a0 a1 a2 a3 HST hS
 go_upto_region 3 with fail
 have hbx:=box_below w2 (.cells #[.slice none 0 0,.slice none 0 0,.slice none 0 0,.int .i64 0,.slice none 0 0,.int .i64 0,.slice none 0 0,.slice none 0 0,.slice none 0 0] 81)
 have HR0:=Lib.hid (show ReM w1 x u pb o lb n mm g w2 (w2.alloc (.cells #[.slice none 0 0,.slice none 0 0,.slice none 0 0,.int .i64 0,.slice none 0 0,.int .i64 0,.slice none 0 0,.slice none 0 0,.slice none 0 0] 81)) w2.heap.size (.slice none 0 0) 0 (foK f.l 0) 0 (clrL (List.replicate n true) f.l) from
  ⟨HS2.out.quiet hbx,Blk.new w2 81 (resc (.slice none 0 0) (.slice none 0 0) (.slice none 0 0) 0),World.ownsRow_nil _ _ _ _,rfl,HS2.out.into.siz,Nat.le_refl _⟩)
 obtain ⟨rb,hrb⟩:∃ b,w2.heap.size = b:=⟨_,rfl⟩
 have HRB:=Lib.hid hrb
 have HL2:=Lib.hid (show w1.heap.size ≤ w2.heap.size from HS2.out.into.siz)
 rw [hrb] at HR0 ⊢
 clear hrb hbx
 generalize w2.alloc (.cells #[.slice none 0 0,.slice none 0 0,.slice none 0 0,.int .i64 0,.slice none 0 0,.int .i64 0,.slice none 0 0,.slice none 0 0,.slice none 0 0] 81) = w3 at HR0 ⊢
 go_wp2
 go_loopw [12,25] (fun s12 s25 wr=>∃ (j:Nat) (v12 Rv:Value) (rk:Int),s12 = v12∧s25 = .int .i64 j∧j ≤ f.n∧Hid (ReM w1 x u pb o lb n mm g w2 wr rb Rv j (foK f.l j) rk (clrL (List.replicate n true) f.l))) (fun _ s25 _=>f.n - (intOf s25).toNat)
 case atStart=>exact ⟨0,_,_,_,rfl,rfl,Nat.zero_le _,HR0⟩
 case round =>
  clear HR0
  obtain ⟨j,v12,Rv,rk,rfl,rfl,hj,HR⟩:=hrel
  obtain ⟨wb,rfl⟩:∃ z,z = wr:=⟨_,rfl⟩
  obtain ⟨RA,rc,rfl⟩:=own_shape HR.out.row
  by_cases hlt:j < f.n
  case pos =>
   obtain ⟨ad,s,hA,hab,hs,hcs⟩:=(HF.out wb HR.out.bel).ra.at_ (k:=j) (by rw [HFL.out];exact hlt)
   have b2:(j:Int) < (f.n:Int):=by omega
   have HFK:=Lib.hid (foK_snoc hs)
   have hsz:=HR.out.siz
   have e2:=HR.out.kx.cell (j:=2) rfl
   have HP9:=Lib.hid (fun (W8:World) (A8:Option Addr) (c8:Nat) (ho:W8.ownsRow w2.heap.size 63 4 (.slice A8 (j + 1) c8) (j + 1) ((foK f.l j).flatMap rmc ++ [.int .i64 s,.int .i64 1,.int .i64 1,.int .i64 (-1)])) (hg8:wb.grownBy W8 (Value.slice RA j rc).ownBlock)=>HR.out.app (l:=[⟨s,1,1,-1⟩]) (k:=1) rfl ho hg8)
   obtain ⟨FA,hFA⟩:∃ A,f.A = A:=⟨_,rfl⟩
   have HFA:=Lib.hid hFA
   rw [hFA] at hA ⊢
   subst hA
   clear hs hab hFA
   go_upto_region 7 with (first
    | (at_builtin;refine wpList_pushA wb [.int .i64 s,.int .i64 1,.int .i64 1,.int .i64 (-1)] (by rfl) (.tmp 31) (.tmp 34) 36 (by rfl) w2.heap.size 63 (.agg #[.int .i64 0,.int .i64 0,.int .i64 0,.int .i64 0]) 4 32 Try.underlying36 rm_info (by rfl) (by decide) (by rfl) (.slice RA j rc) j _ (by rfl) HR.out.row (by rfl) (fun z hz=>by simp at hz;rcases hz with rfl | rfl | rfl | rfl <;> rfl) (by omega) (by omega) hsz ?_;intro A8 c8 w8 ho8 hg8 _;obtain ⟨hM8,kA8⟩:=HP9.out w8 A8 c8 ho8 hg8;have HM8:=Lib.hid hM8;have e8:=kA8.cell (j:=2) rfl;have f8:=kA8.free 2;have l8:=kA8.lt;clear ho8 hg8 hM8 kA8)
    | fail)
   clear e8 f8 l8 e2
   rw [← HFK.out] at HM8
   generalize w8.setCell ⟨rb,2,none⟩ (.slice A8 (j + 1) c8) = w9 at HM8 ⊢
   have e3:=HM8.out.kx.cell (j:=3) rfl
   have f3:=HM8.out.kx.free 3
   have l3:=HM8.out.kx.lt
   have HM9:=Lib.hid (HM8.out.rank 1)
   go_wp2
   go_roundw
   case rel=>exact ⟨j + 1,_,_,1,rfl,by go_num,by omega,HM9⟩
   case measure=>simp [intOf];omega
  obtain rfl:j = f.n:=by omega
  have b2:¬ (f.n:Int) < (f.n:Int):=by omega
  have hfo:foK f.l f.n = foL p:=by
   unfold foK
   rw [List.take_of_length_le (by rw [HFL.out];exact Nat.le_refl _),foL_eq HM.out,HP.out]
  have hcl:clrL (List.replicate n true) f.l = rmv (List.replicate n true) (foL p):=by
   rw [foL_eq HM.out,HP.out]
   exact (clrL_rmv _ _ _ (fun _=>rfl)).symm
  rw [hfo,hcl] at HR
  have hkt:p.a.st.toNat = n:=by rw [HN.out];simp
  have hst9:=PrI.start HM.out
  have hpg:prvG p (n + 1 - 0) 2 (rmv (List.replicate n true) (foL p)) (foL p) = prvS p:=by unfold prvS;rw [hkt];rfl
  rw [hkt] at hst9
  have HPI:=Lib.hid hst9
  have HPG:=Lib.hid hpg
  clear hst9 hpg hkt hfo hcl
  generalize rmv (List.replicate n true) (foL p) = N0 at HR HPI HPG
  generalize foL p = R0 at HR HPI HPG
  obtain ⟨PS,hPS⟩:∃ q,prvS p = q:=⟨_,rfl⟩
  rw [hPS] at HPG
  have HPS:=Lib.hid hPS
  have hjk:f.n ≤ 4096:=hfn
  clear hPS
  obtain ⟨m0,hm0⟩:∃ m,f.n = m:=⟨_,rfl⟩
  rw [hm0] at HR hjk
  clear hm0
  go_upto_region 11 with fail
  go_loopw [13,14,16] (fun s13 s14 s16 wr=>∃ (r m:Nat) (v14 v16 Rv:Value) (N:List Bool) (R:List Rm) (rk:Int),s13 = .int .i64 (r:Int)∧s14 = v14∧s16 = v16∧2 ≤ r∧r ≤ n + 2∧m ≤ 4096∧Hid (ReM w1 x u pb o lb n mm g w2 wr rb Rv m R rk N)∧Hid (PrI p (r:Int) N R)∧Hid (prvG p (n + 1 - (r - 2)) (r:Int) N R = PS)) (fun s13 _ _ _=>5000 - (intOf s13).toNat)
  case atStart=>exact ⟨2,m0,_,_,_,N0,R0,rk,rfl,rfl,rfl,Nat.le_refl _,by omega,hjk,HR,HPI,HPG⟩
  case round =>
   clear HR HPI HPG hjk
   obtain ⟨r,m,v14,v16,Rv,N,R,rk,rfl,rfl,rfl,hr2,hrk,hm4,HR,HPI,HPG⟩:=hrel
   obtain ⟨wc,rfl⟩:∃ z,z = wr:=⟨_,rfl⟩
   have HNC:=Lib.hid (syn_next x u f.l pb o lb n mm g N w1 wc (HX.out wc HR.out.bel) (HU.out wc HR.out.bel) HWF.out HNX.out HR.out.st (r:Int))
   rw [← HP.out] at HNC
   go_wp2_with fail
   refine HNC.out.mono ?_
   rintro _ wd ⟨v,n1,rfl,hl1,ho1,hbd⟩
   obtain ⟨A1,c1,rfl⟩:=own_shape ho1
   have HR1:=Lib.hid (HR.out.quiet hbd)
   have HO1:=Lib.hid ho1
   have HL1:=Lib.hid hl1
   have hwsz:wc.heap.size ≤ wd.heap.size:=hbd.size
   clear HNC ho1 hbd HR
   obtain ⟨L,hL⟩:∃ L,rndS p N (r:Int) = L:=⟨_,rfl⟩
   rw [hL] at HO1 HL1 hl1
   rcases Nat.eq_zero_or_pos n1 with h0 | h0
   case inl =>
    have hle:L = []:=List.eq_nil_of_length_eq_zero (by rw [hl1];exact h0)
    have HPE:=Lib.hid (prv_end HM.out HN.out HPI.out hr2 (hL.trans hle) HPG.out)
    have h0':((n1:Int) == 0) = true:=by simp [h0]
    have h0'':(n1:Int) = 0:=by omega
    have H00:=Lib.hid h0''
    clear hl1 hle hL h0 h0'' HPG HO1 HL1
    go_upto_region 20 with fail
    have HSR:=Lib.hid (syn_sort_any w2.heap.size m Rv R wd HR1.out.row HR1.out.rl (fun y hy=>by
     have h9:=HPI.out.rng y hy
     rw [HN.out] at h9
     omega) (by omega))
    obtain ⟨RA,rc,rfl⟩:=own_shape HR1.out.row
    have d1:=HR1.out.kx.cell (j:=2) rfl
    go_wp2_with fail
    refine HSR.out.mono ?_
    rintro _ we ⟨rfl,R',hpm,hpw,ho,hg⟩
    have HSE:=Lib.hid (srt_list (p:=p) hpm hpw HPI.out.uni HPI.out.rng)
    have HR2:=Lib.hid (HR1.out.srt (by rw [hpm.length_eq];exact HR1.out.rl) ho hg)
    clear d1 HSR hpm hpw ho hg HR1
    have HDC:=Lib.hid (syn_distances x u pb o lb n mm g N w1 we (HX.out we HR2.out.bel) HWF.out HNX.out HR2.out.st)
    go_wp2_with fail
    refine HDC.out.mono ?_
    rintro _ wf ⟨ob,rfl,hkd,hob,hb6⟩
    have hdl:=(dsS_spec (es:=x.a.ed) (N:=N) (ma:=x.a.ma) (fun y hy=>by
     have h7:=HR2.out.st.nl
     have h9:=HWF.out.ev_rng hy
     have h8:=HNX.out
     rw [h7];omega) (fun s hs=>by
     have h7:=HR2.out.st.nl
     have h9:=HWF.out.mrng s hs
     rw [HNX.out] at h9
     rw [h7];exact h9) (HWF.out.minc.imp (fun h=>by omega))).1
    rw [HR2.out.st.nl] at hdl
    have HKH:=Lib.hid (show ReK w1 x u pb o lb n w2 wf wf rb ob N (dsS x.a.ed N x.a.ma).1 (.slice RA m rc) m R' rk (.slice none 0 0) (.slice none 0 0) 0 0 [] [] from by
     have hp:=HR2.out.quiet hb6
     exact ⟨hp.bel,Nat.le_refl _,hp.st.kp,hp.st.kl,hkd,hp.kx,hp.row,World.ownsRow_nil _ _ _ _,World.ownsRow_nil _ _ _ _,(fun g e=>by cases e),hkd.lt,hp.bel.size,Nat.le_trans hp.l2 hp.lr,hp.st.nl⟩)
    have HRL:=Lib.hid HR2.out.rl
    clear HDC hkd hob hb6 HR2
    obtain ⟨D,hD⟩:∃ D,(dsS x.a.ed N x.a.ma).1 = D:=⟨_,rfl⟩
    rw [hD] at hdl HKH
    have HDL:=Lib.hid hdl
    have HDD:=Lib.hid hD
    clear hD hdl
    go_wp2
    go_loopw [17,18,79] (fun s17 s18 s79 wr=>∃ (j q:Nat) (v17 v18 v1 v2:Value),s17 = v17∧s18 = v18∧s79 = .int .i64 j∧j ≤ n∧q ≤ j∧Hid ((onJ N j).length = q)∧Hid (ReK w1 x u pb o lb n w2 wf wr rb ob N D (.slice RA m rc) m R' rk v1 v2 q q (onJ N j) ((onJ N j).map (gI D)))) (fun _ _ s79 _=>n - (intOf s79).toNat)
    case atStart=>exact ⟨0,0,_,_,_,_,rfl,rfl,rfl,Nat.zero_le _,Nat.zero_le _,Lib.hid rfl,HKH⟩
    case round =>
     clear HKH
     obtain ⟨j,q,v17,v18,v1,v2,rfl,rfl,rfl,hj,hqj,HQL,HKH⟩:=hrel
     obtain ⟨wg,rfl⟩:∃ z,z = wr:=⟨_,rfl⟩
     obtain ⟨A8,c8,rfl⟩:=own_shape HKH.out.o1
     obtain ⟨A9,c9,rfl⟩:=own_shape HKH.out.o2
     by_cases hlt:j < n
     case pos =>
      have b3:(j:Int) < (n:Int):=by omega
      obtain ⟨b,hb⟩:∃ b,N[j]? = some b:=⟨_,List.getElem?_eq_getElem (by rw [HKH.out.nl];exact hlt)⟩
      have d4:=HKH.out.kp.cell (j:=6) rfl
      have d5:wg.cell? ⟨lb,j,none⟩ = some (.bool b):=HKH.out.kl.cell (by rw [bvl_get,hb];rfl)
      have HOJ:=Lib.hid (onJ_snoc hb)
      obtain ⟨dv,hdv⟩:∃ z,gI D (j:Int) = z:=⟨_,rfl⟩
      have HDV:=Lib.hid hdv
      have d6:wg.cell? ⟨ob,j,none⟩ = some (.int .i64 dv):=by rw [← hdv];exact HKH.out.kd.cell (iv_gI (by rw [HDL.out];exact hlt))
      clear hb hdv
      cases b with
      | false =>
       have HOE:=Lib.hid (show onJ N (j + 1) = onJ N j by rw [HOJ.out,if_neg (by simp),List.append_nil])
       go_wp2
       go_roundw
       case rel=>exact ⟨j + 1,q,_,_,_,_,rfl,rfl,by go_num,by omega,by omega,by rw [HOE.out];exact HQL,by rw [HOE.out];exact HKH⟩
       case measure=>simp [intOf];omega
      | true =>
       have HOE:=Lib.hid (show onJ N (j + 1) = onJ N j ++ [(j:Int)] by rw [HOJ.out,if_pos rfl])
       have d7:=HKH.out.kx.cell (j:=0) rfl
       have hsz:=HKH.out.siz
       go_upto_region 26 with (first
        | (at_builtin;refine wpList_pushA wg [.int .i64 (j:Int)] (by rfl) (.tmp 93) (.tmp 95) 29 (by rfl) wf.heap.size 3 (.int .i64 0) 1 8 Try.underlying29 int_info (by rfl) (by decide) (by rfl) (.slice A8 q c8) q _ (by rfl) HKH.out.o1 (by rfl) (fun z hz=>by simp at hz;subst hz;rfl) (by omega) (by omega) hsz ?_;intro A6 c6 w7 ho6 hg6 hl6;obtain ⟨hkh,k7⟩:=HKH.out.push1 ho6 hg6 hl6;have HK6:=Lib.hid hkh;have e8:=k7.cell (j:=0) rfl;have f8:=k7.free 0;have l8:=k7.lt;clear ho6 hg6 hl6 hkh k7)
        | fail)
       clear d4 d5 d6 d7 e8 f8 l8
       generalize w7.setCell ⟨rb,0,none⟩ (.slice A6 (q + 1) c6) = w8 at HK6 ⊢
       have d7:=HK6.out.kx.cell (j:=1) rfl
       have hsz8:=HK6.out.siz
       go_wp2_with (first
        | (at_builtin;refine wpList_pushA w8 [.int .i64 dv] (by rfl) (.tmp 101) (.tmp 103) 29 (by rfl) wf.heap.size 3 (.int .i64 0) 1 8 Try.underlying29 int_info (by rfl) (by decide) (by rfl) (.slice A9 q c9) q _ (by rfl) HK6.out.o2 (by rfl) (fun z hz=>by simp at hz;subst hz;rfl) (by omega) (by omega) hsz8 ?_;intro A7 c7 w9 ho7 hg7 hl7;obtain ⟨hkh,k7⟩:=HK6.out.push2 ho7 hg7 hl7;have HK7:=Lib.hid hkh;have e8:=k7.cell (j:=1) rfl;have f8:=k7.free 1;have l8:=k7.lt;clear ho7 hg7 hl7 hkh k7)
        | fail)
       have HQ9:=Lib.hid (show (onJ N (j + 1)).length = q + 1 by rw [HOE.out,List.length_append,HQL.out];rfl)
       have HK9:=Lib.hid (show ReK w1 x u pb o lb n w2 wf (w9.setCell ⟨rb,1,none⟩ (.slice A7 (q + 1) c7)) rb ob N D (.slice RA m rc) m R' rk (.slice A6 (q + 1) c6) (.slice A7 (q + 1) c7) (q + 1) (q + 1) (onJ N (j + 1)) ((onJ N (j + 1)).map (gI D)) by
        rw [HOE.out,List.map_append,show [(j:Int)].map (gI D) = [dv] by rw [← HDV.out];rfl]
        exact HK7.out)
       go_roundw
       case rel=>exact ⟨j + 1,q + 1,_,_,_,_,rfl,rfl,by go_num,by omega,by omega,HQ9,HK9⟩
       case measure=>simp [intOf];omega
     obtain rfl:j = n:=by omega
     have b3:¬ (j:Int) < (j:Int):=by omega
     have HSV:=Lib.hid (syn_supervisor x u pb o lb j N wg (HX.out wg HKH.out.bel) HWF.out HNX.out HKH.out.kp HKH.out.kl HKH.out.nl)
     go_wp2_with fail
     refine HSV.out.mono ?_
     rintro _ wh ⟨y,OA,on,oc,rfl,hy,hya,hbh⟩
     rw [show avc y = [.slice y.A y.na y.ca,.int .i64 y.a.st,.slice y.M y.nm y.cm,.slice y.E y.ne y.ce] from rfl]
     have HK:=Lib.hid (HKH.out.below hbh)
     have HY:=Lib.hid hy
     have HYA:=Lib.hid hya
     have HRW:=Lib.hid (show rb < wg.heap.size from HKH.out.kx.lt)
     have HNL:=Lib.hid HKH.out.nl
     have HWG:=Lib.hid HKH.out.siz
     obtain ⟨ys,hys⟩:∃ z,y.a.st = z:=⟨_,rfl⟩
     have HYS:=Lib.hid hys
     rw [hys]
     clear HSV hy hya hbh HKH hys
     have hkx:=HK.out.kx
     have e4:=hkx.cell (j:=4) rfl
     have e5:=hkx.cell (j:=5) rfl
     have e6:=hkx.cell (j:=6) rfl
     have e7:=hkx.cell (j:=7) rfl
     have e8:=hkx.cell (j:=8) rfl
     have f4:=hkx.free 4
     have f5:=hkx.free 5
     have f6:=hkx.free 6
     have f7:=hkx.free 7
     have f8:=hkx.free 8
     have l8:=hkx.lt
     have HKX9:=Lib.hid (((((hkx.set (j:=4) (by simp [resc]) (.slice y.A y.na y.ca)).set (j:=5) (by simp [resc]) (.int .i64 ys)).set (j:=6) (by simp [resc]) (.slice y.M y.nm y.cm)).set (j:=7) (by simp [resc]) (.slice y.E y.ne y.ce)).set (j:=8) (by simp [resc]) (.slice OA on oc))
     have HG9:=Lib.hid (((((grown_setCell wh rb 4 (.slice y.A y.na y.ca)).trans (grown_setCell _ _ 5 (.int .i64 ys))).trans (grown_setCell _ _ 6 (.slice y.M y.nm y.cm))).trans (grown_setCell _ _ 7 (.slice y.E y.ne y.ce))).trans (grown_setCell _ _ 8 (.slice OA on oc)))
     clear hkx
     go_upto_region 29 with fail
     clear e4 e5 e6 e7 e8 f4 f5 f6 f7 f8 l8
     have hB9:=HK.out.bel.grown HG9.out HK.out.bel.size (fun b hb=>by injection hb with hb;have h1:=HK.out.lr;omega)
     have HB9:=Lib.hid hB9
     have HO1:=Lib.hid (HK.out.o1.kept HG9.out (own_ne_blk HK.out.o1 HK.out.kx (by decide)))
     have HO2:=Lib.hid (HK.out.o2.kept HG9.out (own_ne_blk HK.out.o2 HK.out.kx (by decide)))
     have HO3:=Lib.hid (HK.out.row.kept HG9.out (own_ne_blk HK.out.row HK.out.kx (by decide)))
     have HLB:=Lib.hid (And.intro HK.out.lr HK.out.l6)
     have HYQ:=Lib.hid (show AutQ ((((((wh.setCell ⟨rb,4,none⟩ (.slice y.A y.na y.ca)).setCell ⟨rb,5,none⟩ (.int .i64 ys)).setCell ⟨rb,6,none⟩ (.slice y.M y.nm y.cm)).setCell ⟨rb,7,none⟩ (.slice y.E y.ne y.ce)).setCell ⟨rb,8,none⟩ (.slice OA on oc))) wg.heap.size y from HY.out.low HG9.out HRW.out)
     clear hB9 HK HG9
     generalize (((((wh.setCell ⟨rb,4,none⟩ (.slice y.A y.na y.ca)).setCell ⟨rb,5,none⟩ (.int .i64 ys)).setCell ⟨rb,6,none⟩ (.slice y.M y.nm y.cm)).setCell ⟨rb,7,none⟩ (.slice y.E y.ne y.ce)).setCell ⟨rb,8,none⟩ (.slice OA on oc)) = wz at HKX9 HB9 HO1 HO2 HO3 HYQ ⊢
     have HK9:=Lib.hid (show Blk wz rb 81 [.slice A8 q c8,.slice A9 q c9,.slice RA m rc,.int .i64 rk,.slice y.A y.na y.ca,.int .i64 ys,.slice y.M y.nm y.cm,.slice y.E y.ne y.ce,.slice OA on oc] from HKX9.out)
     clear HKX9
     have HKZ:=Lib.hid (HKR.out wz HB9.out)
     have hrg:wz.rangeAt rb 0 [.slice A8 q c8,.slice A9 q c9,.slice RA m rc,.int .i64 rk,.slice y.A y.na y.ca,.int .i64 ys,.slice y.M y.nm y.cm,.slice y.E y.ne y.ce,.slice OA on oc]:=fun j v hj=>by rw [Nat.zero_add];exact HK9.out.cell hj
     have hth:=HKZ.out.there (o:=0) (n:=9) (by simp [resc])
     have hks:=HKZ.out.sets [.slice A8 q c8,.slice A9 q c9,.slice RA m rc,.int .i64 rk,.slice y.A y.na y.ca,.int .i64 ys,.slice y.M y.nm y.cm,.slice y.E y.ne y.ce,.slice OA on oc] (o:=0) (by simp [resc])
     have HKS:=Lib.hid (show Blk (wz.setCells (w.heap.size + 1) 0 [.slice A8 q c8,.slice A9 q c9,.slice RA m rc,.int .i64 rk,.slice y.A y.na y.ca,.int .i64 ys,.slice y.M y.nm y.cm,.slice y.E y.ne y.ce,.slice OA on oc]) (w.heap.size + 1) 81 [.slice A8 q c8,.slice A9 q c9,.slice RA m rc,.int .i64 rk,.slice y.A y.na y.ca,.int .i64 ys,.slice y.M y.nm y.cm,.slice y.E y.ne y.ce,.slice OA on oc]∧wz.grownBy (wz.setCells (w.heap.size + 1) 0 [.slice A8 q c8,.slice A9 q c9,.slice RA m rc,.int .i64 rk,.slice y.A y.na y.ca,.int .i64 ys,.slice y.M y.nm y.cm,.slice y.E y.ne y.ce,.slice OA on oc]) (some (w.heap.size + 1)) from ⟨hks.1,hks.2⟩)
     clear hks
     go_wp2_with (first
      | (refine wpList_load_mid (by rfl) 81 (.tmp 10) (by rfl) rb 0 (by rfl) [.slice A8 q c8,.slice A9 q c9,.slice RA m rc,.int .i64 rk,.slice y.A y.na y.ca,.int .i64 ys,.slice y.M y.nm y.cm,.slice y.E y.ne y.ce,.slice OA on oc] _ hrg Try.underlying81 (by rfl) res_size ?_)
      | (refine wpList_store_mid (by rfl) 81 (.tmp 8) (.tmp 115) (by rfl) (w.heap.size + 1) 0 #[.slice A8 q c8,.slice A9 q c9,.slice RA m rc,.int .i64 rk,.slice y.A y.na y.ca,.int .i64 ys,.slice y.M y.nm y.cm,.slice y.E y.ne y.ce,.slice OA on oc] (by rfl) (by rfl) hth res_size (by simp [Value.oneCell']) ?_;refine wpList_nil ?_;rename_i K9 hK9;refine hK9 _ _ ?_;apply wp_ret;refine bodyPost_ret (res_results (b:=w.heap.size + 1) rfl rfl rfl HKS.out.1) rfl ?_)
      | fail)
     have hlt:w.heap.size + 1 < w1.heap.size:=HLT.out
     have hl6:w.heap.size + 1 < wf.heap.size:=by have:=HLB.out.2;omega
     have hl2:w.heap.size + 1 < w2.heap.size:=by have:=HL2.out;omega
     have r1:=own_kept_low HO1.out HKS.out.2 hl6
     have r2:=own_kept_low HO2.out HKS.out.2 hl6
     have r3:=own_kept_low HO3.out HKS.out.2 hl2
     have hyq:=HYQ.out.low HKS.out.2 (by have:=HWG.out;omega)
     have hce:=prv_final HM.out (HPS.out.trans HPE.out) HNL.out HN.out (show (dsS p.a.ed N p.a.ma).1 = D by rw [HP.out];exact HDD.out) HSE.out
     refine ⟨⟨⟨A8,q,c8,onJ N j⟩,⟨A9,q,c9,(onJ N j).map (gI D)⟩,RA,m,rc,R'⟩,y,rk,OA,on,oc,by rw [HYS.out],⟨own_base r1 (by omega),HQL.out,own_base r2 (by omega),(by rw [List.length_map];exact HQL.out),own_base r3 (by omega),HRL.out⟩,hce,hyq.down (by have:=HWG.out;omega),?_,?_⟩
     ·rw [HYA.out,HP.out]
      rw [HP.out] at hce
      have h9:=congrArg Ce.kp hce
      rw [← h9]
      show rsA x.a (onF N) = rsA x.a (onJ N j)
      congr 1
      unfold onJ onF
      rw [HNL.out]
     ·exact (HB1.out wz HB9.out).grown HKS.out.2 (HB1.out wz HB9.out).size (fun b hb=>by injection hb with hb;omega)
   have h0':((n1:Int) == 0) = false:=by simp;omega
   have hs1:∀ y ∈ L,0 ≤ y.s∧y.s < (n:Int):=fun y hy=>by
    have h1:=HPI.out.len
    have h2:=HN.out
    rw [← hL] at hy
    have:=(rndS_in hy).1.1
    omega
   have HS1:=Lib.hid hs1
   have hn1:n1 ≤ n:=by
    rw [← hl1]
    exact incR_len (by rw [← hL];exact rndS_inc) hs1
   obtain ⟨q1,q2,q3,q4⟩:=prv_step HM.out HN.out HPI.out hr2 hL (fun e=>by rw [e] at hl1;simp at hl1;omega) HPG.out
   rw [List.length_append,hl1,HR1.out.rl] at q3
   have HPI2:=Lib.hid q1
   have HPG2:=Lib.hid q2
   clear q1 q2 hl1 hs1 hL h0 HPI HPG
   have HR2:=Lib.hid (show ReM w1 x u pb o lb n mm g w2 wd rb Rv m R rk (rmv N (L.take 0)) from HR1.out)
   clear HR1
   go_upto_region 14 with fail
   go_loopw [16,51] (fun s16 s51 wr=>∃ (k:Nat) (v16:Value),s16 = v16∧s51 = .int .i64 k∧k ≤ n1∧Hid (ReM w1 x u pb o lb n mm g w2 wr rb Rv m R rk (rmv N (L.take k)))∧Hid (wr.ownsRow wc.heap.size 63 4 (.slice A1 n1 c1) n1 (L.flatMap rmc))) (fun _ s51 _=>n1 - (intOf s51).toNat)
   case atStart=>exact ⟨0,_,rfl,rfl,Nat.zero_le _,HR2,HO1⟩
   case round =>
    clear HR2 HO1
    obtain ⟨k,v16,rfl,rfl,hk,HR,HO⟩:=hrel
    obtain ⟨we,rfl⟩:∃ z,z = wr:=⟨_,rfl⟩
    by_cases hlt:k < n1
    case pos =>
     have b3:(k:Int) < (n1:Int):=by omega
     obtain ⟨ad,y,rfl,hab,hr,hc⟩:=RdR.get (RdR.of_own (f:=rmc) (by omega) (fun _ _=>rfl) HO.out) (k:=k) (by rw [HL1.out];exact hlt)
     have g0:we.cell? (ad.add (k * 4)) = some (.int .i64 y.s):=hc 0 _ rfl
     have g1:we.cell? ⟨(ad.add (k * 4)).block,(ad.add (k * 4)).off + 1,none⟩ = some (.int .i64 y.k):=st_cells (j:=0) (hc 1 _ rfl)
     have g2:we.cell? ⟨(ad.add (k * 4)).block,(ad.add (k * 4)).off + 2,none⟩ = some (.int .i64 y.r):=st_cells (j:=1) (hc 2 _ rfl)
     have g3:we.cell? ⟨(ad.add (k * 4)).block,(ad.add (k * 4)).off + 3,none⟩ = some (.int .i64 y.e):=st_cells (j:=2) (hc 3 _ rfl)
     obtain ⟨s0,s1⟩:=HS1.out y (List.mem_of_getElem? hr)
     have hbx:=box_below we (.cells #[.int .i64 y.s,.int .i64 y.k,.int .i64 y.r,.int .i64 y.e] 63)
     have ke:Blk (we.alloc (.cells #[.int .i64 y.s,.int .i64 y.k,.int .i64 y.r,.int .i64 y.e] 63)) we.heap.size 63 [.int .i64 y.s,.int .i64 y.k,.int .i64 y.r,.int .i64 y.e]:=Blk.new _ _ [_,_,_,_]
     have HR5:=Lib.hid (HR.out.quiet hbx)
     have HO5:=Lib.hid (own_below HO.out hbx)
     have HRS:=Lib.hid (rmv_snoc (N:=N) hr)
     clear hc hab hr hbx HR HO
     go_upto_region 16 with fail
     clear g0 g1 g2 g3
     generalize we.heap.size = bx at ke ⊢
     generalize we.alloc (.cells #[.int .i64 y.s,.int .i64 y.k,.int .i64 y.r,.int .i64 y.e] 63) = w5 at ke HR5 HO5 ⊢
     have t1:¬ y.s < 0:=by omega
     have hsn:y.s.toNat < n:=by omega
     refine wp_region_U (fun W=>W.cell? ⟨pb,6,none⟩ = some (.slice (some ⟨lb,0,none⟩) n n)∧W.cell? ⟨bx,0,none⟩ = some (.int .i64 y.s)) (fun _=>True) 99 (by kernel_rfl) ?_
     change anyU _ _ _ _ _ _ _ 8 _ _ _
     have hB0:True:=trivial
     have HR6:=Lib.hid (HR5.out.quiet (below_dr w5))
     have HO6:=Lib.hid (own_below HO5.out (below_dr w5))
     have k6:=ke.below (below_dr w5) ke.lt
     clear ke HR5 HO5
     generalize w5.drew = w6 at HR6 HO6 k6 ⊢
     have hA0:=And.intro (HR6.out.st.kp.cell (j:=6) rfl) (k6.cell (j:=0) rfl)
     (refine uA 0 ?_ rfl hA0 hB0 (fun W hA=>?_) ?_;rotate_left;(· (go_simp;try with_reducible rfl));refine uA 1 ?_ rfl hA0 hB0 (fun W hA=>?_) ?_;rotate_left;(· (go_simp;try with_reducible rfl));refine uA 2 ?_ rfl hA0 hB0 (fun W hA=>?_) ?_;rotate_left;(· (go_simp;try with_reducible rfl));(try simp only [Act.put,List.setIfInBounds_toArray,List.set_cons_zero,List.set_cons_succ]))
     (refine uA 3 ?_ rfl hA0 hB0 (fun W hA=>?_) ?_;rotate_left;(· (obtain ⟨a0,a1⟩:=hA;go_simp;try with_reducible rfl));(try simp only [Act.put,List.setIfInBounds_toArray,List.set_cons_zero,List.set_cons_succ]))
     (refine uA 4 ?_ rfl hA0 hB0 (fun W hA=>?_) ?_;rotate_left;(· (go_simp;try with_reducible rfl));(try simp only [Act.put,List.setIfInBounds_toArray,List.set_cons_zero,List.set_cons_succ]))
     (refine uA 5 ?_ rfl hA0 hB0 (fun W hA=>?_) ?_;rotate_left;(· (obtain ⟨a0,a1⟩:=hA;go_simp;try with_reducible rfl));(try simp only [Act.put,List.setIfInBounds_toArray,List.set_cons_zero,List.set_cons_succ]))
     (refine uA 6 ?_ rfl hA0 hB0 (fun W hA=>?_) ?_;rotate_left;(· (go_simp;try with_reducible rfl));(try simp only [Act.put,List.setIfInBounds_toArray,List.set_cons_zero,List.set_cons_succ]))
     refine uOne (i:=7) rfl (by kernel_rfl) (fun K hK=>?_)
     obtain ⟨z,hz⟩:∃ z,(bvl (rmv N (L.take k)))[y.s.toNat]? = some z:=⟨_,List.getElem?_eq_getElem (by rw [bvl_length,HR6.out.st.nl];exact hsn)⟩
     have e2:=HR6.out.st.kl.cell hz
     have f2:=HR6.out.st.kl.free y.s.toNat
     have l2:=HR6.out.st.kl.lt
     go_simp
     have HR7:=Lib.hid (show ReM w1 x u pb o lb n mm g w2 (w6.setCell ⟨lb,y.s.toNat,none⟩ (.bool false)) rb Rv m R rk (rmv N (L.take (k + 1))) from by rw [HRS.out];exact HR6.out.clr hsn)
     have HO7:=Lib.hid (HO6.out.kept (grown_setCell w6 lb y.s.toNat (.bool false)) (own_ne_blk HO6.out HR6.out.st.kl (by decide)))
     have k7:=k6.kept (grown_setCell w6 lb y.s.toNat (.bool false)) (fun e=>by injection e with e;exact blk_apart k6 HR6.out.st.kl (by decide) e)
     have hA1:=And.intro (HR7.out.st.kp.cell (j:=6) rfl) (k7.cell (j:=0) rfl)
     (refine hK _ _ ⟨hA1,fun _=>hB0⟩ ?_;clear hK K;(try simp only [Act.put,List.setIfInBounds_toArray,List.set_cons_zero,List.set_cons_succ]))
     refine anyU_done (by kernel_rfl) ?_ _
     clear hA0 hA1 hB0 hz e2 f2 l2 k6 k7
     go_wp2
     go_roundw
     case rel=>exact ⟨k + 1,_,rfl,by go_num,by omega,HR7,HO7⟩
     case measure=>simp [intOf];omega
    obtain rfl:k = n1:=by omega
    have b3:¬ (k:Int) < (k:Int):=by omega
    have HR3:=Lib.hid (show ReM w1 x u pb o lb n mm g w2 we rb Rv m R rk (rmv N L) from by
     have h:=HR.out
     rw [List.take_of_length_le (by rw [HL1.out];exact Nat.le_refl _)] at h
     exact h)
    clear HR
    obtain ⟨RA,rc,rfl⟩:=own_shape HR3.out.row
    have e2:=HR3.out.kx.cell (j:=2) rfl
    have hsz:=HR3.out.siz
    have HRX:=Lib.hid (RdR.of_own (f:=rmc) (by omega) (fun _ _=>rfl) HO.out)
    have HP9:=Lib.hid (fun (W8:World) (A8:Option Addr) (c8:Nat) (ho:W8.ownsRow w2.heap.size 63 4 (.slice A8 (m + k) c8) (m + k) (R.flatMap rmc ++ L.flatMap rmc)) (hg8:we.grownBy W8 (Value.slice RA m rc).ownBlock)=>HR3.out.app HL1.out ho hg8)
    go_upto_region 19 with (first
     | (at_builtin;refine wpList_appN rmc 4 (by omega) (fun _=>rfl) we (by rfl) (.tmp 65) (.tmp 66) 36 (by rfl) w2.heap.size 63 (.agg #[.int .i64 0,.int .i64 0,.int .i64 0,.int .i64 0]) 32 Try.underlying36 rm_info (by rfl) (.slice RA m rc) m _ (by rfl) HR3.out.row _ A1 k c1 L HL1.out (by rfl) HRX.out (rmc_one L) (by omega) (by omega) hsz ?_;intro v7 w8 ho8 hg8;obtain ⟨A8,c8,rfl⟩:=own_shape ho8;obtain ⟨hM8,kA8⟩:=HP9.out w8 A8 c8 ho8 hg8;have HM8:=Lib.hid hM8;have e8:=kA8.cell (j:=2) rfl;have f8:=kA8.free 2;have l8:=kA8.lt;clear ho8 hg8 hM8 kA8)
     | fail)
    clear e8 f8 l8 e2
    generalize w8.setCell ⟨rb,2,none⟩ (.slice A8 (m + k) c8) = w9 at HM8 ⊢
    have e3:=HM8.out.kx.cell (j:=3) rfl
    have f3:=HM8.out.kx.free 3
    have l3:=HM8.out.kx.lt
    have HM9:=Lib.hid (HM8.out.rank (r:Int))
    go_wp2
    go_roundw
    case rel=>exact ⟨r + 1,m + k,_,_,_,_,_,_,by go_num,rfl,rfl,by omega,q4,by omega,HM9,HPI2,HPG2⟩
    case measure=>simp [intOf];omega
end Go.Proofs.Ytdnmpndnpfklcaa

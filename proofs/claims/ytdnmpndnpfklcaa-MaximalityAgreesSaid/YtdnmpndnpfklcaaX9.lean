/- The law's Known of chapter 28. -/
import Derived.Test.YtdnmpndnpfklcaaBl
import Derived.Test.YtdnmpndnpfklcaaX1
import Derived.Test.YtdnmpndnpfklcaaIv
import Derived.Test.YtdnmpndnpfklcaaXz
import Derived.Test.YtdnmpndnpfklcaaBc
import Derived.Test.YtdnmpndnpfklcaaBj
import Derived.Test.YtdnmpndnpfklcaaX8

namespace Go.Proofs.Ytdnmpndnpfklcaa
open Go.RowKit Go Go.Maps
theorem law_Known28 (w:World):Calls Try.prog 10 #[] w fun e w'=>e = .returned (.bool true)∧Below w.heap.size w w':=by
 have HK:=Lib.hid (law_known28 w)
 go_enter Try.func10,Try.ntmps10
 go_wp2_with fail
 refine HK.out.mono ?_
 rintro e w1 ⟨rfl,hb1⟩
 have HB1:=Lib.hid hb1
 have HJ:=Lib.hid (law_Known04 w1)
 clear HK hb1
 go_wp2_with fail
 refine HJ.out.mono ?_
 rintro e w2 ⟨rfl,hb2⟩
 have HB2:=Lib.hid (HB1.out.trans (hb2.mono HB1.out.size))
 clear HJ hb2
 go_wp2
 go_ret
 exact ⟨rfl,HB2.out⟩
end Go.Proofs.Ytdnmpndnpfklcaa
/- The law MaximalityFewer: its walk. -/
namespace Go.Proofs.Ytdnmpndnpfklcaa
open Go.RowKit Go Go.Maps
end Go.Proofs.Ytdnmpndnpfklcaa

/- The law's proved. -/
namespace Go.Proofs.Ytdnmpndnpfklcaa
open Go.RowKit Go Go.Maps
theorem prvC_few {p:Mx} (hp:p.ok):(prvC p).rm.length ≤ 1000000:=by
 have f:=(prvC_ok hp).1
 have h1:=hp.wf.st1
 have h0:=hp.wf.st0
 have h2:((prvC p).rm.map (·.s)).length ≤ p.a.st.toNat:=inc_len (by
  unfold Inc
  rw [List.pairwise_map]
  exact f.rinc) (fun x hx=>by
  obtain ⟨r,hr,rfl⟩:=List.mem_map.1 hx
  have:=f.rrng r hr
  omega)
 rw [List.length_map] at h2
 omega
end Go.Proofs.Ytdnmpndnpfklcaa

/- Walks of synthesis.Check and Synthesize, and of the law MaximalityAgrees. -/
namespace Go.Proofs.Ytdnmpndnpfklcaa
open Go.RowKit Go Go.Maps
set_option maxHeartbeats 1600000 in
theorem syn_Check (x:AV) (u f:IV) (w:World) (hx:x.ok w w.heap.size) (hu:u.ok w w.heap.size) (hf:f.ok w w.heap.size) (hm:(Mx.mk x.a u.l f.l).ok) :
  Calls Try.prog 77 #[.agg #[.slice x.A x.na x.ca,.int .i64 x.a.st,.slice x.M x.nm x.cm,.slice x.E x.ne x.ce],.slice f.A f.n f.c,.slice u.A u.n u.c] w fun e w'=>e = .returned (.int .i64 0)∧Below w.heap.size w w':=by
 have hb1:=box_below w (.cells #[.slice x.A x.na x.ca,.int .i64 x.a.st,.slice x.M x.nm x.cm,.slice x.E x.ne x.ce] 32)
 have kx:=Blk.new w 32 [.slice x.A x.na x.ca,.int .i64 x.a.st,.slice x.M x.nm x.cm,.slice x.E x.ne x.ce]
 obtain ⟨w1,hw1⟩:∃ w1,w1 = w.alloc (.cells #[.slice x.A x.na x.ca,.int .i64 x.a.st,.slice x.M x.nm x.cm,.slice x.E x.ne x.ce] 32):=⟨_,rfl⟩
 have kx':Blk w1 w.heap.size 32 [.slice x.A x.na x.ca,.int .i64 x.a.st,.slice x.M x.nm x.cm,.slice x.E x.ne x.ce]:=by rw [hw1];exact kx
 rw [← hw1] at hb1
 have HK:=Lib.hid (fun (W:World) (hb:Below w1.heap.size w1 W)=>Blk.c4 (kx'.below hb kx'.lt))
 have HC:=Lib.hid (automaton_Check x.A x.na x.ca x.M x.nm x.cm x.E x.ne x.ce x.a w1 (AutR.more (AutR.below hx hb1) hb1.size))
 rw [show chkA x.a = 0 from hm.wf.chk] at HC
 have HU:=Lib.hid (fun (W:World) (hb:Below w1.heap.size w1 W)=>alphabet_CheckSet_n u.A u.c u.n u.l 32 0 W hu.la (setErr_fit hm.uinc hm.urng) ((hu.below (hb1.trans (hb.mono hb1.size))).more (hb1.trans (hb.mono hb1.size)).size).ra hu.ac hu.cA)
 have HF:=Lib.hid (fun (W:World) (hb:Below w1.heap.size w1 W)=>alphabet_CheckSet_n f.A f.c f.n f.l x.a.st 0 W hf.la (setErr_fit hm.finc hm.frng) ((hf.below (hb1.trans (hb.mono hb1.size))).more (hb1.trans (hb.mono hb1.size)).size).ra hf.ac hf.cA)
 have HB:=Lib.hid hb1
 have HW:=Lib.hid hw1
 obtain ⟨a0,a1,a2,a3⟩:=HK.out w1 (Below.refl _ _)
 clear hx hu hf hm kx kx' hb1 hw1
 obtain ⟨sv,hsv⟩:∃ s,x.a.st = s:=⟨_,rfl⟩
 rw [hsv] at HK HC HF HW a1 ⊢
 clear hsv
 go_enter Try.func77,Try.ntmps77
 go_upto_region 1 with fail
 rw [← HW.out]
 go_wp2_with fail
 refine HC.out.mono ?_
 rintro _ w2 ⟨rfl,hb2⟩
 have HB2:=Lib.hid hb2
 clear a0 a1 a2 a3 HC
 obtain ⟨a0,a1,a2,a3⟩:=HK.out w2 hb2
 clear hb2
 go_wp2_with fail
 refine (HF.out w2 HB2.out).mono ?_
 rintro _ w3 ⟨rfl,rfl⟩
 go_wp2_with fail
 refine (HU.out w2 HB2.out).mono ?_
 rintro _ w3 ⟨rfl,rfl⟩
 go_wp2
 go_ret
 exact ⟨rfl,HB.out.trans (HB2.out.mono HB.out.size)⟩
theorem res_results2 {fn:Func} {tmps:Array Value} {k k2 b:Nat} {w:World} {vs:List Value} {v2:Value} (hl:vs.length = 9) (hr:fn.results = #[.cell k 81,.tmp k2]) (ht:tmps.getD k undef = .pointer (some ⟨b,0,none⟩)) (ht2:tmps.getD k2 undef = v2) (hk:Blk w b 81 vs) :
  (results fn tmps).run Try.prog w = .ok (.tuple #[.agg vs.toArray,v2]) w:=by
 have ht':tmps[k]?.getD undef = .pointer (some ⟨b,0,none⟩):=by simpa using ht
 have ht2':tmps[k2]?.getD undef = v2:=by simpa using ht2
 have h:=run_loadVar_mid (P:=Try.prog) w b 0 81 vs _ (fun j v hv=>by rw [Nat.zero_add];exact hk.cell hv) Try.underlying81 rfl (by rw [hl];exact res_size)
 simp [results,hr,ht',ht2',h,asAddr]
def RetSyz (p:Mx) (w:World) (e:Ending) (w':World):Prop:=∃ (c:CV) (y:AV) (rk:Int) (OA:Option Addr) (on oc:Nat),
 e = .returned (.tuple #[.agg #[.slice c.k.A c.k.n c.k.c,.slice c.d.A c.d.n c.d.c,.slice c.R c.rn c.rc,.int .i64 rk,.slice y.A y.na y.ca,.int .i64 y.a.st,.slice y.M y.nm y.cm,.slice y.E y.ne y.ce,.slice OA on oc],.int .i64 0])∧CVQ w' w.heap.size c∧c.ce = prvC p∧AutQ w' w.heap.size y∧y.a = rsA p.a (prvC p).kp∧Below w.heap.size w w'
set_option maxRecDepth 100000 in
set_option maxHeartbeats 6400000 in
theorem syn_Synthesize (x:AV) (u f:IV) (n:Nat) (w:World) (hx:x.ok w w.heap.size) (hu:u.ok w w.heap.size) (hf:f.ok w w.heap.size) (hm:(Mx.mk x.a u.l f.l).ok) (hn:x.a.st = (n:Int)) :
  Calls Try.prog 33 #[.agg #[.slice x.A x.na x.ca,.int .i64 (n:Int),.slice x.M x.nm x.cm,.slice x.E x.ne x.ce],.slice f.A f.n f.c,.slice u.A u.n u.c] w (RetSyz ⟨x.a,u.l,f.l⟩ w):=by
 have hb1:=box_below w (.cells #[.slice x.A x.na x.ca,.int .i64 (n:Int),.slice x.M x.nm x.cm,.slice x.E x.ne x.ce] 32)
 have k0:=Blk.new w 32 [.slice x.A x.na x.ca,.int .i64 (n:Int),.slice x.M x.nm x.cm,.slice x.E x.ne x.ce]
 obtain ⟨wa,hwa⟩:∃ w1,w1 = w.alloc (.cells #[.slice x.A x.na x.ca,.int .i64 (n:Int),.slice x.M x.nm x.cm,.slice x.E x.ne x.ce] 32):=⟨_,rfl⟩
 have k0':Blk wa w.heap.size 32 [.slice x.A x.na x.ca,.int .i64 (n:Int),.slice x.M x.nm x.cm,.slice x.E x.ne x.ce]:=by rw [hwa];exact k0
 rw [← hwa] at hb1
 have hsa:wa.heap.size = w.heap.size + 1:=by rw [hwa];simp
 have hb2:=box_below wa (.cells #[.slice none 0 0,.slice none 0 0,.slice none 0 0,.int .i64 0,.slice none 0 0,.int .i64 0,.slice none 0 0,.slice none 0 0,.slice none 0 0] 81)
 have k02:=k0'.below hb2 k0'.lt
 have k1:=Blk.new wa 81 (resc (.slice none 0 0) (.slice none 0 0) (.slice none 0 0) 0)
 rw [hsa] at k1
 obtain ⟨w1,hw1⟩:∃ w1,w1 = wa.alloc (.cells #[.slice none 0 0,.slice none 0 0,.slice none 0 0,.int .i64 0,.slice none 0 0,.int .i64 0,.slice none 0 0,.slice none 0 0,.slice none 0 0] 81):=⟨_,rfl⟩
 have k1':Blk w1 (w.heap.size + 1) 81 (resc (.slice none 0 0) (.slice none 0 0) (.slice none 0 0) 0):=by rw [hw1];exact k1
 rw [← hw1] at hb2 k02
 have hb12:=hb1.trans (hb2.mono hb1.size)
 have HB1:=Lib.hid (fun (W:World) (hb:Below w1.heap.size w1 W)=>hb12.trans (hb.mono hb12.size))
 have HX:=Lib.hid (fun (W:World) (hb:Below w1.heap.size w1 W)=>(AutR.below hx (hb12.trans (hb.mono hb12.size))).more (hb12.trans (hb.mono hb12.size)).size)
 have HU:=Lib.hid (fun (W:World) (hb:Below w1.heap.size w1 W)=>(hu.below (hb12.trans (hb.mono hb12.size))).more (hb12.trans (hb.mono hb12.size)).size)
 have HF:=Lib.hid (fun (W:World) (hb:Below w1.heap.size w1 W)=>(hf.below (hb12.trans (hb.mono hb12.size))).more (hb12.trans (hb.mono hb12.size)).size)
 have HK0:=Lib.hid (fun (W:World) (hb:Below w1.heap.size w1 W)=>Blk.c4 (k02.below hb k02.lt))
 have HKR:=Lib.hid (fun (W:World) (hb:Below w1.heap.size w1 W)=>k1'.below hb k1'.lt)
 have HLT:=Lib.hid (show w.heap.size + 1 < w1.heap.size from k1'.lt)
 have HW1:=Lib.hid (show (w.alloc (.cells #[.slice x.A x.na x.ca,.int .i64 (n:Int),.slice x.M x.nm x.cm,.slice x.E x.ne x.ce] 32)).alloc (.cells #[.slice none 0 0,.slice none 0 0,.slice none 0 0,.int .i64 0,.slice none 0 0,.int .i64 0,.slice none 0 0,.slice none 0 0,.slice none 0 0] 81) = w1 by rw [hw1,hwa])
 have HCK:=Lib.hid (syn_Check x u f w1 (HX.out w1 (Below.refl _ _)) (HU.out w1 (Below.refl _ _)) (HF.out w1 (Below.refl _ _)) hm)
 rw [hn] at HCK
 have HRS:=Lib.hid (fun (W:World) (hb:Below w1.heap.size w1 W)=>syn_result x u f n W (HX.out W hb) (HU.out W hb) (HF.out W hb) hm hn)
 obtain ⟨a0,a1,a2,a3⟩:=HK0.out w1 (Below.refl _ _)
 clear hx hu hf hm hn hb1 hb2 hb12 k0 k0' k02 k1 k1' hwa hw1 hsa
 go_enter Try.func33,Try.ntmps33
 go_upto_region 1 with fail
 rw [HW1.out]
 clear HW1
 go_wp2_with fail
 refine HCK.out.mono ?_
 rintro _ w2 ⟨rfl,hb2⟩
 have HB2:=Lib.hid hb2
 clear a0 a1 a2 a3 HCK hb2
 obtain ⟨a0,a1,a2,a3⟩:=HK0.out w2 HB2.out
 go_wp2_with fail
 refine (HRS.out w2 HB2.out).mono ?_
 rintro _ wz ⟨c,y,rk,OA,on,oc,rfl,hc,hce,hy,hya,hbz⟩
 clear a0 a1 a2 a3 HRS
 have hbz1:=HB2.out.trans (hbz.mono HB2.out.size)
 have hw12:=HB2.out.size
 have hkz:=HKR.out wz hbz1
 have hth:=hkz.there (o:=0) (n:=9) (by simp [resc])
 have hks:=hkz.sets [.slice c.k.A c.k.n c.k.c,.slice c.d.A c.d.n c.d.c,.slice c.R c.rn c.rc,.int .i64 rk,.slice y.A y.na y.ca,.int .i64 y.a.st,.slice y.M y.nm y.cm,.slice y.E y.ne y.ce,.slice OA on oc] (o:=0) (by simp [resc])
 have hlt:=HLT.out
 have HKS:=Lib.hid (show Blk (wz.setCells (w.heap.size + 1) 0 [.slice c.k.A c.k.n c.k.c,.slice c.d.A c.d.n c.d.c,.slice c.R c.rn c.rc,.int .i64 rk,.slice y.A y.na y.ca,.int .i64 y.a.st,.slice y.M y.nm y.cm,.slice y.E y.ne y.ce,.slice OA on oc]) (w.heap.size + 1) 81 [.slice c.k.A c.k.n c.k.c,.slice c.d.A c.d.n c.d.c,.slice c.R c.rn c.rc,.int .i64 rk,.slice y.A y.na y.ca,.int .i64 y.a.st,.slice y.M y.nm y.cm,.slice y.E y.ne y.ce,.slice OA on oc] from hks.1)
 have HEN:=Lib.hid (show RetSyz ⟨x.a,u.l,f.l⟩ w (.returned (.tuple #[.agg #[.slice c.k.A c.k.n c.k.c,.slice c.d.A c.d.n c.d.c,.slice c.R c.rn c.rc,.int .i64 rk,.slice y.A y.na y.ca,.int .i64 y.a.st,.slice y.M y.nm y.cm,.slice y.E y.ne y.ce,.slice OA on oc],.int .i64 0])) (wz.setCells (w.heap.size + 1) 0 [.slice c.k.A c.k.n c.k.c,.slice c.d.A c.d.n c.d.c,.slice c.R c.rn c.rc,.int .i64 rk,.slice y.A y.na y.ca,.int .i64 y.a.st,.slice y.M y.nm y.cm,.slice y.E y.ne y.ce,.slice OA on oc]) from
  ⟨c,y,rk,OA,on,oc,rfl,(by
   have h:=hc.low hks.2 (by omega)
   exact ⟨own_base h.k (by omega),h.kl,own_base h.d (by omega),h.dl,own_base h.r (by omega),h.rl⟩),hce,(hy.low hks.2 (by omega)).down (by omega),hya,(HB1.out wz hbz1).grown hks.2 (HB1.out wz hbz1).size (fun b hb=>by injection hb with hb;omega)⟩)
 have HTH:=Lib.hid hth
 clear hc hce hy hya hbz hbz1 hkz hks hlt hw12 hth
 go_wp2_with (first
  | (have hth:=HTH.out;refine wpList_store_mid (by rfl) 81 (.tmp 6) (.tmp 20) (by rfl) (w.heap.size + 1) 0 #[.slice c.k.A c.k.n c.k.c,.slice c.d.A c.d.n c.d.c,.slice c.R c.rn c.rc,.int .i64 rk,.slice y.A y.na y.ca,.int .i64 y.a.st,.slice y.M y.nm y.cm,.slice y.E y.ne y.ce,.slice OA on oc] (by rfl) (by rfl) hth res_size (by simp [Value.oneCell']) ?_;generalize wz.setCells (w.heap.size + 1) 0 [.slice c.k.A c.k.n c.k.c,.slice c.d.A c.d.n c.d.c,.slice c.R c.rn c.rc,.int .i64 rk,.slice y.A y.na y.ca,.int .i64 y.a.st,.slice y.M y.nm y.cm,.slice y.E y.ne y.ce,.slice OA on oc] = w9 at HKS HEN ⊢)
  | fail)
 refine bodyPost_ret (res_results2 (b:=w.heap.size + 1) rfl rfl rfl rfl HKS.out) rfl ?_
 exact HEN.out
end Go.Proofs.Ytdnmpndnpfklcaa

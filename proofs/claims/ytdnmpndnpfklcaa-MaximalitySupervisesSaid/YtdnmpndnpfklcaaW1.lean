/- Walk of language.open. -/
import Derived.Test.YtdnmpndnpfklcaaV6
import Derived.StillTailTactics
import Derived.Test.YtdnmpndnpfklcaaIu

namespace Go.Proofs.Ytdnmpndnpfklcaa
open Go.RowKit Go Go.Maps
def RetLg (a:Aut) (w:World) (e:Ending) (w':World):Prop:=∃ bm bn bk m:Nat,e = .returned (.pointer (some ⟨bm,0,none⟩))∧LgM w' a bm bn bk m∧w.heap.size ≤ bm∧w.heap.size ≤ bn∧Below w.heap.size w w'
structure LgI (w1:World) (f0:Int) (bm bn bk m ks:Nat) (l:List Ed) (W:World):Prop where
 bel:Below w1.heap.size w1 W
 box:Blk W bm 145 [.map (some bn),.map (some bk),.int .i64 f0]
 tab:TabE W bn m l
 set:∃ g:Int → Bool,TabB Try.prog 3 4 (Value.int .i64) W bk ks g
 lo:w1.heap.size ≤ bm∧w1.heap.size ≤ bn∧w1.heap.size ≤ bk
 ne:bm ≠ bn∧bm ≠ bk∧bn ≠ bk
theorem LgI.below {w1 W W':World} {f0:Int} {bm bn bk m ks:Nat} {l:List Ed} (h:LgI w1 f0 bm bn bk m ks l W) (hb:Below W.heap.size W W'):LgI w1 f0 bm bn bk m ks l W':=by
 obtain ⟨g,h1⟩:=h.set
 exact ⟨h.bel.trans (hb.mono h.bel.size),h.box.below hb h.box.lt,h.tab.below hb h.tab.lt,⟨g,h1.below hb h1.lt⟩,h.lo,h.ne⟩
theorem LgI.edge {w1 W W':World} {f0:Int} {bm bn bk m m' ks:Nat} {l l':List Ed} (h:LgI w1 f0 bm bn bk m ks l W) (ht:TabE W' bn m' l') (hg:W.grownBy W' (some bn)):LgI w1 f0 bm bn bk m' ks l' W':=by
 obtain ⟨g,h1⟩:=h.set
 exact ⟨h.bel.grown hg h.bel.size (fun j e=>by injection e with e;have:=h.lo;omega),h.box.kept hg (fun e=>by injection e with e;exact h.ne.1 e),ht,⟨g,h1.kept hg (fun e=>by injection e with e;exact h.ne.2.2 e.symm)⟩,h.lo,h.ne⟩
theorem LgI.mark {w1 W W':World} {f0:Int} {bm bn bk m k ks:Nat} {l:List Ed} {g:Int → Bool} (h:LgI w1 f0 bm bn bk m ks l W) (ht:TabB Try.prog 3 4 (Value.int .i64) W' bk k g) (hg:W.grownBy W' (some bk)):LgI w1 f0 bm bn bk m k l W' :=
 ⟨h.bel.grown hg h.bel.size (fun j e=>by injection e with e;have:=h.lo;omega),h.box.kept hg (fun e=>by injection e with e;exact h.ne.2.1 e),h.tab.kept hg (fun e=>by injection e with e;exact h.ne.2.2 e),⟨g,ht⟩,h.lo,h.ne⟩
theorem LgI.made (w1:World):LgI w1 0 (w1.heap.size + 1 + 1) w1.heap.size (w1.heap.size + 1) 0 0 [] (((w1.alloc (.map #[] 0)).alloc (.map #[] 0)).alloc (.cells #[.map (some w1.heap.size),.map (some (w1.heap.size + 1)),.int .i64 0] 145)):=by
 have e1:(w1.alloc (.map #[] 0)).heap.size = w1.heap.size + 1:=by simp
 have e2:((w1.alloc (.map #[] 0)).alloc (.map #[] 0)).heap.size = w1.heap.size + 1 + 1:=by simp
 have t1:=TabI.made w1 Try.prog 126 3 kP
 have t2:=TabB.made (w1.alloc (.map #[] 0)) Try.prog 3 4 (Value.int .i64)
 rw [e1] at t2
 have k:=Blk.new ((w1.alloc (.map #[] 0)).alloc (.map #[] 0)) 145 [.map (some w1.heap.size),.map (some (w1.heap.size + 1)),.int .i64 0]
 rw [e2] at k
 have b:Below w1.heap.size w1 (((w1.alloc (.map #[] 0)).alloc (.map #[] 0)).alloc (.cells #[.map (some w1.heap.size),.map (some (w1.heap.size + 1)),.int .i64 0] 145)):=by
  have b1:=(Below.refl w1.heap.size w1).alloc (Nat.le_refl _) (.map #[] 0)
  have b2:=b1.alloc (by simp) (.map #[] 0)
  exact b2.alloc (by simp;omega) _
 have t3:TabE (((w1.alloc (.map #[] 0)).alloc (.map #[] 0)).alloc (.cells #[.map (some w1.heap.size),.map (some (w1.heap.size + 1)),.int .i64 0] 145)) w1.heap.size 0 []:=by unfold TabE;exact (t1.alloc _).alloc _
 exact ⟨b,k,t3,⟨_,t2.alloc _⟩,⟨by omega,by omega,by omega⟩,⟨by omega,by omega,by omega⟩⟩
set_option maxRecDepth 100000 in
set_option maxHeartbeats 6400000 in
theorem lng_open (A:Option Addr) (na ca:Nat) (M:Option Addr) (nm cm:Nat) (E:Option Addr) (ne ce:Nat) (a:Aut) (w:World) (h:AutR w w.heap.size A na ca M nm cm E ne ce a) (hw:WF a) :
  Calls Try.prog 71 #[.agg #[.slice A na ca,.int .i64 a.st,.slice M nm cm,.slice E ne ce]] w (RetLg a w):=by
 have hmm:=@run_makeMap Try.prog
 have hb0:=box_below w (.cells #[.slice A na ca,.int .i64 a.st,.slice M nm cm,.slice E ne ce] 32)
 have k3:=Blk.new w 32 [.slice A na ca,.int .i64 a.st,.slice M nm cm,.slice E ne ce]
 obtain ⟨w1,hw1⟩:∃ q,w.alloc (.cells #[.slice A na ca,.int .i64 a.st,.slice M nm cm,.slice E ne ce] 32) = q:=⟨_,rfl⟩
 have k3':Blk w1 w.heap.size 32 [.slice A na ca,.int .i64 a.st,.slice M nm cm,.slice E ne ce]:=by rw [← hw1];exact k3
 rw [hw1] at hb0
 have HB0:=Lib.hid hb0
 have HK0:=Lib.hid k3'
 have HW1:=Lib.hid hw1
 clear k3 k3' hb0 hw1
 go_enter Try.func71,Try.ntmps71
 go_upto_region 1 with fail
 rw [HW1.out]
 go_upto_region 2 with fail
 have HM0:=Lib.hid (LgI.made w1)
 generalize hw4:((w1.alloc (.map #[] 0)).alloc (.map #[] 0)).alloc (.cells #[.map (some w1.heap.size),.map (some (w1.heap.size + 1)),.int .i64 0] 145) = w4 at HM0 ⊢
 clear hw4 hmm
 have HX:=Lib.hid (fun (W:World) (hb:Below w1.heap.size w1 W)=>(h.below (HB0.out.trans (hb.mono HB0.out.size))).more (HB0.out.trans (hb.mono HB0.out.size)).size)
 have HK:=Lib.hid (fun (W:World) (hb:Below w1.heap.size w1 W)=>Blk.c4 (HK0.out.below hb HK0.out.lt))
 have HBF:=Lib.hid (fun (W:World) (hb:Below w1.heap.size w1 W)=>HB0.out.trans (hb.mono HB0.out.size))
 have HLO:=Lib.hid (show w.heap.size < w1.heap.size from HK0.out.lt)
 clear h
 obtain ⟨a0,a1,a2,a3⟩:=HK.out w4 HM0.out.bel
 obtain ⟨m0,m1,m2⟩:=Blk.c3 HM0.out.box
 go_upto_if 14 with fail
 go_cut [3] from 4 (fun s3 wx=>s3 = .pointer (some ⟨w1.heap.size + 1 + 1,0,none⟩)∧Hid (LgI w1 (firA a) (w1.heap.size + 1 + 1) w1.heap.size (w1.heap.size + 1) 0 0 [] wx))
 case first =>
  by_cases h0:a.st = 0
  ·have h0':(a.st == 0) = true:=by simpa using h0
   have f2:=HM0.out.box.free 2
   have HF:=Lib.hid (show firA a = -1 by unfold firA;rw [if_pos h0])
   have HS:=Lib.hid (show LgI w1 (-1) (w1.heap.size + 1 + 1) w1.heap.size (w1.heap.size + 1) 0 0 [] (w4.setCell ⟨w1.heap.size + 1 + 1,2,none⟩ (.int .i64 (-1))) from by
    have hg:=grown_setCell w4 (w1.heap.size + 1 + 1) 2 (.int .i64 (-1))
    obtain ⟨g,t1⟩:=HM0.out.set
    exact ⟨HM0.out.bel.setCell (p:=⟨w1.heap.size + 1 + 1,2,none⟩) HM0.out.lo.1 _,HM0.out.box.set (j:=2) (by simp) _,HM0.out.tab.kept hg (fun e=>by injection e with e;exact HM0.out.ne.1 e.symm),⟨g,t1.kept hg (fun e=>by injection e with e;exact HM0.out.ne.2.1 e.symm)⟩,HM0.out.lo,HM0.out.ne⟩)
   clear h0
   go_wp2
   go_meet
   case rel=>exact ⟨rfl,by rw [HF.out];exact HS⟩
  ·have h0':(a.st == 0) = false:=by simpa using h0
   have HF:=Lib.hid (show firA a = 0 by unfold firA;rw [if_neg h0])
   clear h0
   go_wp2
   go_meet
   case rel=>exact ⟨rfl,by rw [HF.out];exact HM0⟩
 case rest =>
 obtain ⟨rfl,HM⟩:=hcut
 obtain ⟨w5,rfl⟩:∃ q,q = wc:=⟨_,rfl⟩
 clear a0 a1 a2 a3 m0 m1 m2 HM0
 have hle:=(HX.out w5 HM.out.bel).le
 have hec:=(HX.out w5 HM.out.bel).ec
 have hcE:=(HX.out w5 HM.out.bel).cE
 have hml:=(HX.out w5 HM.out.bel).lm
 have hmc:=(HX.out w5 HM.out.bel).mc
 have hcM:=(HX.out w5 HM.out.bel).cM
 have hed:=hw.ed_le
 rw [hle] at hed
 have HLE:=Lib.hid hle;clear hle
 have HML:=Lib.hid hml;clear hml
 obtain ⟨a0,a1,a2,a3⟩:=HK.out w5 HM.out.bel
 have HM1:=Lib.hid (show LgI w1 (firA a) (w1.heap.size + 1 + 1) w1.heap.size (w1.heap.size + 1) 0 0 (a.ed.take 0) w5 from HM.out)
 clear HM
 go_wp2
 clear a0 a1 a2 a3
 go_loopw [5,21] (fun s5 s21 wr=>∃ (q:Nat) (v5:Value),s21 = .int .i64 q∧s5 = v5∧q ≤ ne∧Hid (LgI w1 (firA a) (w1.heap.size + 1 + 1) w1.heap.size (w1.heap.size + 1) q 0 (a.ed.take q) wr)) (fun _ s21 _=>ne - (intOf s21).toNat)
 case atStart=>exact ⟨0,_,rfl,rfl,Nat.zero_le _,HM1⟩
 case round =>
  clear HM1
  obtain ⟨q,v5,rfl,rfl,hq,HM⟩:=hrel
  obtain ⟨wq,rfl⟩:∃ q,q = wr:=⟨_,rfl⟩
  by_cases hlt:q < ne
  case pos =>
   have b1:(q:Int) < (ne:Int):=by omega
   obtain ⟨ed,y,rfl,_,hye,g0,g1,g2⟩:=(HX.out wq HM.out.bel).re.at_ (k:=q) (by rw [HLE.out];exact hlt)
   have r1:wq.cell? ⟨(ed.add (q * 3)).block,(ed.add (q * 3)).off + 1,none⟩ = some (.int .i64 y.e):=st_cells (j:=0) g1
   have r2:wq.cell? ⟨(ed.add (q * 3)).block,(ed.add (q * 3)).off + 2,none⟩ = some (.int .i64 y.t):=st_cells (j:=1) g2
   have hrng:=hw.ev_rng (List.mem_of_getElem? hye)
   have hst1:=hw.st1
   have HPUT:=Lib.hid (lkE_put hw.einc hye)
   have f1:(Lit.int .i64 y.f).wf = true:=WalkArith.wf_i64 (by omega)
   have f2:(Lit.int .i64 y.e).wf = true:=WalkArith.wf_i64 (by omega)
   have f3:(Lit.int .i64 y.t).wf = true:=WalkArith.wf_i64 (by omega)
   have HKEY:=Lib.hid (pairKey wq y.f y.e f1 f2)
   have HW3:=Lib.hid f3
   have hbx:=box_below wq (.cells #[.int .i64 y.f,.int .i64 y.e,.int .i64 y.t] 67)
   have ke:Blk (wq.alloc (.cells #[.int .i64 y.f,.int .i64 y.e,.int .i64 y.t] 67)) wq.heap.size 67 [.int .i64 y.f,.int .i64 y.e,.int .i64 y.t]:=Blk.new _ _ [_,_,_]
   have HM2:=Lib.hid (HM.out.below hbx)
   clear g1 g2 f1 f2 f3 hrng hye hbx HM
   go_upto_region 7 with fail
   clear g0 r1 r2
   generalize wq.heap.size = bx at ke ⊢
   generalize wq.alloc (.cells #[.int .i64 y.f,.int .i64 y.e,.int .i64 y.t] 67) = we at ke HM2 ⊢
   have e0:=ke.cell (j:=0) rfl
   have e1:=ke.cell (j:=1) rfl
   have e2:=ke.cell (j:=2) rfl
   obtain ⟨m0,m1,m2⟩:=Blk.c3 HM2.out.box
   clear ke
   have HM3:=Lib.hid (HM2.out.below (below_dr we))
   go_still_tail 11,(by kernel_rfl)
   change wpList _ _ _ _ _ we.drew
   generalize we.drew = wd at HM3 ⊢
   clear e0 e1 e2 m0 m1 m2 HM2
   go_wp2_with (at_mapUpdate;refine wpList_tab_put rfl (.tmp 28) (.tmp 33) (.tmp 35) 142 rfl pairLaw Try.underlying142 Try.underlying3 rfl HM3.out.tab (by omega) (y.f,y.e) rfl HKEY.out y.t rfl HW3.out (fun p=>lkE p.1 p.2 (a.ed.take (q + 1))) (fun d hd=>by rw [kP_inj hd];exact (HPUT.out _ _).1 ⟨rfl,rfl⟩) (fun d hd=>(HPUT.out _ _).2 (fun e=>hd (by rw [show d = (y.f,y.e) from Prod.ext e.1.symm e.2.symm]))) ?_;intro w' hT' hg')
   have HM4:=Lib.hid (HM3.out.edge (l':=a.ed.take (q + 1)) hT' hg')
   clear hT' hg'
   go_roundw
   case rel=>exact ⟨q + 1,_,by go_num,rfl,by omega,HM4⟩
   case measure=>simp [intOf];omega
  obtain rfl:q = ne:=by omega
  have b1:¬ (q:Int) < (q:Int):=by omega
  have HMF:=Lib.hid (show LgI w1 (firA a) (w1.heap.size + 1 + 1) w1.heap.size (w1.heap.size + 1) q 0 a.ed wq by
   have h9:=HM.out
   rw [List.take_of_length_le (by rw [HLE.out];exact Nat.le_refl _)] at h9
   exact h9)
  clear HM
  obtain ⟨a0,a1,a2,a3⟩:=HK.out wq HMF.out.bel
  have hml2:nm ≤ 4096:=by
   have h1:=inc_len (n:=a.st.toNat) hw.minc (fun t ht=>by have h2:=hw.mrng t ht;have h3:=hw.st0;omega)
   have h4:=hw.st1
   rw [HML.out] at h1
   omega
  go_wp2
  clear a0 a1 a2 a3
  go_loopw [7,40] (fun s7 s40 wr=>∃ (j:Nat) (v7:Value),s40 = .int .i64 j∧s7 = v7∧j ≤ nm∧Hid (LgI w1 (firA a) (w1.heap.size + 1 + 1) w1.heap.size (w1.heap.size + 1) q j a.ed wr)) (fun _ s40 _=>nm - (intOf s40).toNat)
  case atStart=>exact ⟨0,_,rfl,rfl,Nat.zero_le _,HMF⟩
  case round =>
   clear HMF
   obtain ⟨j,v7,rfl,rfl,hj,HM⟩:=hrel
   obtain ⟨wj,rfl⟩:∃ q,q = wr:=⟨_,rfl⟩
   by_cases hlj:j < nm
   case pos =>
    have b2:(j:Int) < (nm:Int):=by omega
    obtain ⟨md,y,rfl,_,hye,g0⟩:=(HX.out wj HM.out.bel).rm.at_ (k:=j) (by rw [HML.out];exact hlj)
    have hrng:=hw.mrng y (List.mem_of_getElem? hye)
    have hst1:=hw.st1
    have HKEY:=Lib.hid (intKey y (WalkArith.wf_i64 (by omega)))
    obtain ⟨g,hset⟩:=HM.out.set
    have HSET:=Lib.hid hset
    obtain ⟨m0,m1,m2⟩:=Blk.c3 HM.out.box
    clear hrng hye hset
    go_wp2_with (at_mapUpdate;refine wpList_tabB_put rfl (.tmp 47) (.tmp 48) (.const (.bool true)) 143 rfl intLaw Try.underlying143 Try.underlying4 rfl HSET.out (by omega) y rfl HKEY.out rfl (fun d=>decide (d = y) || g d) (fun d hd=>by injection hd with _ hd;subst hd;simp) (fun d hd=>by rw [decide_eq_false (fun e=>hd (by rw [e])),Bool.false_or]) ?_;intro w' hT' hg')
    have HM4:=Lib.hid (HM.out.mark hT' hg')
    clear hT' hg' g0 m0 m1 m2
    go_roundw
    case rel=>exact ⟨j + 1,_,by go_num,rfl,by omega,HM4⟩
    case measure=>simp [intOf];omega
   obtain rfl:j = nm:=by omega
   have b2:¬ (j:Int) < (j:Int):=by omega
   have HRET:=Lib.hid (show ∃ bm bn bk m:Nat,(.pointer (some ⟨w1.heap.size + 1 + 1,0,none⟩):Value) = .pointer (some ⟨bm,0,none⟩)∧LgM wj a bm bn bk m∧w.heap.size ≤ bm∧w.heap.size ≤ bn∧Below w.heap.size w wj from ⟨_,_,_,_,rfl,⟨HM.out.box,HM.out.tab⟩,by have:=HLO.out;omega,by have:=HLO.out;omega,HBF.out _ HM.out.bel⟩)
   go_wp2
   go_ret
   obtain ⟨bm,bn,bk,m,h1,h2⟩:=HRET.out
   exact ⟨bm,bn,bk,m,by rw [← h1];rfl,h2⟩
end Go.Proofs.Ytdnmpndnpfklcaa
/- Walk of language.check at two right automata. -/
namespace Go.Proofs.Ytdnmpndnpfklcaa
open Go.RowKit Go Go.Maps
set_option maxRecDepth 100000 in
set_option maxHeartbeats 3200000 in
theorem lng_check (x y:AV) (bl:Nat) (w:World) (hk:Blk w bl 32 (avc x ++ avc y)) (hx:x.ok w w.heap.size) (hy:y.ok w w.heap.size) (hwx:WF x.a) (hwy:WF y.a) :
  Calls Try.prog 70 #[.int .i64 1,.slice (some ⟨bl,0,none⟩) 2 2] w fun e w'=>e = .returned (.int .i64 0)∧Below w.heap.size w w':=by
 have HK:=Lib.hid (fun (W:World) (hb:Below w.heap.size w W)=>hk.below hb hk.lt)
 have HC:=Lib.hid (fun (j:Nat) (hj:j < 2) (W:World) (hb:Below w.heap.size w W)=>(show ∃ z:AV,z.ok W W.heap.size∧WF z.a∧(∀ i v,(avc z)[i]? = some v → W.cell? ⟨bl,j * 4 + i,none⟩ = some v) from by
  rcases (by omega:j = 0 ∨ j = 1) with rfl | rfl
  ·exact ⟨x,(hx.below hb).more hb.size,hwx,fun i v hv=>(hk.below hb hk.lt).cell (by rw [Nat.zero_mul,Nat.zero_add,List.getElem?_append_left (List.getElem?_eq_some_iff.1 hv).1];exact hv)⟩
  ·exact ⟨y,(hy.below hb).more hb.size,hwy,fun i v hv=>(hk.below hb hk.lt).cell (by rw [List.getElem?_append_right (by show 4 ≤ _;omega)];rw [show 1 * 4 + i - (avc x).length = i from by show 1 * 4 + i - 4 = i;omega];exact hv)⟩))
 clear hk hx hy hwx hwy HK
 go_enter Try.func70,Try.ntmps70
 go_wp2
 go_loopw [6,7,10] (fun s6 s7 s10 wr=>∃ (j:Nat) (v6 v7:Value),s10 = .int .i64 j∧s6 = v6∧s7 = v7∧j ≤ 2∧Hid (Below w.heap.size w wr)) (fun _ _ s10 _=>2 - (intOf s10).toNat)
 case atStart=>exact ⟨0,_,_,rfl,rfl,rfl,Nat.zero_le _,Lib.hid (Below.refl _ _)⟩
 case round =>
  obtain ⟨j,v6,v7,rfl,rfl,rfl,hj,HB⟩:=hrel
  obtain ⟨wj,rfl⟩:∃ q,q = wr:=⟨_,rfl⟩
  by_cases hlt:j < 2
  case neg =>
   obtain rfl:j = 2:=by omega
   go_wp2
   go_ret
   exact ⟨rfl,HB.out⟩
  have b1:(j:Int) < 2:=by omega
  obtain ⟨z,hz,hwz,hcl⟩:=HC.out j hlt wj HB.out
  have g0:wj.cell? ⟨bl,j * 4,none⟩ = some (.slice z.A z.na z.ca):=hcl 0 _ rfl
  have g1:wj.cell? ⟨bl,j * 4 + 1,none⟩ = some (.int .i64 z.a.st):=hcl 1 _ rfl
  have g2:wj.cell? ⟨bl,j * 4 + 2,none⟩ = some (.slice z.M z.nm z.cm):=hcl 2 _ rfl
  have g3:wj.cell? ⟨bl,j * 4 + 3,none⟩ = some (.slice z.E z.ne z.ce):=hcl 3 _ rfl
  have HZ:=Lib.hid hz
  have HWZ:=Lib.hid hwz
  clear hz hwz hcl
  go_upto_region 4 with fail
  have ke:=Blk.new wj 32 [.slice z.A z.na z.ca,.int .i64 z.a.st,.slice z.M z.nm z.cm,.slice z.E z.ne z.ce]
  have hbx:=box_below wj (.cells #[.slice z.A z.na z.ca,.int .i64 z.a.st,.slice z.M z.nm z.cm,.slice z.E z.ne z.ce] 32)
  have HZ2:=Lib.hid ((HZ.out.below hbx).more hbx.size)
  have HB2:=Lib.hid (HB.out.trans (hbx.mono HB.out.size))
  clear g0 g1 g2 g3 hbx
  generalize wj.heap.size = bx at ke ⊢
  have ke':Blk (wj.alloc (.cells #[.slice z.A z.na z.ca,.int .i64 z.a.st,.slice z.M z.nm z.cm,.slice z.E z.ne z.ce] 32)) bx 32 [.slice z.A z.na z.ca,.int .i64 z.a.st,.slice z.M z.nm z.cm,.slice z.E z.ne z.ce]:=ke
  clear ke
  generalize wj.alloc (.cells #[.slice z.A z.na z.ca,.int .i64 z.a.st,.slice z.M z.nm z.cm,.slice z.E z.ne z.ce] 32) = we at ke' HZ2 HB2 ⊢
  obtain ⟨e0,e1,e2,e3⟩:=Blk.c4 ke'
  have HCK:=Lib.hid (automaton_Check z.A z.na z.ca z.M z.nm z.cm z.E z.ne z.ce z.a we HZ2.out)
  rw [show chkA z.a = 0 from HWZ.out.chk] at HCK
  clear ke'
  go_wp2_with fail
  refine HCK.out.mono ?_
  rintro e wf ⟨rfl,hbf⟩
  have HBF:=Lib.hid (HB2.out.trans (hbf.mono HB2.out.size))
  clear e0 e1 e2 e3 hbf HCK
  go_wp2
  go_roundw
  case rel=>exact ⟨j + 1,_,_,by go_num,rfl,rfl,by omega,HBF⟩
  case measure=>simp [intOf];omega
end Go.Proofs.Ytdnmpndnpfklcaa

/- language.search's memory. -/
namespace Go.Proofs.Ytdnmpndnpfklcaa
open Go.RowKit Go Go.Maps
def vsc (v:Vs):List Value:=[.int .i64 v.p,.int .i64 v.q,.int .i64 v.f,.int .i64 v.e]
theorem lpLaw:Keyed Try.prog 127:=Keyed.of_law (pairLaw_any Try.underlying127 laidOut (of_decide_eq_true (by kernel_rfl)) (by kernel_rfl))
set_option maxRecDepth 100000 in
theorem lpKey (w:World) (x y:Int) (hx:(Lit.int .i64 x).wf = true) (hy:(Lit.int .i64 y).wf = true):∃ kl,keyOf Try.prog 127 (kP (x,y)) = some kl :=
 pairKey_any Try.underlying127 Try.underlying3 (by kernel_rfl) intCells (by kernel_rfl) w x y hx hy
theorem vs_info:(Try.prog.info? 147).map (fun i=>(i.zero,i.size,i.bytes)) = some (some (.agg #[.int .i64 0,.int .i64 0,.int .i64 0,.int .i64 0]),4,32):=by kernel_rfl
theorem TabB.put {α:Type} {P:Program} {K E:TypeId} {key:α → Value} {w:World} {b n:Nat} {g:α → Bool} (h:TabB P K E key w b n g) {t:TypeId} (KK:Keyed P K) (ht:P.underlying t = some (.map K E)) (he:P.underlying E = some .bool) (hn:n ≤ 1000000000) (c:α) (hk:∃ kl,keyOf P K (key c) = some kl)
  (g':α → Bool) (hg1:∀ d,key d = key c → g' d = true) (hg2:∀ d,key d ≠ key c → g' d = g d) :
  ∃ w',(Instr.mapUpdate t (.map (some b)) (key c) (.bool true)).run P w = .ok () w'∧TabB P K E key w' b (n + 1) g'∧w.grownBy w' (some b):=by
 obtain ⟨D,h1,h2⟩:=h
 obtain ⟨kl,hkl⟩:=hk
 obtain ⟨w',hrun,q1,q2⟩:=h1.update KK ht (by unfold maxLen;omega) hkl (plainElem_bool he true)
 refine ⟨w',hrun,⟨_,q1,fun d kd hkd=>?_⟩,q2⟩
 by_cases hd:key d = key c
 ·have:kd = kl:=by rw [hd,hkl] at hkd;injection hkd with e;exact e.symm
  subst this
  rw [hg1 d hd]
  exact Maps.atKey_put_same h1.isMap (KK.key hkl) _ _
 ·have hne:kd ≠ kl:=fun e=>hd (KK.inj (by rw [← e];exact hkd) hkl)
  rw [hg2 d hd,Maps.atKey_put_other hne]
  exact h2 d kd hkd
theorem TabB.say {α:Type} {P:Program} {K E:TypeId} {key:α → Value} {w:World} {b n:Nat} {g g':α → Bool} (h:TabB P K E key w b n g) (he:∀ a,g' a = g a):TabB P K E key w b n g':=by
 have:g' = g:=funext he
 rw [this];exact h
def SeenB (W:World) (b n:Nat) (l:List Vs):Prop:=TabB Try.prog 127 4 kP W b n (fun r=>vsB l r.1 r.2)
theorem vsB_snoc (l:List Vs) (v:Vs) (p q:Int):vsB (l ++ [v]) p q = (vsB l p q || (v.p == p && v.q == q)):=by
 unfold vsB
 rw [List.any_append,Bool.or_assoc]
 simp
theorem vsB_hit (l:List Vs) (v:Vs) {d:Int × Int} (h:kP d = kP (v.p,v.q)):vsB (l ++ [v]) d.1 d.2 = true:=by
 rw [kP_inj h,vsB_snoc]
 simp
theorem vsB_other (l:List Vs) (v:Vs) {d:Int × Int} (h:kP d ≠ kP (v.p,v.q)):vsB (l ++ [v]) d.1 d.2 = vsB l d.1 d.2:=by
 rw [vsB_snoc]
 have:(v.p == d.1 && v.q == d.2) = false:=by
  rw [Bool.and_eq_false_iff]
  by_cases h1:v.p = d.1
  ·right
   rw [beq_eq_false_iff_ne]
   intro h2
   exact h (by rw [show d = (v.p,v.q) from Prod.ext h1.symm h2.symm])
  ·left
   rw [beq_eq_false_iff_ne]
   exact h1
 rw [this,Bool.or_false]
structure SeM (w0:World) (bs n:Nat) (vv:Value) (l:List Vs) (W:World):Prop where
 bel:Below w0.heap.size w0 W
 row:W.ownsRow w0.heap.size 147 4 vv l.length (l.flatMap vsc)
 set:SeenB W bs n l
 low:w0.heap.size ≤ bs
theorem SeM.below {w0 W W':World} {bs n:Nat} {vv:Value} {l:List Vs} (h:SeM w0 bs n vv l W) (hb:Below W.heap.size W W'):SeM w0 bs n vv l W' :=
 ⟨h.bel.trans (hb.mono h.bel.size),own_below h.row hb,TabB.below h.set hb (TabB.lt h.set),h.low⟩
theorem TabB.ne {α:Type} {P:Program} {K E:TypeId} {key:α → Value} {w:World} {b n:Nat} {g:α → Bool} {base:Nat} {e:TypeId} {size m:Nat} {v:Value} {xs:List Value} (h:TabB P K E key w b n g) (ho:w.ownsRow base e size v m xs):some b ≠ v.ownBlock:=by
 obtain ⟨D,⟨es,clock,hb,_⟩,_⟩:=h
 intro e
 rcases ho.2 with ⟨rfl,_⟩ | ⟨q,cap,cur,rfl,_,hq,_⟩
 ·cases e
 ·injection e with e
  subst e
  rw [show w.heap[b]? = some (.map es clock) from hb] at hq
  cases hq
theorem SeM.grow {w0 W W':World} {bs n:Nat} {vv:Value} {l:List Vs} (h:SeM w0 bs n vv l W) {base sz m:Nat} {e:TypeId} {v:Value} {xs:List Value} (ho:W.ownsRow base e sz v m xs) (hg:W.grownBy W' v.ownBlock) (he:147 ≠ e) (hb:w0.heap.size ≤ base):SeM w0 bs n vv l W' :=
 ⟨h.bel.grown hg h.bel.size (fun j hj=>Nat.le_trans hb (ho.lt j hj).1),own_kept_ne h.row ho he hg,TabB.kept h.set hg (TabB.ne h.set ho),h.low⟩
theorem SeM.push {w0 W W8 W9:World} {bs n:Nat} {vv vv':Value} {l:List Vs} {v:Vs} {g:Int × Int → Bool} (h:SeM w0 bs n vv l W) (ho:W8.ownsRow w0.heap.size 147 4 vv' (l.length + 1) (l.flatMap vsc ++ vsc v)) (hg:W.grownBy W8 vv.ownBlock)
  (ht:TabB Try.prog 127 4 kP W9 bs (n + 1) g) (hgg:∀ r,g r = vsB (l ++ [v]) r.1 r.2) (hg9:W8.grownBy W9 (some bs)):SeM w0 bs (n + 1) vv' (l ++ [v]) W9:=by
 have h8:TabB Try.prog 127 4 kP W8 bs n _:=TabB.kept h.set hg (TabB.ne h.set h.row)
 have b8:Below w0.heap.size w0 W8:=h.bel.grown hg h.bel.size (fun j hj=>(h.row.lt j hj).1)
 refine ⟨b8.grown hg9 b8.size (fun j hj=>by injection hj with hj;rw [← hj];exact h.low),?_,TabB.say ht (fun r=>(hgg r).symm),h.low⟩
 rw [List.length_append,List.flatMap_append,show ([v]:List Vs).flatMap vsc = vsc v from by simp]
 exact ho.kept hg9 (.inr (fun e=>TabB.ne h8 ho e.symm))
theorem SeM.at {w0 W:World} {bs n ln c:Nat} {ad:Addr} {l:List Vs} (h:SeM w0 bs n (.slice (some ad) ln c) l W) (hl:l.length = ln) {k:Nat} {v:Vs} (hk:l[k]? = some v) :
  W.cell? (ad.add (k * 4)) = some (.int .i64 v.p)∧W.cell? ⟨(ad.add (k * 4)).block,(ad.add (k * 4)).off + 1,none⟩ = some (.int .i64 v.q)∧W.cell? ⟨(ad.add (k * 4)).block,(ad.add (k * 4)).off + 2,none⟩ = some (.int .i64 v.f)∧W.cell? ⟨(ad.add (k * 4)).block,(ad.add (k * 4)).off + 3,none⟩ = some (.int .i64 v.e):=by
 have hrow:=h.row
 rw [hl] at hrow
 obtain ⟨ad',v',hA,_,hv',hc⟩:=(RdR.of_own (sz:=4) (f:=vsc) (by decide) (fun _ _=>rfl) hrow).get (k:=k) (List.getElem?_eq_some_iff.1 hk).1
 obtain rfl:v = v':=by rw [hk] at hv';exact Option.some.inj hv'
 injection hA with hA
 subst hA
 exact ⟨hc 0 _ rfl,st_cells (j:=0) (hc 1 _ rfl),st_cells (j:=1) (hc 2 _ rfl),st_cells (j:=2) (hc 3 _ rfl)⟩
theorem TabB.neB {α:Type} {P:Program} {K E:TypeId} {key:α → Value} {w:World} {b n:Nat} {g:α → Bool} {t:TypeId} {vs:List Value} {q:Nat} (h:TabB P K E key w b n g) (hk:Blk w q t vs):b ≠ q:=by
 obtain ⟨D,⟨es,clock,hb,_⟩,_⟩:=h
 rintro rfl
 have:=hk.symm.trans hb
 cases this
end Go.Proofs.Ytdnmpndnpfklcaa

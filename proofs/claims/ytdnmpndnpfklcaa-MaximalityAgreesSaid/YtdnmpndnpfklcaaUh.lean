/- Walks: the graph's path. -/
import Derived.Test.YtdnmpndnpfklcaaUr
import Derived.Test.YtdnmpndnpfklcaaUc
import Derived.Deep.Cut
import Derived.Deep.CutRange
import Derived.Shelf.AbstractIn
import Derived.RangeFuncOne
namespace Go.Proofs.Ytdnmpndnpfklcaa
open Go.RowKit Go
attribute [local go_sem] Oper.semAt_some
theorem rf_named {P:Program} {g:Operand} {ps:Array Tmp} {assign body:Code} {Q:Exit → Act → World → Prop} {a:Act} {w:World} (h:∀ a0,a0 = a → (Code.rangeFunc g ps assign body).wp P Q a0 w):(Code.rangeFunc g ps assign body).wp P Q a w:=h a rfl
theorem own_lit3 (w:World) (base:Nat) (hb:base ≤ w.heap.size) (a b c:Value) (e:TypeId):(w.alloc (.cells #[a,b,c] e)).ownsRow base e 3 (.slice (some ⟨w.heap.size,0,none⟩) 1 1) 1 [a,b,c] :=
 ⟨by simp,.inr ⟨w.heap.size,1,#[a,b,c],rfl,hb,heap_alloc_new w _,Nat.le_refl _,by unfold maxLen;omega,by simp,by simp⟩⟩
theorem PtM.made (w:World) (x:AV) (ba n:Nat) (pv:Value) (s:Int) (G:List Value) (hG:grc x ba n = G):∃ W,W = (((((w.alloc (.cells G.toArray 105)).alloc (.cells #[pv] 115)).alloc (.cells #[.int .i64 s,.int .i64 (-1),.int .i64 (-1)] 187)).alloc (.cells #[.slice (some ⟨w.heap.size + 1 + 1,0,none⟩) 1 1] 188)).alloc (.cells (madeCells #[.bool false] n) 4)).alloc (.cells #[.slice (some ⟨w.heap.size + 1 + 1 + 1 + 1,0,none⟩) n n] 87) ∧
  W.heap.size = w.heap.size + 6∧Below w.heap.size w W∧Blk W w.heap.size 105 (grc x ba n)∧Blk W (w.heap.size + 1) 115 [pv]∧Blk W (w.heap.size + 3) 188 [.slice (some ⟨w.heap.size + 2,0,none⟩) 1 1]∧W.ownsRow w.heap.size 187 3 (.slice (some ⟨w.heap.size + 2,0,none⟩) 1 1) 1 ([(⟨s,-1,-1⟩:Stp)].flatMap stc) ∧
   Blk W (w.heap.size + 4) 4 (bvl (List.replicate n false))∧Blk W (w.heap.size + 5) 87 [.slice (some ⟨w.heap.size + 4,0,none⟩) n n]:=by
 subst hG
 have b0:=box_below w (.cells (grc x ba n).toArray 105)
 have k0:=Blk.new w 105 (grc x ba n)
 have s0:(w.alloc (.cells (grc x ba n).toArray 105)).heap.size = w.heap.size + 1:=by simp
 generalize w.alloc (.cells (grc x ba n).toArray 105) = w1 at b0 k0 s0 ⊢
 have b1:=box_below w1 (.cells #[pv] 115)
 have k1:=Blk.new w1 115 [pv]
 have s1:(w1.alloc (.cells #[pv] 115)).heap.size = w.heap.size + 2:=by simp [s0]
 rw [s0] at k1
 generalize w1.alloc (.cells #[pv] 115) = w2 at b1 k1 s1 ⊢
 have b2:=box_below w2 (.cells #[.int .i64 s,.int .i64 (-1),.int .i64 (-1)] 187)
 have k2:=own_lit3 w2 w.heap.size (by omega) (.int .i64 s) (.int .i64 (-1)) (.int .i64 (-1)) 187
 have s2:(w2.alloc (.cells #[.int .i64 s,.int .i64 (-1),.int .i64 (-1)] 187)).heap.size = w.heap.size + 3:=by simp [s1]
 rw [s1] at k2
 generalize w2.alloc (.cells #[.int .i64 s,.int .i64 (-1),.int .i64 (-1)] 187) = w3 at b2 k2 s2 ⊢
 have b3:=box_below w3 (.cells #[.slice (some ⟨w.heap.size + 1 + 1,0,none⟩) 1 1] 188)
 have k3:=Blk.new w3 188 [.slice (some ⟨w.heap.size + 1 + 1,0,none⟩) 1 1]
 have s3:(w3.alloc (.cells #[.slice (some ⟨w.heap.size + 1 + 1,0,none⟩) 1 1] 188)).heap.size = w.heap.size + 4:=by simp [s2]
 rw [s2] at k3
 generalize w3.alloc (.cells #[.slice (some ⟨w.heap.size + 1 + 1,0,none⟩) 1 1] 188) = w4 at b3 k3 s3 ⊢
 have b4:=box_below w4 (.cells (madeCells #[.bool false] n) 4)
 have k4:Blk (w4.alloc (.cells (madeCells #[.bool false] n) 4)) w4.heap.size 4 (bvl (List.replicate n false)):=by rw [made_bools];exact Blk.new _ _ _
 have s4:(w4.alloc (.cells (madeCells #[.bool false] n) 4)).heap.size = w.heap.size + 5:=by simp [s3]
 rw [s3] at k4
 generalize w4.alloc (.cells (madeCells #[.bool false] n) 4) = w5 at b4 k4 s4 ⊢
 have b5:=box_below w5 (.cells #[.slice (some ⟨w.heap.size + 1 + 1 + 1 + 1,0,none⟩) n n] 87)
 have k5:=Blk.new w5 87 [.slice (some ⟨w.heap.size + 1 + 1 + 1 + 1,0,none⟩) n n]
 rw [s4] at k5
 refine ⟨_,rfl,by simp [s4],b0.trans ((b1.mono (by omega)).trans ((b2.mono (by omega)).trans ((b3.mono (by omega)).trans ((b4.mono (by omega)).trans (b5.mono (by omega)))))),?_,?_,?_,?_,?_,k5⟩
 ·exact ((((k0.below b1 k0.lt).below b2 (k0.below b1 k0.lt).lt).below (b3.mono (by omega)) (B:=w.heap.size + 1) (by omega)).below (b4.mono (by omega)) (B:=w.heap.size + 1) (by omega)).below (b5.mono (by omega)) (B:=w.heap.size + 1) (by omega)
 ·exact (((k1.below (b2.mono (by omega)) (B:=w.heap.size + 2) (by omega)).below (b3.mono (by omega)) (B:=w.heap.size + 2) (by omega)).below (b4.mono (by omega)) (B:=w.heap.size + 2) (by omega)).below (b5.mono (by omega)) (B:=w.heap.size + 2) (by omega)
 ·exact (k3.below (b4.mono (by omega)) (B:=w.heap.size + 4) (by omega)).below (b5.mono (by omega)) (B:=w.heap.size + 4) (by omega)
 ·exact own_below (own_below (own_below k2 b3) b4) b5
 ·exact k4.below (b5.mono (by omega)) (B:=w.heap.size + 5) (by omega)
set_option maxRecDepth 100000 in
set_option maxHeartbeats 3200000 in
theorem path_ok (x:AV) (ba n s:Nat) (fw fp:Nat) (cw cp:Value) (want:Int → Bool) (perm:Ed → Bool) (RES:Option (List Int)) (w:World) (hg:GrR w w.heap.size x ba n) (hs:s < n)
  (efw:∀ args W,(callFunc fw args).run Try.prog W = .ok (.enter fw args) W) (efp:∀ args W,(callFunc fp args).run Try.prog W = .ok (.enter fp args) W)
  (hw:∀ (t:Int) W,0 ≤ t → t < (n:Int) → Below w.heap.size w W → Calls Try.prog fw #[.int .i64 t,cw] W fun e W'=>e = .returned (.bool (want t))∧W = W')
  (hp:∀ (e:Ed) W,e ∈ x.a.ed → Below w.heap.size w W → Calls Try.prog fp #[evl e,cp] W fun r W'=>r = .returned (.bool (perm e))∧Below W.heap.size W W')
  (hr:pathS x.a (s:Int) want perm = RES) :
  Calls Try.prog 111 #[.agg (grc x ba n).toArray,.int .i64 (s:Int),.func (.func fw) #[] #[cw],.func (.func fp) #[] #[cp]] w (RetPth RES w):=by
 obtain ⟨A,na,ca,M,nm,cm,E,ne,ce,a⟩:=x
 dsimp only at hp hr
 have hst:a.st = (n:Int):=hg.st
 have hwf:WF a:=hg.wf
 have hn4:n ≤ 4096:=by have:=hwf.st1;omega
 obtain ⟨pv,hpv⟩:∃ v:Value,v = .func (.func fp) #[] #[cp]:=⟨_,rfl⟩
 obtain ⟨x,hx⟩:∃ z:AV,z = ⟨A,na,ca,M,nm,cm,E,ne,ce,a⟩:=⟨_,rfl⟩
 rw [← hx] at hg ⊢
 have hxa:x.a = a:=by rw [hx]
 have hgc:grc x ba n = [.slice A na ca,.int .i64 (n:Int),.slice M nm cm,.slice E ne ce,.slice (some ⟨ba,0,none⟩) (n + 1) (n + 1)]:=by unfold grc;rw [hx,← hst]
 rw [hgc]
 have hm:∀ W:World,(Instr.makeSlice 87 (.int .i64 (n:Int)) (.int .i64 (n:Int))).run Try.prog W = .ok (.slice (some ⟨W.heap.size,0,none⟩) n n) (W.alloc (.cells (madeCells #[.bool false] n) 4)):=fun W=>run_make_row' 87 4 (.bool false) 1 Try.underlying87 bool_info rfl .i64 .i64 n (by omega) (by omega) W
 have HW:=Lib.hid hw;clear hw
 have HP:=Lib.hid hp;clear hp
 have HG:=Lib.hid hg;clear hg
 have HST:=Lib.hid hst;clear hst
 have HWF:=Lib.hid hwf;clear hwf
 have hgc9:=hgc
 have HGC:=Lib.hid hgc;clear hgc
 have HXA:=Lib.hid hxa;clear hxa
 have HR:=Lib.hid hr;clear hr
 clear hx
 refine (callsIn_wide (n:=6)).1 ?_
 refine callsIn_of_wp_marks Try.func111 rfl trivial ?_ rfl
 simp only [Try.ntmps111,List.size_toArray,List.length_cons,List.length_nil,Nat.reduceAdd,Nat.reduceSub,Array.replicate_succ,Array.replicate_zero,List.push_toArray,List.append_toArray,List.nil_append,List.cons_append]
 refine wpIn_wide.2 ?_
 refine wp_mono ?_ noPanic_le
 go_upto_region 3 with fail
 obtain ⟨w5,hw5,hs5,hb5,k0,k1,k3,k2,k4,k5⟩:=PtM.made w x ba n pv (s:Int) _ hgc9
 rw [hpv] at hw5
 rw [← hw5]
 have HPV:=Lib.hid hpv;clear hpv
 clear hw5
 have c11:w5.cell? ⟨w.heap.size + 1 + 1 + 1 + 1 + 1,0,none⟩ = some (.slice (some ⟨w.heap.size + 1 + 1 + 1 + 1,0,none⟩) n n):=k5.cell (j:=0) rfl
 have f4:w5.frozen? ⟨w.heap.size + 1 + 1 + 1 + 1,s,none⟩ = false:=k4.free s
 have c4:w5.cell? ⟨w.heap.size + 1 + 1 + 1 + 1,s,none⟩ = some (.bool false):=k4.cell (by rw [bvl_get,List.getElem?_replicate,if_pos hs];rfl)
 have l4:w.heap.size + 1 + 1 + 1 + 1 < w5.heap.size:=k4.lt
 clear hm
 go_upto_region 4 with fail
 have hk4:=k4.set (j:=s) (by rw [bvl_length,List.length_replicate];exact hs) (.bool true)
 rw [bvl_set] at hk4
 have hgs:=grown_setCell w5 (w.heap.size + 4) s (.bool true)
 have hne9:∀ k,k ≠ w.heap.size + 4 → some k ≠ some (w.heap.size + 4):=fun k hk e=>hk (by injection e)
 have HM5:=Lib.hid (show Below w.heap.size w (w5.setCell ⟨w.heap.size + 4,s,none⟩ (.bool true))∧Blk (w5.setCell ⟨w.heap.size + 4,s,none⟩ (.bool true)) w.heap.size 105 (grc x ba n)∧Blk (w5.setCell ⟨w.heap.size + 4,s,none⟩ (.bool true)) (w.heap.size + 1) 115 [pv]∧Blk (w5.setCell ⟨w.heap.size + 4,s,none⟩ (.bool true)) (w.heap.size + 3) 188 [.slice (some ⟨w.heap.size + 2,0,none⟩) 1 1]∧(w5.setCell ⟨w.heap.size + 4,s,none⟩ (.bool true)).ownsRow w.heap.size 187 3 (.slice (some ⟨w.heap.size + 2,0,none⟩) 1 1) 1 ([(⟨s,-1,-1⟩:Stp)].flatMap stc)∧Blk (w5.setCell ⟨w.heap.size + 4,s,none⟩ (.bool true)) (w.heap.size + 4) 4 (bvl (fset (List.replicate n false) (s:Int)))∧Blk (w5.setCell ⟨w.heap.size + 4,s,none⟩ (.bool true)) (w.heap.size + 5) 87 [.slice (some ⟨w.heap.size + 4,0,none⟩) n n] from
  ⟨hb5.setCell (p:=⟨w.heap.size + 4,s,none⟩) (by show w.heap.size ≤ w.heap.size + 4;omega) _,k0.kept hgs (hne9 _ (by omega)),k1.kept hgs (hne9 _ (by omega)),k3.kept hgs (hne9 _ (by omega)),k2.kept hgs (own_ne_blk k2 k4 (by decide)),hk4,k5.kept hgs (hne9 _ (by omega))⟩)
 have HS6:=Lib.hid (show (w5.setCell ⟨w.heap.size + 4,s,none⟩ (.bool true)).heap.size = w.heap.size + 6 by rw [show (w5.setCell ⟨w.heap.size + 4,s,none⟩ (.bool true)).heap.size = w5.heap.size by simp [World.setCell]];exact hs5)
 clear c11 f4 c4 l4 k0 k1 k2 k3 k4 k5 hb5 hs5 hk4 hgs hne9
 obtain ⟨w6,hw6⟩:∃ w6,w6 = w5.setCell ⟨w.heap.size + 4,s,none⟩ (.bool true):=⟨_,rfl⟩
 rw [← hw6] at HM5 HS6
 have hw6':w5.setCell ⟨w.heap.size + 1 + 1 + 1 + 1,s,none⟩ (.bool true) = w6:=hw6.symm
 rw [hw6']
 clear hw6 hw6'
 have HPT:=Lib.hid (show PtM w (w6.alloc (.cells #[.int .i64 0] 3)) x ba n pv [] w6.heap.size 0 (some ⟨w.heap.size + 2,0,none⟩) 1 1 [⟨s,-1,-1⟩] (fset (List.replicate n false) (s:Int)) from by
  obtain ⟨h1,h2,h3,h4,h5,h6,h7⟩:=HM5.out
  have hb:=box_below w6 (.cells #[.int .i64 0] 3)
  have hz:=HS6.out
  exact ⟨h1.trans (hb.mono (by omega)),h2.below hb h2.lt,h3.below hb h3.lt,h4.below hb h4.lt,own_below h5 hb,h6.below hb h6.lt,h7.below hb h7.lt,Blk.new _ _ [_],by omega,rfl,List.nodup_nil,fun D hD=>by cases hD⟩)
 have HSW:=Lib.hid (StW.start (n:=n) (s:=(s:Int)) (by omega) (by omega))
 have HRR:=Lib.hid (show pthF a want perm (n + 1 - 0) 0 [⟨s,-1,-1⟩] (fset (List.replicate n false) (s:Int)) = RES from by
  have h:=HR.out
  unfold pathS at h
  rw [HST.out] at h
  exact h)
 go_wp2
 refine wp_loop_ghost (fun g a' W=>∃ (i m bI:Nat) (A9:Option Addr) (c9:Nat) (l:List Stp) (N:List Bool) (ds:List Nat),Frm [.agg #[.slice A na ca,.int .i64 (n:Int),.slice M nm cm,.slice E ne ce,.slice (some ⟨ba,0,none⟩) (n + 1) (n + 1)],.int .i64 (s:Int),.func (.func fw) #[] #[cw],.func (.func fp) #[] #[cp],.pointer (some ⟨w.heap.size,0,none⟩),undef,undef,.pointer (some ⟨w.heap.size + 1,0,none⟩),.slice none 0 0,.bool false,.pointer (some ⟨w.heap.size + 1 + 1 + 1,0,none⟩),.pointer (some ⟨w.heap.size + 1 + 1 + 1 + 1 + 1,0,none⟩),.pointer (some ⟨bI,0,none⟩)] ds a'∧Hid (PtM w W x ba n pv ds bI i A9 c9 m l N)∧Hid (StW n l N)∧Hid (pthF a want perm (n + 1 - i) i l N = RES)∧i ≤ m∧g = n + 1 - i) (n + 1) ?start ?round
 case start=>exact ⟨0,1,w6.heap.size,some ⟨w.heap.size + 2,0,none⟩,1,[⟨s,-1,-1⟩],fset (List.replicate n false) (s:Int),[],⟨rfl,rfl,rfl⟩,HPT,HSW,HRR,Nat.zero_le _,rfl⟩
 case round =>
  clear HPT HSW HRR HM5 HS6
  rintro g a' W ⟨i,m,bI,A9,c9,l,N,ds,hfr,HM,HSW,HRR,hi,rfl⟩
  refine Frm.elim (Q:=fun z=>Code.wp _ _ _ z _) ?_ a' hfr
  clear hfr a'
  intro y13 y14 y15 y16 y17 y18 y19 y20 y21 y22 y23 y24 y25 y26 y27 y28 y29 y30 y31 y32 y33 y34 y35 y36 y37 y38 y39 y40 y41 y42 y43 y44 y45 y46 y47 y48 y49 y50 y51 y52 y53 y54 y55 y56 y57 y58 y59 y60 y61 y62 y63 y64 y65 y66 y67 y68 y69 y70 y71 y72 y73 y74 y75 y76 y77 y78 y79 y80 y81 y82 y83 y84 y85 y86 y87 y88 y89 y90 y91 y92 y93 y94
  simp only [List.cons_append,List.nil_append]
  have cI:=HM.out.bi.cell (j:=0) rfl
  have c10:W.cell? ⟨w.heap.size + 1 + 1 + 1,0,none⟩ = some (.slice A9 m c9):=HM.out.b10.cell (j:=0) rfl
  have hmn:m ≤ n:=by have:=HSW.out.num;have:=HM.out.len;omega
  have hsz:=HM.out.siz
  obtain ⟨hc1,hc2⟩:=own_cap' HM.out.row
  by_cases hlt:i < m
  ·obtain ⟨ad,t,hA,hab,ht,hcell⟩:=RdR.get (RdR.of_own (f:=stc) (by omega) (fun _ _=>rfl) HM.out.row) (k:=i) (by rw [HM.out.len];exact hlt)
   subst hA
   have b1:(i:Int) < (m:Int):=by omega
   have q0:W.cell? (ad.add (i * 3)) = some (.int .i64 t.s):=hcell 0 _ rfl
   have htr:=HSW.out.rng t (List.mem_of_getElem? ht)
   obtain ⟨q,hq⟩:∃ q,want t.s = q:=⟨_,rfl⟩
   have HWT:=Lib.hid (HW.out t.s W htr.1 htr.2 HM.out.bel)
   rw [hq] at HWT
   have HT:=Lib.hid ht
   have HQ:=Lib.hid hq
   clear hq hcell
   cases q with
   | true =>
    have HRES:=Lib.hid (show RES = some (bckS l m i).reverse from by
     rw [← HRR.out,show n + 1 - i = (n - i) + 1 by omega]
     unfold pthF
     rw [HT.out]
     simp only
     rw [HQ.out,if_pos rfl,HM.out.len])
    have HCX:=Lib.hid (fun (V:World) (hb:Below W.heap.size W V)=>(show V.cell? ⟨w.heap.size + 1 + 1 + 1,0,none⟩ = some (.slice (some ad) m c9) from (HM.out.b10.below hb HM.out.b10.lt).cell (j:=0) rfl))
    have HRX:=Lib.hid (RdR.of_own (f:=stc) (by omega) (fun _ _=>rfl) HM.out.row)
    go_wp2_with (go_at_fn fw;refine HWT.out.mono ?_;rintro e W' ⟨rfl,rfl⟩)
    go_loopw [13,14] (fun s13 s14 wr=>∃ (kk mm:Nat) (v:Value) (wd:List Int),s13 = v∧s14 = .int .i64 kk∧kk < m∧mm + kk ≤ i∧Hid (wd.length = mm)∧Hid (wr.ownsRow W.heap.size 3 1 v mm (iv wd))∧Hid (bckS l m i = wd ++ bckS l (kk + 1) kk)∧Hid (Below W.heap.size W wr)) (fun _ s14 _=>(intOf s14).toNat)
    case atStart=>exact ⟨i,0,_,[],rfl,rfl,hlt,by omega,Lib.hid rfl,Lib.hid (World.ownsRow_nil _ _ _ _),Lib.hid (bckS_any HSW.out i m (i + 1) hlt (by omega)),Lib.hid (Below.refl _ _)⟩
    case round =>
     clear cI c10 q0
     obtain ⟨kk,mm,v,wd,rfl,rfl,hkk,hmm,HWL,HWO,HBK,HBW⟩:=hrel
     obtain ⟨WA,wc9,rfl⟩:=own_shape HWO.out
     obtain ⟨ad2,t2,hA2,hab2,ht2,hcell2⟩:=RdR.get HRX.out (k:=kk) (by rw [HM.out.len];exact hkk)
     obtain rfl:ad = ad2:=by injection hA2
     have HE:=Lib.hid (fun (V:World) (hb:Below W.heap.size W V)=>(show V.cell? ⟨w.heap.size + 1 + 1 + 1,0,none⟩ = some (.slice (some ad) m c9)∧V.cell? ⟨(ad.add (kk * 3)).block,(ad.add (kk * 3)).off + 1,none⟩ = some (.int .i64 t2.f)∧V.cell? ⟨(ad.add (kk * 3)).block,(ad.add (kk * 3)).off + 2,none⟩ = some (.int .i64 t2.e) from
      ⟨HCX.out V hb,st_cells (j:=0) ((hb.cell (p:=ad.add (kk * 3 + 1)) (by rw [block_of_add];exact hab2)).trans (hcell2 1 _ rfl)),st_cells (j:=1) ((hb.cell (p:=ad.add (kk * 3 + 2)) (by rw [block_of_add];exact hab2)).trans (hcell2 2 _ rfl))⟩))
     have b2:(kk:Int) < (m:Int):=by omega
     have hbk:=HSW.out.back kk t2 ht2
     have hws:=HBW.out.size
     obtain ⟨d0,d1,d2⟩:=HE.out wr HBW.out
     by_cases hf:0 ≤ t2.f
     ·obtain ⟨kf,hkf⟩:∃ k:Nat,t2.f = (k:Int):=⟨t2.f.toNat,by omega⟩
      have HBG:=Lib.hid (bckS_go HSW.out ht2 hkf)
      rw [hkf] at hf hbk d1 HE
      clear hcell2 hab2 ht2
      go_wp2_with (first
       | (at_builtin;refine wpList_pushA wr [.int .i64 t2.e] rfl (.tmp 51) (.tmp 57) 29 rfl W.heap.size 3 (.int .i64 0) 1 8 Try.underlying29 int_info rfl (by decide) rfl (.slice WA mm wc9) mm _ rfl HWO.out rfl (fun z hz=>by simp at hz;subst hz;rfl) (by omega) (by omega) hws ?_;intro A6 c6 w7 ho6 hg6 hl6;have HO6:=Lib.hid (show w7.ownsRow W.heap.size 3 1 (.slice A6 (mm + 1) c6) (mm + 1) (iv (wd ++ [t2.e])) from by rw [iv_append];exact ho6);have HB6:=Lib.hid (HBW.out.grown hg6 hws (fun z hz=>(HWO.out.lt z hz).1));clear ho6 hg6 hl6 d0 d1 d2;obtain ⟨d0,d1,d2⟩:=HE.out w7 HB6.out)
       | fail)
      go_roundw
      case rel=>exact ⟨kf,mm + 1,_,wd ++ [t2.e],rfl,rfl,by omega,by omega,Lib.hid (by rw [List.length_append,HWL.out];rfl),HO6,Lib.hid (by rw [HBK.out,HBG.out,List.append_assoc];rfl),HB6⟩
      case measure=>simp [intOf];omega
     ·have HW9:=Lib.hid (show bckS l m i = wd from by rw [HBK.out,bckS_stop ht2 (by omega),List.append_nil])
      have hf':¬ (t2.f ≥ 0):=hf
      have HRV:=Lib.hid (reverse_own W.heap.size mm (.slice WA mm wc9) wd wr HWO.out HWL.out (by omega))
      clear hcell2 hab2 ht2
      go_wp2_with (first | (go_at_call 90;refine HRV.out.mono ?_;rintro e w7 ⟨rfl,ho7,hg7⟩) | fail)
      have HB7:=Lib.hid (HBW.out.grown hg7 hws (fun z hz=>(HWO.out.lt z hz).1))
      change LeavesInM Fence.wide 6 Try.prog Try.f111 _ _ (marks ds) .returning _
      refine leaves_marksI (B:=w.heap.size) (fun V=>Below w.heap.size w V∧V.ownsRow W.heap.size 3 1 (.slice WA mm wc9) mm (iv wd.reverse)) (fun V D hV hB hD=>⟨hV.1.trans (belowK_b (w:=w) (Nat.le_refl _) V D _ _ hB hD rfl rfl),own_ncl hV.2 (grownBy_putObj' V D _) (fun r e=>by cases e;exact ⟨_,hD,rfl⟩)⟩) ds w7 HM.out.nd (fun D hD=>⟨(HM.out.mrk D hD).1,(HB7.out.block D (Array.getElem?_eq_some_iff.1 (HM.out.mrk D hD).2).1).trans (HM.out.mrk D hD).2⟩) ⟨HM.out.bel.trans (HB7.out.mono (by omega)),ho7⟩ (fun V hV=>⟨.tuple #[.slice WA mm wc9,.bool true],by simp [results,Try.results111,go_sem],?_⟩)
      rw [HRES.out,HW9.out]
      exact ⟨_,rfl,by rw [List.length_reverse,HWL.out];exact own_base hV.2 (by omega),hV.1⟩
   | false =>
    have HPF:=Lib.hid (show pthF a want perm (n + 1 - (i + 1)) (i + 1) (rowS perm i (outE a t.s) l N).1 (rowS perm i (outE a t.s) l N).2 = RES from by
     have h:=HRR.out
     rw [show n + 1 - i = (n + 1 - (i + 1)) + 1 by omega] at h
     unfold pthF at h
     rw [HT.out] at h
     simp only at h
     rw [HQ.out,if_neg (by simp)] at h
     exact h)
    obtain ⟨ts,hts⟩:∃ k:Nat,t.s = (k:Int):=⟨t.s.toNat,by omega⟩
    have htn:ts < n:=by omega
    have HAX:=Lib.hid (fun (V:World) (hb:Below W.heap.size W V)=>(show (V.cell? ⟨w.heap.size,0,none⟩ = some (.slice A na ca)∧V.cell? ⟨w.heap.size,1,none⟩ = some (.int .i64 (n:Int))∧V.cell? ⟨w.heap.size,2,none⟩ = some (.slice M nm cm)∧V.cell? ⟨w.heap.size,3,none⟩ = some (.slice E ne ce)∧V.cell? ⟨w.heap.size,4,none⟩ = some (.slice (some ⟨ba,0,none⟩) (n + 1) (n + 1)))∧V.cell? ⟨w.heap.size + 1 + 1 + 1,0,none⟩ = some (.slice (some ad) m c9)∧V.cell? ⟨bI,0,none⟩ = some (.int .i64 (i:Int))∧V.cell? (ad.add (i * 3)) = some (.int .i64 t.s) from by
     have kg:=HM.out.g.below hb HM.out.g.lt
     rw [HGC.out] at kg
     exact ⟨⟨kg.cell (j:=0) rfl,kg.cell (j:=1) rfl,kg.cell (j:=2) rfl,kg.cell (j:=3) rfl,kg.cell (j:=4) rfl⟩,(HM.out.b10.below hb HM.out.b10.lt).cell (j:=0) rfl,(HM.out.bi.below hb HM.out.bi.lt).cell (j:=0) rfl,(hb.cell (p:=ad.add (i * 3)) (by rw [block_of_add];exact hab)).trans q0⟩))
    rw [hts] at HAX q0 HWT HPF
    have hst9:t.s = (ts:Int):=hts
    go_wp2_with (go_at_fn fw;refine HWT.out.mono ?_;rintro e W' ⟨rfl,rfl⟩)
    go_upto_region 15 with fail
    refine wp_region_U (fun V=>(V.cell? ⟨w.heap.size,0,none⟩ = some (.slice A na ca)∧V.cell? ⟨w.heap.size,1,none⟩ = some (.int .i64 (n:Int))∧V.cell? ⟨w.heap.size,2,none⟩ = some (.slice M nm cm)∧V.cell? ⟨w.heap.size,3,none⟩ = some (.slice E ne ce)∧V.cell? ⟨w.heap.size,4,none⟩ = some (.slice (some ⟨ba,0,none⟩) (n + 1) (n + 1)))∧V.cell? ⟨w.heap.size + 1 + 1 + 1,0,none⟩ = some (.slice (some ad) m c9)∧V.cell? ⟨bI,0,none⟩ = some (.int .i64 (i:Int))∧V.cell? (ad.add (i * 3)) = some (.int .i64 (ts:Int))) (fun _=>True) 6 (by kernel_rfl) ?_
    change anyU _ _ _ _ _ _ _ 7 _ _ _
    have hB0:True:=trivial
    have HBD:=Lib.hid (below_dr W)
    have hA0:=HAX.out _ HBD.out
    clear cI c10 q0 HWT
    generalize W.drew = wd at HBD hA0 ⊢
    have HED:=Lib.hid (edges_ok x ba n (ts:Int) wd)
    rw [HGC.out] at HED
    (refine uA 0 ?_ rfl hA0 hB0 (fun W hA=>?_) ?_;rotate_left;(· (obtain ⟨⟨a0,a1,a2,a3,a4⟩,_⟩:=hA;go_simp;try with_reducible rfl));(try simp only [Act.put,List.setIfInBounds_toArray,List.set_cons_zero,List.set_cons_succ]))
    (refine uA 1 ?_ rfl hA0 hB0 (fun W hA=>?_) ?_;rotate_left;(· (obtain ⟨_,a0,_⟩:=hA;go_simp;try with_reducible rfl));(try simp only [Act.put,List.setIfInBounds_toArray,List.set_cons_zero,List.set_cons_succ]))
    (refine uA 2 ?_ rfl hA0 hB0 (fun W hA=>?_) ?_;rotate_left;(· (obtain ⟨_,_,a0,_⟩:=hA;go_simp;try with_reducible rfl));(try simp only [Act.put,List.setIfInBounds_toArray,List.set_cons_zero,List.set_cons_succ]))
    (refine uA 3 ?_ rfl hA0 hB0 (fun W hA=>?_) ?_;rotate_left;(· (go_simp;try with_reducible rfl));refine uA 4 ?_ rfl hA0 hB0 (fun W hA=>?_) ?_;rotate_left;(· (go_simp;try with_reducible rfl));(try simp only [Act.put,List.setIfInBounds_toArray,List.set_cons_zero,List.set_cons_succ]))
    (refine uA 5 ?_ rfl hA0 hB0 (fun W hA=>?_) ?_;rotate_left;(· (obtain ⟨_,_,_,a0⟩:=hA;go_simp;try with_reducible rfl));(try simp only [Act.put,List.setIfInBounds_toArray,List.set_cons_zero,List.set_cons_succ]))
    refine uOne (i:=6) rfl (by kernel_rfl) (fun K hK=>?_)
    go_simp
    go_at_call 69
    refine HED.out.mono ?_
    rintro e we ⟨rfl,hwe⟩
    have hbx1:=box_below wd (.cells (grc x ba n).toArray 105)
    have hbx2:=hbx1.alloc hbx1.size (.cells #[.int .i64 (ts:Int)] 3)
    have kg1:=(Blk.new wd 105 (grc x ba n)).al (.cells #[.int .i64 (ts:Int)] 3)
    have ks1:=Blk.at_ (b:=wd.heap.size + 1) (wd.alloc (.cells (grc x ba n).toArray 105)) 3 [.int .i64 (ts:Int)] (by simp)
    rw [HGC.out] at hbx2 kg1 ks1
    rw [← hwe] at hbx2
    rw [show ((wd.alloc (.cells (#[.slice A na ca,.int .i64 (n:Int),.slice M nm cm,.slice E ne ce,.slice (some ⟨ba,0,none⟩) (n + 1) (n + 1)]) 105)).alloc (.cells #[.int .i64 (ts:Int)] 3)) = we from hwe.symm] at kg1 ks1
    rw [← HGC.out] at kg1
    have HBE:=Lib.hid (HBD.out.trans (hbx2.mono HBD.out.size))
    have hA1:=HAX.out we HBE.out
    clear hA0
    have hA0:=hA1
    have hwz:wd.heap.size + 1 < we.heap.size:=ks1.lt
    have hwd:W.heap.size ≤ wd.heap.size:=HBD.out.size
    have HKG:=Lib.hid kg1
    have HKS:=Lib.hid ks1
    clear hwe hbx1 hbx2 kg1 ks1 HED
    (refine hK _ _ ⟨hA1,fun _=>hB0⟩ ?_;clear hK K;(try simp only [Act.put,List.setIfInBounds_toArray,List.set_cons_zero,List.set_cons_succ]))
    refine anyU_done (by kernel_rfl) ?_ _
    clear hA0
    go_wp2
    have HME:=Lib.hid (HM.out.quiet HBE.out)
    have hwe:W.heap.size ≤ we.heap.size:=HBE.out.size
    have HGE:=Lib.hid (HG.out.keep HME.out.bel)
    refine rf_named (fun a0 ha0=>?_)
    refine (wpIn_wide (n:=6)).1 ?_
    refine wpIn_rangeFunc_ownH (F:=Fence.wide) (n:=6) rfl (by omega) (gf:=89) (lb:=#[.pointer (some ⟨wd.heap.size,0,none⟩),.pointer (some ⟨wd.heap.size + 1,0,none⟩)]) (by rw [ha0];rfl) trivial (enters_of Try.func89 (by kernel_rfl) rfl)
     (edges_stops 5 (by omega) wd.heap.size (wd.heap.size + 1) w.heap.size n ts ba x htn we HKG.out HKS.out HGE.out (by omega)) KpG.t (KpG.b (by omega)) (Below.refl _ _) (fun _=>rfl)
     (fun pre V=>∃ (A2:Option Addr) (c2 m2:Nat) (l2:List Stp) (N2:List Bool),Hid (rowS perm i (pre.map Subtype.val) l N = (l2,N2))∧Hid (PtM w V x ba n pv ds bI i A2 c2 m2 l2 N2)∧Hid (StW n l2 N2)∧m ≤ m2∧Hid (Blk V wd.heap.size 105 (grc x ba n))∧Hid (Blk V (wd.heap.size + 1) 3 [.int .i64 (ts:Int)]))
     (fun _ _ _=>False) ?hI (fun _ _ _ _ _ hs _ _=>hs) ⟨some ad,c9,m,l,N,Lib.hid rfl,HME,HSW,Nat.le_refl _,HKG,HKS⟩
     (fun e a' V=>∃ Bx:Nat,w.heap.size + 6 < Bx∧Hid (Blk V Bx 67 [.int .i64 e.1.f,.int .i64 e.1.e,.int .i64 e.1.t])∧a' = { tmps:=(a0.tmps.setIfInBounds 69 (.agg #[.int .i64 e.1.f,.int .i64 e.1.e,.int .i64 e.1.t])).setIfInBounds 15 (.pointer (some ⟨Bx,0,none⟩)),defers:=[] })
     ?hAx ?assign ?body ?done ?stop
    case hI =>
     rintro pre V V' row ⟨A2,c2,m2,l2,N2,HRW,HM2,HS2,hm2,HG2,HI2⟩ hgr hrw
     exact ⟨A2,c2,m2,l2,N2,HRW,Lib.hid (HM2.out.ncl hgr hrw (fun D hD=>by have:=(Array.getElem?_eq_some_iff.1 (HM.out.mrk D hD).2).1;omega) (by omega)),HS2,hm2,Lib.hid (HG2.out.ncl hgr (fun r e=>(hrw r e).2)),Lib.hid (HI2.out.ncl hgr (fun r e=>(hrw r e).2))⟩
    case hAx =>
     rintro e a' _ V V' row ⟨Bx,h1,h2,h3⟩ hgr hrw
     exact ⟨Bx,h1,Lib.hid (h2.out.ncl hgr (fun r e=>(hrw r e).2)),h3⟩
    case assign =>
     rintro ll pre e V K ⟨A2,c2,m2,l2,N2,HRW,HM2,HS2,hm2,HG2,HI2⟩ hK
     subst ha0
     dsimp only [evl]
     gi_wp2
     have hbv:=box_below V (.cells #[.int .i64 e.1.f,.int .i64 e.1.e,.int .i64 e.1.t] 67)
     have hsv:=HM2.out.siz
     refine hK _ _ ((KeepsOthers.alloc _ _).from _) ⟨hbv.mono (by omega),fun t vs hb=>hb.al _,fun t vs hb=>hb.al _⟩ ⟨A2,c2,m2,l2,N2,HRW,Lib.hid (HM2.out.quiet hbv),HS2,hm2,Lib.hid (HG2.out.al _),Lib.hid (HI2.out.al _)⟩ ⟨V.heap.size,by omega,Lib.hid (Blk.new _ _ [_,_,_]),rfl⟩
    case body =>
     rintro ll pre ⟨ee,hee⟩ a' V hl9 ⟨r9,hr9⟩ ⟨A2,c2,m2,l2,N2,HRW,HM2,HS2,hm2,HG2,HI2⟩ ⟨Bx,hBx,HKX,rfl⟩ hlen
     subst ha0
     dsimp only at HKX
     simp only [List.setIfInBounds_toArray,List.set_cons_succ,List.set_cons_zero]
     have hme:=outE_mem.1 hee
     rw [HXA.out] at hme
     have hev:=HWF.out.ev_rng hme.1
     rw [HST.out] at hev
     obtain ⟨fq,hfq⟩:∃ q,fl N2 ee.t = q:=⟨_,rfl⟩
     have hNl:=HS2.out.nl
     have c11:V.cell? ⟨w.heap.size + 1 + 1 + 1 + 1 + 1,0,none⟩ = some (.slice (some ⟨w.heap.size + 1 + 1 + 1 + 1,0,none⟩) n n):=HM2.out.b11.cell (j:=0) rfl
     have x0:=HKX.out.cell (j:=0) rfl
     have x1:=HKX.out.cell (j:=1) rfl
     have x2:=HKX.out.cell (j:=2) rfl
     have g1:V.cell? ⟨w.heap.size + 1 + 1 + 1 + 1,ee.t.toNat,none⟩ = some (.bool fq):=HM2.out.bn.cell (by rw [bvl_get,fl_get hfq (by omega) (by omega)];rfl)
     have cpv:V.cell? ⟨w.heap.size + 1,0,none⟩ = some pv:=HM2.out.p.cell (j:=0) rfl
     rw [HPV.out] at cpv
     have t0:¬ ee.t < 0:=by omega
     have t1:ee.t < (n:Int):=by omega
     have t2:(0:Int) ≤ ee.t:=by omega
     have t3:ee.t.toNat < n:=by omega
     cases fq with
     | true =>
      have HNO:=Lib.hid (rowS_no (e:=ee) HRW.out (by rw [hfq];simp))
      gi_wp2
      refine ⟨fun _ h=>(by cases h),?_⟩
      gi_wp2
      exact ⟨KeepsFrom.refl _ _,⟨Below.refl _ _,fun _ _ h=>h,fun _ _ h=>h⟩,A2,c2,m2,l2,N2,Lib.hid (by rw [List.map_append];exact HNO.out),HM2,HS2,hm2,HG2,HI2⟩
     | false =>
      have HPE:=Lib.hid (HP.out ee V hme.1 HM2.out.bel)
      obtain ⟨pq,hpq⟩:∃ q,perm ee = q:=⟨_,rfl⟩
      rw [hpq] at HPE
      unfold evl at HPE
      rw [hme.2] at HPE
      gi_wp2
      refine ⟨trivial,?_⟩
      refine (CallsIn.inRound ll (callsIn_wide.2 HPE.out)).mono ?_
      rintro r V2 ⟨rfl,hv2⟩
      have HM3:=Lib.hid (HM2.out.quiet hv2)
      have HK3:=Lib.hid (HKX.out.below hv2 HKX.out.lt)
      have HV2:=Lib.hid hv2
      have hsv2:=hv2.size
      clear c11 x0 x1 x2 g1 cpv hv2
      cases pq with
      | false =>
       have HNO:=Lib.hid (rowS_no (e:=ee) HRW.out (by rw [hpq];simp))
       gi_wp2
       exact ⟨(KeepsOthers.of_grownBy (grown_below HV2.out none) (fun _ _ e=>by cases e)).from _,⟨HV2.out.mono (by have:=HM2.out.siz;omega),fun _ _ h=>h.below HV2.out h.lt,fun _ _ h=>h.below HV2.out h.lt⟩,A2,c2,m2,l2,N2,Lib.hid (by rw [List.map_append];exact HNO.out),HM3,HS2,hm2,Lib.hid (HG2.out.below HV2.out HG2.out.lt),Lib.hid (HI2.out.below HV2.out HI2.out.lt)⟩
      | true =>
       have HYE:=Lib.hid (rowS_yes (e:=ee) HRW.out ⟨hfq,hpq⟩)
       have HS3:=Lib.hid (HS2.out.push (x:=ee) (i:=i) (by rw [HM2.out.len];omega) t2 t1 (by omega) (by omega) hfq)
       have c11:V2.cell? ⟨w.heap.size + 1 + 1 + 1 + 1 + 1,0,none⟩ = some (.slice (some ⟨w.heap.size + 1 + 1 + 1 + 1,0,none⟩) n n):=HM3.out.b11.cell (j:=0) rfl
       have x0:=HK3.out.cell (j:=0) rfl
       have x1:=HK3.out.cell (j:=1) rfl
       have x2:=HK3.out.cell (j:=2) rfl
       have g1:V2.cell? ⟨w.heap.size + 1 + 1 + 1 + 1,ee.t.toNat,none⟩ = some (.bool false):=HM3.out.bn.cell (by rw [bvl_get,fl_get hfq (by omega) (by omega)];rfl)
       have f1:V2.frozen? ⟨w.heap.size + 1 + 1 + 1 + 1,ee.t.toNat,none⟩ = false:=HM3.out.bn.free _
       have l1:w.heap.size + 1 + 1 + 1 + 1 < V2.heap.size:=HM3.out.bn.lt
       have c10:V2.cell? ⟨w.heap.size + 1 + 1 + 1,0,none⟩ = some (.slice A2 m2 c2):=HM3.out.b10.cell (j:=0) rfl
       have cI:=HM3.out.bi.cell (j:=0) rfl
       have hli:=HM3.out.lti
       have nb1:¬ bI = w.heap.size + 1 + 1 + 1 + 1:=by omega
       have nb2:¬ Bx = w.heap.size + 1 + 1 + 1 + 1:=by omega
       have HM4:=Lib.hid (HM3.out.flag (s:=ee.t) t2 (by omega))
       obtain ⟨i0,hi0,hz0,hz1,hz2⟩:=info_parts stp_info
       have hmb:m2 + 1 ≤ 4097:=by have:=HS2.out.num;have:=HM2.out.len;omega
       have HBX:=Lib.hid (box_below (V2.setCell ⟨w.heap.size + 4,ee.t.toNat,none⟩ (.bool true)) (.cells #[.int .i64 ee.t,.int .i64 (i:Int),.int .i64 ee.e] 187))
       have HM5:=Lib.hid (HM4.out.quiet HBX.out)
       have HNW:=Lib.hid (show Blk ((V2.setCell ⟨w.heap.size + 4,ee.t.toNat,none⟩ (.bool true)).alloc (.cells #[.int .i64 ee.t,.int .i64 (i:Int),.int .i64 ee.e] 187)) (V2.setCell ⟨w.heap.size + 4,ee.t.toNat,none⟩ (.bool true)).heap.size 187 [.int .i64 ee.t,.int .i64 (i:Int),.int .i64 ee.e] from Blk.new _ _ [_,_,_])
       have HSZ:=Lib.hid (show (V2.setCell ⟨w.heap.size + 4,ee.t.toNat,none⟩ (.bool true)).heap.size = V2.heap.size by simp [World.setCell])
       rw [HSZ.out] at HNW
       have hb3:w.heap.size ≤ ((V2.setCell ⟨w.heap.size + 4,ee.t.toNat,none⟩ (.bool true)).alloc (.cells #[.int .i64 ee.t,.int .i64 (i:Int),.int .i64 ee.e] 187)).heap.size:=by have:=HM5.out.siz;omega
       gi_wp2_with (first
        | (gi_at_builtin;refine wpListIn_append_own ((V2.setCell ⟨w.heap.size + 4,ee.t.toNat,none⟩ (.bool true)).alloc (.cells #[.int .i64 ee.t,.int .i64 (i:Int),.int .i64 ee.e] 187)) rfl (.tmp 85) (.tmp 92) 188 rfl w.heap.size 187 i0 (.agg #[.int .i64 0,.int .i64 0,.int .i64 0]) 3 24 Try.underlying188 hi0 hz0 hz1 hz2 rfl (by decide) (.slice A2 m2 c2) m2 _ rfl HM5.out.row ⟨V2.heap.size,0,none⟩ 1 1 [.int .i64 ee.t,.int .i64 (i:Int),.int .i64 ee.e] rfl rfl (fun j u hu=>by rw [add_lit0];exact HNW.out.cell hu) (fun u hu=>by simp at hu;rcases hu with rfl | rfl | rfl <;> rfl) (by unfold maxLen;omega) (by omega) hb3 ?_;intro v9 w9 ho9 hg9 _;obtain ⟨A9,c99,rfl⟩:=own_shape ho9;have k10:=HM5.out.b10.kept hg9 (blk_ne_own HM5.out.row HM5.out.b10 (by decide));have e10:w9.cell? ⟨w.heap.size + 1 + 1 + 1,0,none⟩ = some (.slice A2 m2 c2):=k10.cell (j:=0) rfl;have f10:w9.frozen? ⟨w.heap.size + 1 + 1 + 1,0,none⟩ = false:=k10.free 0;have l10:w.heap.size + 1 + 1 + 1 < w9.heap.size:=k10.lt)
        | fail)
       have HMF:=Lib.hid (HM5.out.push (t:=⟨ee.t,i,ee.e⟩) ho9 hg9)
       have hv0:=HM2.out.siz
       have kp:∀ b,w.heap.size + 6 < b → some b ≠ (Value.slice A2 m2 c2).ownBlock → ∀ t vs,Blk V b t vs → Blk (w9.setCell ⟨w.heap.size + 3,0,none⟩ (.slice A9 (m2 + 1) c99)) b t vs:=fun b hb hne t vs h =>
        ((((h.below HV2.out h.lt).kept (grown_setCell V2 (w.heap.size + 4) ee.t.toNat (.bool true)) (fun e=>by injection e with e;omega)).al _).kept hg9 hne).kept (grown_setCell w9 (w.heap.size + 3) 0 (.slice A9 (m2 + 1) c99)) (fun e=>by injection e with e;omega)
       have k4:∀ b,w.heap.size + 6 < b → ∀ t vs,Blk V b t vs → Blk ((V2.setCell ⟨w.heap.size + 4,ee.t.toNat,none⟩ (.bool true)).alloc (.cells #[.int .i64 ee.t,.int .i64 (i:Int),.int .i64 ee.e] 187)) b t vs:=fun b hb t vs h =>
        ((h.below HV2.out h.lt).kept (grown_setCell V2 (w.heap.size + 4) ee.t.toNat (.bool true)) (fun e=>by injection e with e;omega)).al _
       have n1:=blk_ne_own HM5.out.row (k4 _ (by omega) _ _ HG2.out) (by decide)
       have n2:=blk_ne_own HM5.out.row (k4 _ (by omega) _ _ HI2.out) (by decide)
       have B1:Below w.heap.size V V2:=HV2.out.mono (by omega)
       have B2:=B1.setCell (p:=⟨w.heap.size + 4,ee.t.toNat,none⟩) (by show w.heap.size ≤ w.heap.size + 4;omega) (.bool true)
       have B3:=B2.alloc (by have:=HSZ.out;omega) (.cells #[.int .i64 ee.t,.int .i64 (i:Int),.int .i64 ee.e] 187)
       have B4:=(B3.grown hg9 hb3 (fun k e=>(HM5.out.row.lt k e).1)).setCell (p:=⟨w.heap.size + 3,0,none⟩) (by show w.heap.size ≤ w.heap.size + 3;omega) (.slice A9 (m2 + 1) c99)
       have ko:=((((KeepsOthers.of_grownBy (grown_below HV2.out none) (fun _ _ e=>by cases e)).trans (KeepsOthers.setCell V2 ⟨w.heap.size + 4,ee.t.toNat,none⟩ (.bool true))).trans (KeepsOthers.alloc _ (.cells #[.int .i64 ee.t,.int .i64 (i:Int),.int .i64 ee.e] 187))).trans (KeepsOthers.of_grownBy hg9 (own_cells HM5.out.row))).trans (KeepsOthers.setCell w9 ⟨w.heap.size + 3,0,none⟩ (.slice A9 (m2 + 1) c99))
       exact ⟨ko.from _,⟨B4,kp _ (by omega) n1,kp _ (by omega) n2⟩,A9,c99,m2 + 1,l2 ++ [⟨ee.t,i,ee.e⟩],fset N2 ee.t,Lib.hid (by rw [List.map_append];exact HYE.out),HMF,HS3,by omega,Lib.hid (kp _ (by omega) n1 _ _ HG2.out),Lib.hid (kp _ (by omega) n2 _ _ HI2.out)⟩
    case done =>
     rintro D ys V hD hys ⟨A2,c2,m2,l2,N2,HRW,HM2,HS2,hm2,_,_⟩ hK
     rw [hys,HXA.out] at HRW
     rw [HRW.out] at HPF
     subst ha0
     have cI2:=HM2.out.bi.cell (j:=0) rfl
     have hin:(i:Int) + 1 ≤ 9223372036854775807:=by omega
     have hszw:=HME.out.siz
     have hnx:=Lib.hid (HM2.out.next (D:=D) hK (by omega) (fun h=>by have:=(Array.getElem?_eq_some_iff.1 (HME.out.mrk D h).2).1;omega))
     clear hszw
     go_wp2
     exact ⟨n + 1 - (i + 1),by omega,i + 1,m2,V.heap.size,A2,c2,l2,N2,D :: ds,⟨rfl,rfl,rfl⟩,hnx,HS2,HPF,by omega,rfl⟩
    case stop =>
     rintro D c pre V _ _ h _
     exact h.elim
  ·obtain rfl:i = m:=by omega
   have b1:¬ (i:Int) < (i:Int):=by omega
   have HNO:=Lib.hid (show RES = none from by
    rw [← HRR.out,show n + 1 - i = (n - i) + 1 by omega]
    unfold pthF
    rw [List.getElem?_eq_none (by rw [HM.out.len];exact Nat.le_refl _)])
   go_wp2
   change LeavesInM Fence.wide 6 Try.prog Try.f111 _ _ (marks ds) .returning _
   refine leaves_marksI (B:=w.heap.size) (fun V=>Below w.heap.size w V) (fun V D hV hB hD=>hV.trans (belowK_b (w:=w) (Nat.le_refl _) V D _ _ hB hD rfl rfl)) ds W HM.out.nd HM.out.mrk HM.out.bel (fun V hV=>⟨.tuple #[.slice none 0 0,.bool false],by simp [results,Try.results111,go_sem],?_⟩)
   rw [HNO.out]
   exact ⟨rfl,hV⟩
end Go.Proofs.Ytdnmpndnpfklcaa

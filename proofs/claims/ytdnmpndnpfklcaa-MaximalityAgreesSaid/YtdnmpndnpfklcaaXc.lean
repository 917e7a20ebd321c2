/- Walks: maximality.Check, distances. -/
import Derived.Test.YtdnmpndnpfklcaaXb
import Derived.Test.YtdnmpndnpfklcaaIf
namespace Go.Proofs.Ytdnmpndnpfklcaa
open Go.RowKit Go Go.Maps
set_option maxHeartbeats 800000 in
theorem max_Check (z:PB) (w:World) (h:z.ok w w.heap.size) (hm:z.m.ok) :
  Calls Try.prog 36 #[.agg (pbc z).toArray] w fun e w'=>e = .returned (.int .i64 0)∧Below w.heap.size w w':=by
 have hb1:=box_below w (.cells (pbc z).toArray 34)
 have kx:=Blk.new w 34 (pbc z)
 obtain ⟨w1,hw1⟩:∃ w1,w1 = w.alloc (.cells (pbc z).toArray 34):=⟨_,rfl⟩
 rw [← hw1] at hb1 kx
 unfold pbc at kx hw1
 have HK:=Lib.hid (fun (W:World) (hb:Below w1.heap.size w1 W)=>Blk.c6 (kx.below hb kx.lt))
 have HZ:=Lib.hid (fun (W:World) (hb:Below w1.heap.size w1 W)=>(h.below (hb1.trans (hb.mono hb1.size))).more (hb1.trans (hb.mono hb1.size)).size)
 have HC:=Lib.hid (automaton_Check z.x.A z.x.na z.x.ca z.x.M z.x.nm z.x.cm z.x.E z.x.ne z.x.ce z.x.a w1 (AutR.more (AutR.below h.x hb1) hb1.size))
 have hck:chkA z.x.a = 0:=hm.wf.chk
 rw [hck] at HC
 have HU:=Lib.hid (fun (W:World) (hb:Below w1.heap.size w1 W)=>alphabet_CheckSet_n z.u.A z.u.c z.u.n z.u.l 32 0 W (HZ.out W hb).u.la (setErr_fit hm.uinc hm.urng) (HZ.out W hb).u.ra (HZ.out W hb).u.ac (HZ.out W hb).u.cA)
 have HF:=Lib.hid (fun (W:World) (hb:Below w1.heap.size w1 W)=>alphabet_CheckSet_n z.f.A z.f.c z.f.n z.f.l z.x.a.st 0 W (HZ.out W hb).f.la (setErr_fit hm.finc hm.frng) (HZ.out W hb).f.ra (HZ.out W hb).f.ac (HZ.out W hb).f.cA)
 have HB:=Lib.hid hb1
 have HW:=Lib.hid hw1
 obtain ⟨⟨A,na,ca,M,nm,cm,E,ne,ce,a⟩,⟨UA,un,uc,ul⟩,FA,fn,fc,flx⟩:=z
 unfold pbc
 dsimp only at HK HC HU HF HW ⊢
 obtain ⟨sv,hsv⟩:∃ s,a.st = s:=⟨_,rfl⟩
 rw [hsv] at HK HC HF HW ⊢
 obtain ⟨⟨a0,a1,a2,a3,a4⟩,a5⟩:=HK.out w1 (Below.refl _ _)
 clear h hm kx hb1 hw1 hsv hck HZ
 go_enter Try.func36,Try.ntmps36
 go_upto_region 1 with fail
 rw [← HW.out]
 go_wp2_with fail
 refine HC.out.mono ?_
 rintro _ w2 ⟨rfl,hb2⟩
 have HB2:=Lib.hid hb2
 clear a0 a1 a2 a3 a4 a5 HC
 obtain ⟨⟨a0,a1,a2,a3,a4⟩,a5⟩:=HK.out w2 hb2
 clear hb2
 go_wp2_with fail
 refine (HU.out w2 HB2.out).mono ?_
 rintro _ w3 ⟨rfl,rfl⟩
 go_wp2_with fail
 refine (HF.out w2 HB2.out).mono ?_
 rintro _ w3 ⟨rfl,rfl⟩
 go_wp2
 go_ret
 exact ⟨rfl,HB.out.trans (HB2.out.mono HB.out.size)⟩
theorem InM.rdx_at {B:Nat} {w0 w:World} {o n:Nat} {es:List Ed} {g:Int → Option Hd} {t:Int} {A:Option Addr} {m c:Nat} (h:InM B w0 w o n es g) (e:hvl (g t) = .slice A m c):RdX w w.heap.size A (preL es t):=by
 obtain ⟨A',c',e',h1⟩:=h.rdx t
 rw [e] at e'
 injection e' with e1 e2 e3
 rw [e1]
 exact h1
theorem own_addr {w:World} {base:Nat} {e:TypeId} {size n n' c:Nat} {oa:Addr} {xs:List Value} (h:w.ownsRow base e size (.slice (some oa) n c) n' xs):base ≤ oa.block∧oa.block < w.heap.size:=by
 rcases h.2 with ⟨h1,_⟩ | ⟨g,cap,cur,h1,hb,hg,_⟩
 ·cases h1
 ·injection h1 with h1 _ _
  injection h1 with h1
  subst h1
  exact ⟨hb,(Array.getElem?_eq_some_iff.1 hg).1⟩
theorem cell_far {w:World} {p q:Addr} {v:Value} (h:p.block ≠ q.block):(w.setCell q v).cell? p = w.cell? p:=World.cell?_of_block (Below.heap_setCell _ _ _ _ h)
structure DisW (w1 W:World) (qv:Value) (q:Nat) (s:DS):Prop where
 bel:Below w1.heap.size w1 W
 out:Blk W w1.heap.size 3 (iv s.1)
 row:W.ownsRow (w1.heap.size + 1) 3 1 qv q (iv s.2)
 ql:s.2.length = q
section
variable {w1 W W':World} {qv:Value} {q:Nat} {s:DS}
theorem DisW.siz (h:DisW w1 W qv q s):w1.heap.size + 1 ≤ W.heap.size:=h.out.lt
theorem DisW.quiet (h:DisW w1 W qv q s) (hb:Below W.heap.size W W'):DisW w1 W' qv q s :=
 ⟨h.bel.trans (hb.mono h.bel.size),h.out.below hb h.out.lt,own_below h.row hb,h.ql⟩
theorem DisW.set (h:DisW w1 W qv q s) {j:Nat} (hj:j < s.1.length) (v:Int):DisW w1 (W.setCell ⟨w1.heap.size,j,none⟩ (.int .i64 v)) qv q (s.1.set j v,s.2):=by
 have hg:=grown_setCell W w1.heap.size j (.int .i64 v)
 refine ⟨h.bel.setCell (p:=⟨w1.heap.size,j,none⟩) (Nat.le_refl _) _,?_,h.row.kept hg ?_,h.ql⟩
 ·have:=h.out.set (j:=j) (by rw [iv_length];exact hj) (.int .i64 v)
  rwa [iv_set] at this
 ·cases hq:qv.ownBlock with
  | none=>exact .inl rfl
  | some g=>exact .inr (by have:=(h.row.lt g hq).1;intro e;injection e with e;omega)
theorem DisW.push (h:DisW w1 W qv q s) {v':Value} {x:Int} (ho:W'.ownsRow (w1.heap.size + 1) 3 1 v' (q + 1) (iv s.2 ++ [.int .i64 x])) (hg:W.grownBy W' qv.ownBlock):DisW w1 W' v' (q + 1) (s.1,s.2 ++ [x]) :=
 ⟨h.bel.grown hg h.bel.size (fun j hj=>by have:=(h.row.lt j hj).1;omega),h.out.kept hg (fun e=>by have:=(h.row.lt _ e.symm).1;omega),by rw [iv_append];exact ho,by rw [List.length_append,h.ql];rfl⟩
theorem DisW.cell (h:DisW w1 W qv q s) {k:Int} (h0:0 ≤ k) (h1:k.toNat < s.1.length) {v:Int} (hv:gI s.1 k = v):W.cell? ⟨w1.heap.size,k.toNat,none⟩ = some (.int .i64 v):=by
 have:=h.out.cell (iv_gI (l:=s.1) (i:=k.toNat) h1)
 rw [show ((k.toNat:Nat):Int) = k by omega,hv] at this
 exact this
end
theorem DsQ.fin {es:List Ed} {N:List Bool} {ma:List Int} {n i:Nat} {k:Int} {s:DS} (h:DsQ es N ma n i k (preL es k) s):DsI es N ma n (i + 1) s:=by
 obtain ⟨o,a,r⟩:=h
 refine ⟨o.len,o.nd,o.rng,o.on,o.snd,o.mono,fun b c hb hc=>?_,o.mkd,fun j b hj hb x hx hxt hf=>?_⟩
 ·have h1:=o.mono i (i + 1) k b (by omega) a hb
  have h2:=o.top k c a hc
  omega
 ·rcases Nat.lt_or_ge j i with h1 | h1
  ·exact o.clo j b h1 hb x hx hxt hf
  ·obtain rfl:j = i:=by omega
   rw [a] at hb
   injection hb with hb
   subst hb
   exact r x (preL_mem.2 ⟨hx,hxt⟩) hf
theorem dsG_at {es:List Ed} {N:List Bool} {g i:Nat} {s:DS} {k:Int} (h:s.2[i]? = some k):dsG es N (g + 1) i s = dsG es N g (i + 1) (dsR N (gI s.1 k) (preL es k) s):=by rw [dsG,h]
theorem dsG_no {es:List Ed} {N:List Bool} {g i:Nat} {s:DS} (h:s.2.length ≤ i):dsG es N g i s = s:=by
 cases g with
 | zero=>rfl
 | succ g=>rw [dsG,List.getElem?_eq_none h]
theorem dsR_at {N:List Bool} {d:Int} {l:List Ed} {j:Nat} {x:Ed} {s:DS} (h:l[j]? = some x):dsR N d (l.drop j) s = dsR N d (l.drop (j + 1)) (dsX N d s x):=by
 rw [drop_cons' h];rfl
def dsU (c:Int) (s:DS):Prop:=∀ v ∈ s.1,v ≤ c
theorem dsU.set {c:Int} {s:DS} (h:dsU c s) {j:Nat} {v:Int} (hv:v ≤ c) (l:List Int):dsU c (s.1.set j v,l):=fun u hu=>by
 rcases List.mem_or_eq_of_mem_set hu with h1 | rfl
 ·exact h u h1
 ·exact hv
theorem dsU.at_ {c:Int} {s:DS} (h:dsU c s) {k:Int} (h0:0 ≤ k) (h1:k.toNat < s.1.length):gI s.1 k ≤ c:=by
 have:s.1[k.toNat]? = some (gI s.1 k):=by
  have:=iv_gI (l:=s.1) (i:=k.toNat) h1
  rw [iv_get,show ((k.toNat:Nat):Int) = k by omega] at this
  obtain ⟨y,e1,e2⟩:=Option.map_eq_some_iff.1 this
  injection e2 with _ e2
  rw [e1,e2]
 exact h _ (List.mem_of_getElem? this)
def RetDis (D:List Int) (n:Nat) (w:World) (e:Ending) (w':World):Prop:=∃ ob,e = .returned (.slice (some ⟨ob,0,none⟩) n n)∧Blk w' ob 3 (iv D)∧w.heap.size ≤ ob∧Below w.heap.size w w'
def d1L (n k:Nat):List Int:=List.replicate k (-1) ++ List.replicate (n - k) 0
theorem d1L_set {n k:Nat} (h:k < n):(d1L n k).set k (-1) = d1L n (k + 1):=by
 unfold d1L
 rw [List.set_append,if_neg (by simp),List.length_replicate,Nat.sub_self,show n - k = (n - (k + 1)) + 1 by omega,List.replicate_succ (n:=n - (k + 1)),List.set_cons_zero,List.replicate_succ' (n:=k),List.append_assoc]
 rfl
theorem d1L_len {n k:Nat} (h:k ≤ n):(d1L n k).length = n:=by unfold d1L;simp;omega
set_option maxRecDepth 100000 in
set_option maxHeartbeats 3200000 in
theorem max_distances (x:AV) (ib n o m:Nat) (N:List Bool) (g:Int → Option Hd) (B:Nat) (w0 w:World) (hx:x.ok w w.heap.size) (hw:WF x.a) (hn:x.a.st = (n:Int)) (hN:N.length = n) (hib:Blk w ib 4 (bvl N)) (hI:InM B w0 w o m x.a.ed g) :
  Calls Try.prog 43 #[.agg #[.slice x.A x.na x.ca,.int .i64 x.a.st,.slice x.M x.nm x.cm,.slice x.E x.ne x.ce],.slice (some ⟨ib,0,none⟩) n n,.map (some o)] w (RetDis (dsS x.a.ed N x.a.ma).1 n w):=by
 obtain ⟨A,na,ca,M,nm,cm,E,ne,ce,a⟩:=x
 dsimp only at hw hn hI ⊢
 rw [hn]
 have hb1:=box_below w (.cells #[.slice A na ca,.int .i64 (n:Int),.slice M nm cm,.slice E ne ce] 32)
 obtain ⟨w1,hw9⟩:∃ w1,w1 = w.alloc (.cells #[.slice A na ca,.int .i64 (n:Int),.slice M nm cm,.slice E ne ce] 32):=⟨_,rfl⟩
 have kx:Blk w1 w.heap.size 32 [.slice A na ca,.int .i64 (n:Int),.slice M nm cm,.slice E ne ce]:=by rw [hw9];exact Blk.new _ _ [_,_,_,_]
 rw [← hw9] at hb1
 have HG0:=Lib.hid (fun (W:World) (hb:Below w1.heap.size w1 W)=>Blk.c4 (kx.below hb kx.lt))
 have HRM:=Lib.hid (fun (W:World) (hb:Below w1.heap.size w1 W)=>((AutR.more (AutR.below hx (hb1.trans (hb.mono hb1.size))) (hb1.trans (hb.mono hb1.size)).size)).rm)
 have HLM:=Lib.hid hx.lm
 have HIN:=Lib.hid (fun (W:World) (hb:Below w1.heap.size w1 W)=>(hib.below hb1 hib.lt).below hb (hib.below hb1 hib.lt).lt)
 have HII:=Lib.hid (fun (W:World) (hb:Below w1.heap.size w1 W)=>(hI.quiet hb1).quiet hb)
 have HMR:=Lib.hid (show ∀ s ∈ a.ma,0 ≤ s∧s < (n:Int) from fun s hs=>by have:=hw.mrng s hs;omega)
 have HER:=Lib.hid (show ∀ x ∈ a.ed,(0 ≤ x.f∧x.f < (n:Int))∧(0 ≤ x.t∧x.t < (n:Int)) from fun x hx=>by have:=hw.ev_rng hx;omega)
 have HEL:=Lib.hid (show a.ed.length ≤ 1000000 from by have:=hw.ed_le;omega)
 have HBL:=Lib.hid (fun (W:World) (hb:Below w1.heap.size w1 W)=>hb1.trans (hb.mono hb1.size))
 have HNL:=Lib.hid hN
 have hst1:=hw.st1
 rw [hn] at hst1
 have hnm:nm ≤ 4096:=by
  have:=inc_len (n:=n) hw.minc (by rw [← hn];exact hw.mrng)
  have hlm:a.ma.length = nm:=hx.lm
  omega
 have HDS:=Lib.hid (DsI.start (es:=a.ed) (N:=N) (n:=n) HMR.out (hw.minc.imp (fun h=>by omega)))
 have hn4:n ≤ 4096:=by omega
 have hs1:w.heap.size + 1 = w1.heap.size:=by rw [hw9];simp
 have hm:∀ W:World,(Instr.makeSlice 29 (.int .i64 (n:Int)) (.int .i64 (n:Int))).run Try.prog W = .ok (.slice (some ⟨W.heap.size,0,none⟩) n n) (W.alloc (.cells (madeCells #[.int .i64 0] n) 3)):=fun W=>run_make_row' 29 3 (.int .i64 0) 8 Try.underlying29 int_info rfl .i64 .i64 n (by omega) (by omega) W
 have HD0:=Lib.hid (show DisW w1 (w1.alloc (.cells (madeCells #[.int .i64 0] n) 3)) (.slice none 0 0) 0 (d1L n 0,[]) from by
  refine ⟨box_below _ _,?_,World.ownsRow_nil _ _ _ _,rfl⟩
  rw [show madeCells #[.int .i64 0] n = (iv (d1L n 0)).toArray from by
   apply Array.ext'
   rw [toList_madeCells_one]
   simp [d1L,iv]]
  exact Blk.new _ _ _)
 obtain ⟨a0,a1,a2,a3⟩:=HG0.out w1 (Below.refl _ _)
 have HW9:=Lib.hid hw9;clear hw9
 have HS1:=Lib.hid hs1
 clear hx hw hn kx hb1 hib hI hN hs1
 go_enter Try.func43,Try.ntmps43
 go_upto_region 1 with fail
 rw [← HW9.out]
 go_upto_region 2 with fail
 clear a0 a1 a2 a3 hm
 go_wp2
 go_loopw [8,20] (fun s8 s20 wr=>∃ (k:Nat) (v8:Value),s8 = v8∧s20 = .int .i64 k∧k ≤ n∧Hid (DisW w1 wr (.slice none 0 0) 0 (d1L n k,[]))) (fun _ s20 _=>n - (intOf s20).toNat)
 case atStart=>exact ⟨0,_,rfl,rfl,Nat.zero_le _,HD0⟩
 case round =>
  clear HD0
  obtain ⟨k,v8,rfl,rfl,hk,HD⟩:=hrel
  by_cases hlt:k < n
  ·have b1:(k:Int) < (n:Int):=by omega
   have g2:wr.frozen? ⟨w1.heap.size,k,none⟩ = false:=HD.out.out.free _
   have g3:w1.heap.size < wr.heap.size:=HD.out.out.lt
   obtain ⟨u,hu⟩:∃ u,(iv (d1L n k))[k]? = some u:=⟨_,List.getElem?_eq_getElem (by rw [iv_length,d1L_len hk];exact hlt)⟩
   have g1:wr.cell? ⟨w1.heap.size,k,none⟩ = some u:=HD.out.out.cell hu
   have HD2:=Lib.hid (show DisW w1 (wr.setCell ⟨w1.heap.size,k,none⟩ (.int .i64 (-1))) (.slice none 0 0) 0 (d1L n (k + 1),[]) from by rw [← d1L_set hlt];exact HD.out.set (by rw [d1L_len hk];exact hlt) (-1))
   clear hu
   go_wp2
   go_roundw
   case rel=>exact ⟨k + 1,_,rfl,by go_num,by omega,HD2⟩
   case measure=>simp [intOf];omega
  obtain rfl:k = n:=by omega
  have b1:¬ (k:Int) < (k:Int):=by omega
  have hd0:d1L k k = List.replicate k (-1):=by unfold d1L;simp
  rw [hd0] at HD
  obtain ⟨SM,hSM⟩:∃ s,dsI N a.ma (List.replicate k (-1),[]) = s:=⟨_,rfl⟩
  rw [hSM] at HDS
  have HU0:=Lib.hid (show dsU 0 (List.replicate k (-1),[]) from fun v hv=>by rw [List.eq_of_mem_replicate hv];decide)
  have HSM:=Lib.hid (show dsI N (a.ma.drop 0) (List.replicate k (-1),[]) = SM from hSM)
  have HLL:=Lib.hid (show ((List.replicate k (-1:Int),([]:List Int)).1.length = k) from List.length_replicate ..)
  have HRES:=Lib.hid (show (dsS a.ed N a.ma).1 = (dsG a.ed N (k + 1 - 0) 0 SM).1 from by rw [← hSM];unfold dsS;rw [HNL.out];rfl)
  obtain ⟨RES,hRES⟩:∃ r,(dsS a.ed N a.ma).1 = r:=⟨_,rfl⟩
  rw [hRES] at HRES
  have HR00:=Lib.hid hRES
  clear hd0 hSM hRES
  obtain ⟨a0,a1,a2,a3⟩:=HG0.out wr HD.out.bel
  generalize (List.replicate k (-1:Int),([]:List Int)) = S0 at HD HU0 HSM HLL
  go_wp2
  clear a0 a1 a2 a3
  go_loopw [9,11,30] (fun s9 s11 s30 wr=>∃ (j q:Nat) (v9 v11:Value) (S:DS),v9 = s9∧s11 = v11∧s30 = .int .i64 j∧j ≤ nm∧q ≤ j∧Hid (DisW w1 wr v9 q S)∧Hid (dsI N (a.ma.drop j) S = SM)∧Hid (dsU 0 S)∧Hid (S.1.length = k)) (fun _ _ s30 _=>nm - (intOf s30).toNat)
  case atStart=>exact ⟨0,0,_,_,S0,rfl,rfl,rfl,Nat.zero_le _,Nat.le_refl _,HD,HSM,HU0,HLL⟩
  case round =>
   clear HD HSM HU0 HLL
   obtain ⟨j,q,v9,v11,S,rfl,rfl,rfl,hj,hq,HD,HSM,HU,HLL⟩:=hrel
   obtain ⟨OA,oc,rfl⟩:=own_shape HD.out.row
   by_cases hlt:j < nm
   ·obtain ⟨ad,s,rfl,hab,hs,hcs⟩:=(HRM.out wr HD.out.bel).at_ (k:=j) (by rw [HLM.out];exact hlt)
    have b2:(j:Int) < (nm:Int):=by omega
    obtain ⟨s0,s1⟩:=HMR.out s (List.mem_of_getElem? hs)
    obtain ⟨b,hb⟩:∃ b,fl N s = b:=⟨_,rfl⟩
    have g1:wr.cell? ⟨ib,s.toNat,none⟩ = some (.bool b):=(HIN.out wr HD.out.bel).cell (by rw [bvl_get,fl_get hb s0 (by rw [HNL.out];exact s1)];rfl)
    have hstep:dsI N (a.ma.drop j) S = dsI N (a.ma.drop (j + 1)) (dsM N S s):=by rw [drop_cons' hs];rfl
    have HSM2:=Lib.hid (hstep.symm.trans HSM.out)
    have t1:¬ s < 0:=by omega
    clear hs hab hstep
    cases b with
    | false =>
     have HSM3:=Lib.hid (show dsI N (a.ma.drop (j + 1)) S = SM from by
      have:=HSM2.out
      unfold dsM at this
      rw [if_neg (by rw [hb];simp)] at this
      exact this)
     clear hb
     go_wp2
     go_roundw
     case rel=>exact ⟨j + 1,q,_,_,S,rfl,rfl,by go_num,by omega,by omega,HD,HSM3,HU,HLL⟩
     case measure=>simp [intOf];omega
    | true =>
     have HSM3:=Lib.hid (show dsI N (a.ma.drop (j + 1)) (S.1.set s.toNat 0,S.2 ++ [s]) = SM from by
      have:=HSM2.out
      unfold dsM at this
      rw [if_pos hb] at this
      exact this)
     have hsl:s.toNat < S.1.length:=by rw [HLL.out];omega
     have g2:wr.frozen? ⟨w1.heap.size,s.toNat,none⟩ = false:=HD.out.out.free _
     have g3:w1.heap.size < wr.heap.size:=HD.out.out.lt
     have g4:=HD.out.cell s0 hsl rfl
     have HD2:=Lib.hid (HD.out.set hsl 0)
     have HU2:=Lib.hid (HU.out.set (j:=s.toNat) (v:=0) (Int.le_refl _) (S.2 ++ [s]))
     have HL2:=Lib.hid (show (S.1.set s.toNat 0,S.2 ++ [s]).1.length = k by rw [List.length_set];exact HLL.out)
     have hs2:=HD2.out.siz
     clear hb
     go_upto_region 13 with fail
     clear g1 g2 g3 g4
     generalize wr.setCell ⟨w1.heap.size,s.toNat,none⟩ (.int .i64 0) = w5 at HD2 hs2 ⊢
     go_wp2_with (first | (at_builtin;refine wpList_push w5 (.int .i64 s) rfl (.tmp 41) (.tmp 43) 29 rfl (w1.heap.size + 1) 3 (.int .i64 0) 8 Try.underlying29 int_info rfl _ q _ rfl HD2.out.row rfl rfl (by omega) (by omega) hs2 ?_;intro v' w' ho' hg' hb1) | fail)
     have HD3:=Lib.hid (HD2.out.push (x:=s) ho' hg')
     go_roundw
     case rel=>exact ⟨j + 1,q + 1,_,_,_,rfl,rfl,by go_num,by omega,by omega,HD3,HSM3,HU2,HL2⟩
     case measure=>simp [intOf];omega
   obtain rfl:j = nm:=by omega
   have b2:¬ (j:Int) < (j:Int):=by omega
   have hsm:S = SM:=by
    have:=HSM.out
    rw [List.drop_of_length_le (by rw [HLM.out];exact Nat.le_refl _)] at this
    exact this
   subst hsm
   clear HSM HMR HRM
   go_upto_region 16 with fail
   go_loopw [9,12,14] (fun s9 s12 s14 wr=>∃ (i q:Nat) (v9 v14:Value) (S:DS),v9 = s9∧s12 = .int .i64 i∧s14 = v14∧i ≤ q∧q ≤ k∧Hid (DisW w1 wr v9 q S)∧Hid (DsI a.ed N a.ma k i S)∧Hid (dsU (i:Int) S)∧Hid (RES = (dsG a.ed N (k + 1 - i) i S).1)) (fun _ s12 _ _=>4097 - (intOf s12).toNat)
   case atStart=>exact ⟨0,q,_,_,S,rfl,rfl,rfl,Nat.zero_le _,by have:=HDS.out.qlen;rw [HD.out.ql] at this;exact this,HD,HDS,HU,HRES⟩
   case round =>
    clear HD HDS HU HRES HLL hq b2 hj
    obtain ⟨i,q,v9,v14,S,rfl,rfl,rfl,hi,hqk,HD,HDI,HU,HRES⟩:=hrel
    by_cases hlt:i < q
    ·obtain ⟨s,hs⟩:∃ s,S.2[i]? = some s:=⟨_,List.getElem?_eq_getElem (by rw [HD.out.ql];exact hlt)⟩
     have b2:(i:Int) < (q:Int):=by omega
     obtain ⟨oa,oc,rfl,ho1,ho2⟩:=RdI.own_at' HD.out.ql HD.out.row hs
     have hsr:=(HDI.out.rng s (List.mem_of_getElem? hs)).1
     have hkw:(Lit.int .i64 s).wf = true:=WalkArith.wf_i64 (by omega)
     have hlk:=(HII.out wr HD.out.bel).tab.look (t:=85) intLaw Try.underlying85 (zeroEds wr) s (intKey s hkw)
     obtain ⟨RA,rc,hRA,_⟩:=(HII.out wr HD.out.bel).rdx s
     rw [hRA] at hlk
     have HRX:=Lib.hid (fun (W:World) (hb:Below w1.heap.size w1 W)=>(HII.out W hb).rdx_at hRA)
     obtain ⟨nl,hnl⟩:∃ nl,(preL a.ed s).length = nl:=⟨_,rfl⟩
     rw [hnl] at hlk
     have HNE:=Lib.hid hnl
     have hnm:nl ≤ 1000000:=by
      have h1:=List.length_filter_le (fun x:Ed=>decide (x.t = s)) a.ed
      have h2:=HEL.out
      rw [← hnl]
      exact Nat.le_trans h1 h2
     obtain ⟨d,hd⟩:∃ d,gI S.1 s = d:=⟨_,rfl⟩
     have hsl:s.toNat < S.1.length:=by rw [HDI.out.len];omega
     have hdi:d ≤ (i:Int):=by rw [← hd];exact HU.out.at_ hsr.1 hsl
     have hd0:0 ≤ d:=by
      rw [← hd]
      rcases HDI.out.on s hsr.1 hsr.2 with h9 | h9
      ·exact h9.2
      ·exact absurd (List.mem_of_getElem? hs) h9.1
     have HQ0:=Lib.hid (show DsQ a.ed N a.ma k i s ((preL a.ed s).take 0) S from ⟨HDI.out,hs,fun x hx=>by cases hx⟩)
     have HU0:=Lib.hid (show dsU ((i:Int) + 1) S from fun v hv=>by have:=HU.out v hv;omega)
     have HR0:=Lib.hid (show RES = (dsG a.ed N (k + 1 - (i + 1)) (i + 1) (dsR N d ((preL a.ed s).drop 0) S)).1 from by
      rw [HRES.out,show k + 1 - i = (k + 1 - (i + 1)) + 1 by omega,dsG_at hs,hd];rfl)
     have HGD:=Lib.hid hd
     have hs0:=hsr.1
     have hs1:=hsr.2
     clear hs hkw hRA hnl hd hsl HDI HU HRES hsr
     go_upto_region 19 with fail
     clear hlk ho1 ho2
     go_loopw [9,14,59] (fun s9 s14 s59 wr=>∃ (e q:Nat) (v9 v14:Value) (S:DS),v9 = s9∧s14 = v14∧s59 = .int .i64 e∧e ≤ nl∧i < q∧q ≤ k∧Hid (DisW w1 wr v9 q S)∧Hid (DsQ a.ed N a.ma k i s ((preL a.ed s).take e) S)∧Hid (dsU ((i:Int) + 1) S)∧Hid (gI S.1 s = d)∧Hid (RES = (dsG a.ed N (k + 1 - (i + 1)) (i + 1) (dsR N d ((preL a.ed s).drop e) S)).1)) (fun _ _ s59 _=>nl - (intOf s59).toNat)
     case atStart=>exact ⟨0,q,_,_,S,rfl,rfl,rfl,Nat.zero_le _,hlt,hqk,HD,HQ0,HU0,HGD,HR0⟩
     case round =>
      clear HD HQ0 HU0 HGD HR0 hlt hqk b2 hi
      obtain ⟨e,q,v9,v14,S,rfl,rfl,rfl,he,hiq,hqk,HD,HQ,HU,HGD,HRES⟩:=hrel
      by_cases hle:e < nl
      ·have b2:(e:Int) < (nl:Int):=by omega
       obtain ⟨ad,x,hA,hab,hx,g0,g1,g2⟩:=(HRX.out wr HD.out.bel).at_ (k:=e) (by rw [HNE.out];exact hle)
       subst hA
       have r1:wr.cell? ⟨(ad.add (e * 3)).block,(ad.add (e * 3)).off + 1,none⟩ = some (.int .i64 x.e):=st_cells (j:=0) g1
       have r2:wr.cell? ⟨(ad.add (e * 3)).block,(ad.add (e * 3)).off + 2,none⟩ = some (.int .i64 x.t):=st_cells (j:=1) g2
       obtain ⟨hxe,hxt⟩:=preL_mem.1 (List.mem_of_getElem? hx)
       have hxr:=(HER.out x hxe).1
       have hqs:=HQ.out.step HER.out hxe hxt
       rw [HGD.out,← take_snoc' hx] at hqs
       have hrs:=dsR_at (N:=N) (d:=d) (s:=S) hx
       have HR2:=Lib.hid (show RES = (dsG a.ed N (k + 1 - (i + 1)) (i + 1) (dsR N d ((preL a.ed s).drop (e + 1)) (dsX N d S x))).1 from by rw [HRES.out,hrs])
       have hsl:s.toNat < S.1.length:=by rw [HQ.out.o.len];omega
       have hfl:x.f.toNat < S.1.length:=by rw [HQ.out.o.len];omega
       have hbx:=box_below wr (.cells #[.int .i64 x.f,.int .i64 x.e,.int .i64 x.t] 67)
       have ke:Blk (wr.alloc (.cells #[.int .i64 x.f,.int .i64 x.e,.int .i64 x.t] 67)) wr.heap.size 67 [.int .i64 x.f,.int .i64 x.e,.int .i64 x.t]:=Blk.new _ _ [_,_,_]
       have HD5:=Lib.hid (HD.out.quiet hbx)
       have hws:=HD.out.out.lt
       have hq1:=HQ.out.at_
       have HQS:=Lib.hid hqs
       obtain ⟨b,hb⟩:∃ b,fl N x.f = b:=⟨_,rfl⟩
       obtain ⟨v,hv⟩:∃ v,gI S.1 x.f = v:=⟨_,rfl⟩
       have HFL:=Lib.hid hb
       have HGV:=Lib.hid hv
       have HNB:=Lib.hid (show w1.heap.size ≠ wr.heap.size by omega)
       clear hx hab hxe hxt hqs hrs hbx hb hv
       go_upto_region 21 with fail
       clear g0 g1 g2 r1 r2
       generalize wr.heap.size = bx at ke hws HNB ⊢
       generalize wr.alloc (.cells #[.int .i64 x.f,.int .i64 x.e,.int .i64 x.t] 67) = w5 at ke HD5 ⊢
       have e0:=ke.cell (j:=0) rfl
       have e1:w5.cell? ⟨ib,x.f.toNat,none⟩ = some (.bool b):=(HIN.out w5 HD5.out.bel).cell (by rw [bvl_get,fl_get HFL.out hxr.1 (by rw [HNL.out];exact hxr.2)];rfl)
       have e2:=HD5.out.cell hxr.1 hfl HGV.out
       have t1:¬ x.f < 0:=by omega
       have t2:x.f < (k:Int):=hxr.2
       obtain ⟨OA,oc,rfl⟩:=own_shape HD5.out.row
       by_cases hc:b = true∧v < 0
       case neg =>
        have HX:=Lib.hid (show dsX N d S x = S from by unfold dsX;rw [if_neg (by rw [HFL.out,HGV.out];exact hc)])
        have HQ9:=Lib.hid (show DsQ a.ed N a.ma k i s ((preL a.ed s).take (e + 1)) S from by have:=HQS.out.1;rw [HX.out] at this;exact this)
        have HR9:=Lib.hid (show RES = (dsG a.ed N (k + 1 - (i + 1)) (i + 1) (dsR N d ((preL a.ed s).drop (e + 1)) S)).1 from by have:=HR2.out;rw [HX.out] at this;exact this)
        cases b with
        | false =>
         clear hc
         go_wp2
         go_roundw
         case rel=>exact ⟨e + 1,q,_,_,S,rfl,rfl,by go_num,by omega,hiq,hqk,HD5,HQ9,HU,HGD,HR9⟩
         case measure=>simp [intOf];omega
        | true =>
         have t3:¬ v < 0:=fun h=>hc ⟨rfl,h⟩
         clear hc
         go_wp2
         go_roundw
         case rel=>exact ⟨e + 1,q,_,_,S,rfl,rfl,by go_num,by omega,hiq,hqk,HD5,HQ9,HU,HGD,HR9⟩
         case measure=>simp [intOf];omega
       obtain ⟨rfl,t3⟩:=hc
       have HX:=Lib.hid (show dsX N d S x = (S.1.set x.f.toNat (d + 1),S.2 ++ [x.f]) from by unfold dsX;rw [if_pos (by rw [HFL.out,HGV.out];exact ⟨rfl,t3⟩)])
       have HQ9:=Lib.hid (show DsQ a.ed N a.ma k i s ((preL a.ed s).take (e + 1)) (S.1.set x.f.toNat (d + 1),S.2 ++ [x.f])∧gI (S.1.set x.f.toNat (d + 1)) s = d from by have:=HQS.out;rw [HX.out] at this;exact this)
       have HR9:=Lib.hid (show RES = (dsG a.ed N (k + 1 - (i + 1)) (i + 1) (dsR N d ((preL a.ed s).drop (e + 1)) (S.1.set x.f.toNat (d + 1),S.2 ++ [x.f]))).1 from by have:=HR2.out;rw [HX.out] at this;exact this)
       have HU9:=Lib.hid (HU.out.set (j:=x.f.toNat) (v:=d + 1) (by omega) (S.2 ++ [x.f]))
       have hql:q + 1 ≤ k:=by
        have:=HQ9.out.1.o.qlen
        rw [List.length_append,HD5.out.ql] at this
        exact this
       obtain ⟨oa,oc',hoe,ho1,ho2⟩:=RdI.own_at' HD5.out.ql HD5.out.row hq1
       injection hoe with h1 h2 h3
       subst h1
       clear h2 h3 hq1
       have e3:=HD5.out.cell hs0 hsl HGD.out
       go_upto_region 22 with fail
       have HD6:=Lib.hid (HD5.out.quiet (below_dr w5))
       have k6:=ke.below (below_dr w5) ke.lt
       have hA0:w5.drew.cell? ⟨bx,0,none⟩ = some (.int .i64 x.f)∧w5.drew.cell? (oa.add i) = some (.int .i64 s):=⟨k6.cell (j:=0) rfl,ho2⟩
       have HOB:=Lib.hid (show oa.block ≠ w1.heap.size from by
        have h:=(own_addr HD5.out.row).1
        omega)
       refine wp_region_U (fun W=>W.cell? ⟨bx,0,none⟩ = some (.int .i64 x.f)∧W.cell? (oa.add i) = some (.int .i64 s)) (fun W=>W.cell? ⟨w1.heap.size,s.toNat,none⟩ = some (.int .i64 d)) 12 (by kernel_rfl) ?_
       change anyU _ _ _ _ _ _ _ 13 _ _ _
       clear ke e0 e1 e2 e3 ho1 ho2 HD5
       generalize w5.drew = wd at HD6 k6 hA0 ⊢
       have hB0:=HD6.out.cell hs0 hsl HGD.out
       have hw1:IntKind.i64.wrap (d + 1) = d + 1:=IntWalk.i64_in _ (by omega)
       have t4:¬ s < 0:=by omega
       (refine uA 0 ?_ rfl hA0 hB0 (fun W hA=>?_) ?_;rotate_left;(· (go_simp;try with_reducible rfl));refine uA 1 ?_ rfl hA0 hB0 (fun W hA=>?_) ?_;rotate_left;(· (go_simp;try with_reducible rfl));(try simp only [Act.put,List.setIfInBounds_toArray,List.set_cons_zero,List.set_cons_succ]))
       (refine uA 2 ?_ rfl hA0 hB0 (fun W hA=>?_) ?_;rotate_left;(· (obtain ⟨a0,a1⟩:=hA;go_simp;try with_reducible rfl));(try simp only [Act.put,List.setIfInBounds_toArray,List.set_cons_zero,List.set_cons_succ]))
       (refine uA 3 ?_ rfl hA0 hB0 (fun W hA=>?_) ?_;rotate_left;(· (go_simp;try with_reducible rfl));refine uA 4 ?_ rfl hA0 hB0 (fun W hA=>?_) ?_;rotate_left;(· (go_simp;try with_reducible rfl));refine uA 5 ?_ rfl hA0 hB0 (fun W hA=>?_) ?_;rotate_left;(· (go_simp;try with_reducible rfl));refine uA 6 ?_ rfl hA0 hB0 (fun W hA=>?_) ?_;rotate_left;(· (go_simp;try with_reducible rfl));(try simp only [Act.put,List.setIfInBounds_toArray,List.set_cons_zero,List.set_cons_succ]))
       (refine uA 7 ?_ rfl hA0 hB0 (fun W hA=>?_) ?_;rotate_left;(· (obtain ⟨a0,a1⟩:=hA;go_simp;try with_reducible rfl));(try simp only [Act.put,List.setIfInBounds_toArray,List.set_cons_zero,List.set_cons_succ]))
       (refine uA 8 ?_ rfl hA0 hB0 (fun W hA=>?_) ?_;rotate_left;(· (go_simp;try with_reducible rfl));(try simp only [Act.put,List.setIfInBounds_toArray,List.set_cons_zero,List.set_cons_succ]))
       (refine uB 9 ?_ rfl hA0 hB0 (fun W hA hB=>?_) ?_;rotate_left;(· (go_simp;try with_reducible rfl));(try simp only [Act.put,List.setIfInBounds_toArray,List.set_cons_zero,List.set_cons_succ]))
       (refine uA 10 ?_ rfl hA0 hB0 (fun W hA=>?_) ?_;rotate_left;(· (go_simp;try with_reducible rfl));refine uA 11 ?_ rfl hA0 hB0 (fun W hA=>?_) ?_;rotate_left;(· (go_simp;try with_reducible rfl));(try simp only [Act.put,List.setIfInBounds_toArray,List.set_cons_zero,List.set_cons_succ]))
       refine uOne (i:=12) rfl (by kernel_rfl) (fun K hK=>?_)
       have g2:wd.frozen? ⟨w1.heap.size,x.f.toNat,none⟩ = false:=HD6.out.out.free _
       have g3:w1.heap.size < wd.heap.size:=HD6.out.out.lt
       have g4:=HD6.out.cell hxr.1 hfl rfl
       go_simp
       have HD7:=Lib.hid (HD6.out.set hfl (d + 1))
       have hA7:(wd.setCell ⟨w1.heap.size,x.f.toNat,none⟩ (.int .i64 (d + 1))).cell? ⟨bx,0,none⟩ = some (.int .i64 x.f)∧(wd.setCell ⟨w1.heap.size,x.f.toNat,none⟩ (.int .i64 (d + 1))).cell? (oa.add i) = some (.int .i64 s) :=
        ⟨(cell_far (fun e=>HNB.out e.symm)).trans hA0.1,(cell_far (by rw [block_of_add];exact HOB.out)).trans hA0.2⟩
       (refine hK _ _ ⟨hA7,fun h=>absurd (h.symm.trans (by kernel_rfl:_ = true)) Bool.false_ne_true⟩ ?_;clear hK K;(try simp only [Act.put,List.setIfInBounds_toArray,List.set_cons_zero,List.set_cons_succ]))
       refine anyU_done (by kernel_rfl) ?_ _
       clear hA0 hB0 g2 g3 g4 hw1 t4 HD6 k6
       have hs7:=HD7.out.siz
       generalize wd.setCell ⟨w1.heap.size,x.f.toNat,none⟩ (.int .i64 (d + 1)) = w7 at HD7 hA7 hs7 ⊢
       obtain ⟨e0,_⟩:=hA7
       go_wp2_with (first | (at_builtin;refine wpList_push w7 (.int .i64 x.f) rfl (.tmp 88) (.tmp 91) 29 rfl (w1.heap.size + 1) 3 (.int .i64 0) 8 Try.underlying29 int_info rfl _ q _ rfl HD7.out.row rfl rfl (by omega) (by omega) hs7 ?_;intro v' w' ho' hg' hb1) | fail)
       have HD8:=Lib.hid (HD7.out.push (x:=x.f) ho' hg')
       go_roundw
       case rel=>exact ⟨e + 1,q + 1,_,_,_,rfl,rfl,by go_num,by omega,by omega,hql,HD8,Lib.hid HQ9.out.1,HU9,Lib.hid HQ9.out.2,HR9⟩
       case measure=>simp [intOf];omega
      ·obtain rfl:e = nl:=by omega
       have b2:¬ (e:Int) < (e:Int):=by omega
       have HD9:=Lib.hid (show DsI a.ed N a.ma k (i + 1) S from by
        have h:=HQ.out
        rw [List.take_of_length_le (by rw [HNE.out];exact Nat.le_refl _)] at h
        exact h.fin)
       have HR9:=Lib.hid (show RES = (dsG a.ed N (k + 1 - (i + 1)) (i + 1) S).1 from by
        have h:=HRES.out
        rw [List.drop_of_length_le (by rw [HNE.out];exact Nat.le_refl _)] at h
        exact h)
       have HU9:=Lib.hid (show dsU ((i + 1:Nat):Int) S from HU.out)
       go_wp2
       go_roundw
       case rel=>exact ⟨i + 1,q,_,_,S,rfl,by go_num,rfl,by omega,hqk,HD,HD9,HU9,HR9⟩
       case measure=>simp [intOf];omega
    ·obtain rfl:i = q:=by omega
     have b2:¬ (i:Int) < (i:Int):=by omega
     obtain ⟨OA,oc,rfl⟩:=own_shape HD.out.row
     have HRF:=Lib.hid (show RES = S.1 from by rw [HRES.out,dsG_no (by rw [HD.out.ql];exact Nat.le_refl _)])
     go_wp2
     go_ret
     refine ⟨_,rfl,?_,?_,HBL.out _ HD.out.bel⟩
     ·rw [HR00.out,HRF.out];exact HD.out.out
     ·have:=HS1.out;omega
end Go.Proofs.Ytdnmpndnpfklcaa

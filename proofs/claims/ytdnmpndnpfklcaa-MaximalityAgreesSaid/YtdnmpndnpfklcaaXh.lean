/- Walk: maximality.Prove. -/
import Derived.Test.YtdnmpndnpfklcaaXg
import Derived.Deep.Cut
import Derived.Deep.CutRange
namespace Go.Proofs.Ytdnmpndnpfklcaa
open Go.RowKit Go Go.Maps
def t1L (n k:Nat):List Bool:=List.replicate k true ++ List.replicate (n - k) false
theorem t1L_set {n k:Nat} (h:k < n):(t1L n k).set k true = t1L n (k + 1):=by
 unfold t1L
 rw [List.set_append,if_neg (by simp),List.length_replicate,Nat.sub_self,show n - k = (n - (k + 1)) + 1 by omega,List.replicate_succ (n:=n - (k + 1)),List.set_cons_zero,List.replicate_succ' (n:=k),List.append_assoc]
 rfl
theorem t1L_len {n k:Nat} (h:k ≤ n):(t1L n k).length = n:=by unfold t1L;simp;omega
theorem t1L_zero (n:Nat):t1L n 0 = inF n []:=by unfold t1L inF;simp
theorem t1L_all (n:Nat):t1L n n = List.replicate n true:=by unfold t1L;simp
def foK (F:List Int) (k:Nat):List Rm:=(F.take k).map fun s=>⟨s,1,1,-1⟩
theorem foK_snoc {F:List Int} {k:Nat} {s:Int} (h:F[k]? = some s):foK F (k + 1) = foK F k ++ [⟨s,1,1,-1⟩]:=by unfold foK;rw [take_snoc' h,List.map_append];rfl
theorem foK_len {F:List Int} {k:Nat} (h:k ≤ F.length):(foK F k).length = k:=by unfold foK;rw [List.length_map,List.length_take];omega
def RetRq (q:Bool) (w:World) (x:AV) (U:List Int) (c:PrC) (m:Nat) (N:List Bool) (R:List Rm) (e:Ending) (W':World):Prop:=∃ Rv',e = .returned (.bool q)∧PrW w W' x U c Rv' m N R
theorem RetRem.yes {w:World} {x:AV} {U:List Int} {c:PrC} {m k:Nat} {N:List Bool} {R:List Rm} {e:Ending} {W':World} (h:RetRem w x U c m k N R e W') (hk:0 < k):RetRq true w x U c (m + k) N R e W':=by
 obtain ⟨Rv',he,hp⟩:=h
 exact ⟨Rv',by rw [he,decide_eq_true hk],hp⟩
theorem RetRem.no {w:World} {x:AV} {U:List Int} {c:PrC} {m k:Nat} {N:List Bool} {R l:List Rm} {e:Ending} {W':World} (h:RetRem w x U c m k (rmv N l) (R ++ l) e W') (hk:k = 0) (hl:l = []):RetRq false w x U c m N R e W':=by
 subst hk hl
 obtain ⟨Rv',he,hp⟩:=h
 rw [List.append_nil] at hp
 exact ⟨Rv',by rw [he];rfl,hp⟩
def onJ (N:List Bool) (j:Nat):List Int:=(rngI (j:Int)).filter (fun s=>fl N s)
theorem onJ_snoc {N:List Bool} {j:Nat} {q:Bool} (h:N[j]? = some q):onJ N (j + 1) = onJ N j ++ (if q = true then [(j:Int)] else []):=onF_snoc h
theorem prv_final {p:Mx} (hm:p.ok) {N:List Bool} {R R':List Rm} {D:List Int} {j:Nat} (hps:prvS p = (N,R)) (hN:N.length = j) (hst:p.a.st = (j:Int)) (hD:(dsS p.a.ed N p.a.ma).1 = D) (hR:R' = srtR p.a.st R):Ce.mk (onJ N j) ((onJ N j).map (gI D)) R' = prvC p:=by
 have e1:onJ N j = onF N:=by unfold onJ onF;rw [hN]
 unfold prvC
 rw [hps]
 refine Ce.eq_iff.2 ⟨e1,?_,hR⟩
 show (onJ N j).map (gI D) = (onF N).map (dstF p.a N)
 rw [e1]
 refine List.map_congr_left fun s hs=>?_
 obtain ⟨h1,h2⟩:=onF_mem.1 hs
 rw [← hD]
 exact dsS_dst hm.wf (by rw [hN,hst]) h1.1 (by rw [hst,← hN];exact h1.2) h2
theorem KpH.fin {w5 w6 W:World} {c:PrC} {ob:Nat} {N:List Bool} {D:List Int} {RA A8 A9:Option Addr} {rc c8 c9 m q b:Nat} {R:List Rm} {l1 l2:List Int} (h:KpH w5 w6 W c ob N D (.slice RA m rc) m R (.slice A8 q c8) (.slice A9 q c9) q q l1 l2) (h1:l1.length = q) (h2:l2.length = q) (h3:R.length = m)
  (kr:Blk W b 38 [.slice none 0 0,.slice none 0 0,.slice none 0 0]) :
  (CV.mk ⟨A8,q,c8,l1⟩ ⟨A9,q,c9,l2⟩ RA m rc R).ok (((W.setCell ⟨b,0,none⟩ (.slice A8 q c8)).setCell ⟨b,1,none⟩ (.slice A9 q c9)).setCell ⟨b,2,none⟩ (.slice RA m rc)) (((W.setCell ⟨b,0,none⟩ (.slice A8 q c8)).setCell ⟨b,1,none⟩ (.slice A9 q c9)).setCell ⟨b,2,none⟩ (.slice RA m rc)).heap.size ∧
  Blk (((W.setCell ⟨b,0,none⟩ (.slice A8 q c8)).setCell ⟨b,1,none⟩ (.slice A9 q c9)).setCell ⟨b,2,none⟩ (.slice RA m rc)) b 38 [.slice A8 q c8,.slice A9 q c9,.slice RA m rc] ∧
  W.grownBy (((W.setCell ⟨b,0,none⟩ (.slice A8 q c8)).setCell ⟨b,1,none⟩ (.slice A9 q c9)).setCell ⟨b,2,none⟩ (.slice RA m rc)) (some b):=by
 have hg:W.grownBy (((W.setCell ⟨b,0,none⟩ (.slice A8 q c8)).setCell ⟨b,1,none⟩ (.slice A9 q c9)).setCell ⟨b,2,none⟩ (.slice RA m rc)) (some b):=((grown_setCell _ _ _ _).trans (grown_setCell _ _ _ _)).trans (grown_setCell _ _ _ _)
 have k3:=((kr.set (j:=0) (by simp) (.slice A8 q c8)).set (j:=1) (by simp) (.slice A9 q c9)).set (j:=2) (by simp) (.slice RA m rc)
 have o1:=h.o1.kept hg (own_ne_blk h.o1 kr (by decide))
 have o2:=h.o2.kept hg (own_ne_blk h.o2 kr (by decide))
 have o3:=h.row.kept hg (own_ne_blk h.row kr (by decide))
 obtain ⟨q1,q2⟩:=own_cap' o3
 exact ⟨⟨iv_ok_own o1 h1,iv_ok_own o2 h2,h3,RdR.of_own (f:=rmc) (by omega) (fun _ _=>rfl) o3,q1,q2⟩,k3,hg⟩
theorem incR_len {l:List Rm} {k:Nat} (h:IncR l) (hr:∀ r ∈ l,0 ≤ r.s∧r.s < (k:Int)):l.length ≤ k:=by
 have h1:Inc (l.map Rm.s):=by
  show (l.map Rm.s).Pairwise _
  rw [List.pairwise_map]
  exact h
 have:=inc_len (n:=k) h1 (fun x hx=>by
  obtain ⟨r,h2,rfl⟩:=List.mem_map.1 hx
  exact hr r h2)
 rwa [List.length_map] at this
theorem prv_step {p:Mx} (hm:p.ok) {k r:Nat} (hk:p.a.st = (k:Int)) {N:List Bool} {R L:List Rm} {PS:List Bool × List Rm} (o:PrI p (r:Int) N R) (hr:2 ≤ r) (hL:rndS p N (r:Int) = L) (hne:L ≠ []) (hg:prvG p (k + 1 - (r - 2)) (r:Int) N R = PS) :
  PrI p ((r + 1:Nat):Int) (rmv N L) (R ++ L)∧prvG p (k + 1 - (r + 1 - 2)) ((r + 1:Nat):Int) (rmv N L) (R ++ L) = PS∧(R ++ L).length ≤ k∧r + 1 ≤ k + 2:=by
 have h1:=o.round hm (by rw [hL];exact hne)
 rw [hL] at h1
 have h2:=h1.few hm
 have h3:=h1.num.1
 rw [hk] at h2
 have e1:((r + 1:Nat):Int) = (r:Int) + 1:=by omega
 rw [e1]
 refine ⟨h1,?_,by omega,by omega⟩
 rw [show k + 1 - (r - 2) = (k + 1 - (r + 1 - 2)) + 1 by omega] at hg
 rw [← hg,prvG,hL,if_neg hne]
theorem prv_end {p:Mx} (hm:p.ok) {k r:Nat} (hk:p.a.st = (k:Int)) {N:List Bool} {R:List Rm} {PS:List Bool × List Rm} (o:PrI p (r:Int) N R) (hr:2 ≤ r) (hL:rndS p N (r:Int) = []) (hg:prvG p (k + 1 - (r - 2)) (r:Int) N R = PS):PS = (N,R):=by
 have h2:=o.few hm
 have h3:=o.num.1
 rw [hk] at h2
 rw [show k + 1 - (r - 2) = (k + 1 - (r + 1 - 2)) + 1 by omega,prvG,hL,if_pos rfl] at hg
 exact hg.symm
set_option maxRecDepth 100000 in
set_option maxHeartbeats 6400000 in
theorem max_Prove (z:PB) (w:World) (h:z.ok w w.heap.size) (hm:z.m.ok) :
  Calls Try.prog 12 #[.agg (pbc z).toArray] w (RetPrv z.m w):=by
 have HM:=Lib.hid hm
 have HC:=Lib.hid (fun (W:World) (h9:z.ok W W.heap.size)=>max_Check z W h9 hm)
 have HH:=Lib.hid (fun (W:World) (h9:z.ok W W.heap.size)=>max_hard z W h9 hm)
 have HI:=Lib.hid (fun (W:World) (h9:z.ok W W.heap.size)=>max_into z.x W h9.x hm.wf)
 have hb1:=box_below w (.cells (pbc z).toArray 34)
 have kx:=Blk.new w 34 (pbc z)
 obtain ⟨w1,hw1⟩:∃ w1,w1 = w.alloc (.cells (pbc z).toArray 34):=⟨_,rfl⟩
 rw [← hw1] at hb1 kx
 have hb2:=box_below w1 (.cells #[.slice none 0 0,.slice none 0 0,.slice none 0 0] 38)
 have kx2:=kx.below hb2 kx.lt
 have kc:=Blk.new w1 38 [.slice none 0 0,.slice none 0 0,.slice none 0 0]
 have hs1:w1.heap.size = w.heap.size + 1:=by rw [hw1];simp
 rw [hs1] at kc
 obtain ⟨w2,hw2⟩:∃ w2,w2 = w1.alloc (.cells #[.slice none 0 0,.slice none 0 0,.slice none 0 0] 38):=⟨_,rfl⟩
 rw [show w1.alloc (.cells #[.slice none 0 0,.slice none 0 0,.slice none 0 0] 38) = w2 from hw2.symm] at hb2 kx2
 rw [show w1.alloc (.cells [.slice none 0 0,.slice none 0 0,.slice none 0 0].toArray 38) = w2 from hw2.symm] at kc
 have hb12:=hb1.trans (hb2.mono hb1.size)
 have HZ:=Lib.hid (fun (W:World) (hb:Below w2.heap.size w2 W)=>(h.below (hb12.trans (hb.mono hb12.size))).more (hb12.trans (hb.mono hb12.size)).size)
 have HK:=Lib.hid (fun (W:World) (hb:Below w2.heap.size w2 W)=>kx2.below hb kx2.lt)
 have HKC:=Lib.hid (fun (W:World) (hb:Below w2.heap.size w2 W)=>kc.below hb kc.lt)
 have HB:=Lib.hid (fun (W:World) (hb:Below w2.heap.size w2 W)=>hb12.trans (hb.mono hb12.size))
 have HW2:=Lib.hid (show (w.alloc (.cells (pbc z).toArray 34)).alloc (.cells #[.slice none 0 0,.slice none 0 0,.slice none 0 0] 38) = w2 by rw [hw2,hw1])
 have HXW:=Lib.hid hm.wf
 have hst:0 ≤ z.x.a.st:=hm.wf.st0
 have hst1:z.x.a.st ≤ 4096:=hm.wf.st1
 obtain ⟨n,hn⟩:∃ n:Nat,z.x.a.st = (n:Int):=⟨z.x.a.st.toNat,by omega⟩
 have HN:=Lib.hid hn
 have hn4:n ≤ 4096:=by omega
 clear hst hst1 hb1 hb2 hb12 kx kx2 kc hw1 hw2 hs1 h hm
 unfold pbc at HC HH HK HW2 ⊢
 rw [hn] at HC HH HK HW2 HI ⊢
 obtain ⟨⟨a0,a1,a2,a3,a4⟩,a5⟩:=Blk.c6 (HK.out w2 (Below.refl _ _))
 clear hn
 go_enter Try.func12,Try.ntmps12
 go_upto_region 1 with fail
 rw [HW2.out]
 go_wp2_with fail
 refine (HC.out w2 (HZ.out w2 (Below.refl _ _))).mono ?_
 rintro _ w3 ⟨rfl,hb3⟩
 have HB3:=Lib.hid hb3
 clear a0 a1 a2 a3 a4 a5 HC hb3
 obtain ⟨⟨a0,a1,a2,a3,a4⟩,a5⟩:=Blk.c6 (HK.out w3 HB3.out)
 go_upto_region 5 with fail
 clear a0 a1 a2 a3 a4 a5
 have hba:=box_below w3 (.cells #[.slice z.x.A z.x.na z.x.ca,.int .i64 (n:Int),.slice z.x.M z.x.nm z.x.cm,.slice z.x.E z.x.ne z.x.ce] 32)
 have ka:=Blk.new w3 32 [.slice z.x.A z.x.na z.x.ca,.int .i64 (n:Int),.slice z.x.M z.x.nm z.x.cm,.slice z.x.E z.x.ne z.x.ce]
 have HB4:=Lib.hid (HB3.out.trans (hba.mono HB3.out.size))
 obtain ⟨ba,hbae⟩:∃ b,w3.heap.size = b:=⟨_,rfl⟩
 rw [hbae] at ka ⊢
 have ka':Blk (w3.alloc (.cells #[.slice z.x.A z.x.na z.x.ca,.int .i64 (n:Int),.slice z.x.M z.x.nm z.x.cm,.slice z.x.E z.x.ne z.x.ce] 32)) ba 32 [.slice z.x.A z.x.na z.x.ca,.int .i64 (n:Int),.slice z.x.M z.x.nm z.x.cm,.slice z.x.E z.x.ne z.x.ce]:=ka
 clear hba ka HB3 hbae
 generalize w3.alloc (.cells #[.slice z.x.A z.x.na z.x.ca,.int .i64 (n:Int),.slice z.x.M z.x.nm z.x.cm,.slice z.x.E z.x.ne z.x.ce] 32) = w5 at ka' HB4 ⊢
 have HKA:=Lib.hid (fun (W:World) (hb:Below w5.heap.size w5 W)=>ka'.below hb ka'.lt)
 have HK5:=Lib.hid (fun (W:World) (hb:Below w5.heap.size w5 W)=>HK.out W (HB4.out.trans (hb.mono HB4.out.size)))
 have HZ5:=Lib.hid (fun (W:World) (hb:Below w5.heap.size w5 W)=>HZ.out W (HB4.out.trans (hb.mono HB4.out.size)))
 have HKC5:=Lib.hid (fun (W:World) (hb:Below w5.heap.size w5 W)=>HKC.out W (HB4.out.trans (hb.mono HB4.out.size)))
 have HB5:=Lib.hid (fun (W:World) (hb:Below w5.heap.size w5 W)=>HB.out W (HB4.out.trans (hb.mono HB4.out.size)))
 clear ka' HK HZ HKC HB HB4
 go_cut [6,7] from 8 (fun s6 s7 wx=>∃ (V1 V2:Value) (p1 p2:Nat),s6 = .pointer (some ⟨p1,0,none⟩)∧s7 = .pointer (some ⟨p2,0,none⟩)∧Hid (PtG w5 (IntoV w5 z.x.a.ed) (FlgV w5 32 (inF 32 z.u.l)) (.map none) (.slice none 0 0) 85 87 true true true true true true V1 V2 p1 p2 wx))
 case first =>
  refine wp_region_U (fun W=>C4 W ba (.slice z.x.A z.x.na z.x.ca) (.int .i64 (n:Int)) (.slice z.x.M z.x.nm z.x.cm) (.slice z.x.E z.x.ne z.x.ce)∧(C5 W w.heap.size (.slice z.x.A z.x.na z.x.ca) (.int .i64 (n:Int)) (.slice z.x.M z.x.nm z.x.cm) (.slice z.x.E z.x.ne z.x.ce) (.slice z.u.A z.u.n z.u.c)∧W.cell? ⟨w.heap.size,5,none⟩ = some (.slice z.f.A z.f.n z.f.c))) (fun _=>True) 7 (by kernel_rfl) ?_
  change anyU _ _ _ _ _ _ _ 8 _ _ _
  have hB0:True:=trivial
  have HBD:=Lib.hid (below_dr w5)
  have HSA:=Lib.hid (IntoV.st w5 z.x.a.ed)
  have HSB:=Lib.hid (FlgV.st w5 32 (inF 32 z.u.l) (t1:=85) (t2:=87) (by decide) (by decide))
  generalize w5.drew = wd at HBD ⊢
  have hA0:=And.intro (Blk.c4 (HKA.out wd HBD.out)) (Blk.c6 (HK5.out wd HBD.out))
  (refine uA 0 ?_ rfl hA0 hB0 (fun W hA=>?_) ?_;rotate_left;(· (obtain ⟨⟨a0,a1,a2,a3⟩,_⟩:=hA;go_simp;try with_reducible rfl));(try simp only [Act.put,List.setIfInBounds_toArray,List.set_cons_zero,List.set_cons_succ]))
  (refine uA 2 ?_ rfl hA0 hB0 (fun W hA=>?_) ?_;rotate_left;(· (obtain ⟨_,⟨a0,a1,a2,a3,a4⟩,a5⟩:=hA;go_simp;try with_reducible rfl));(try simp only [Act.put,List.setIfInBounds_toArray,List.set_cons_zero,List.set_cons_succ]))
  refine anyI_at (I:=fun a0 f L a' W=>∃ (d1 d2 b1 b2 b3 b4:Bool) (V1 V2:Value) (p1 p2:Nat) (v6 v7 v30 v32:Value),L = #[true,d1,true,d2,b1,b2,b3,b4]∧f + d1.toNat + d2.toNat + b1.toNat + b2.toNat + b3.toNat + b4.toNat = 6∧(d2 = true → d1 = true)∧(b3 = true → d1 = true∧d2 = true∧b1 = true∧b2 = true)∧(b4 = true → d1 = true∧d2 = true∧b1 = true∧b2 = true∧b3 = true)∧(d1 = true → v30 = V1)∧(d2 = true → v32 = V2)∧(b1 = true → v6 = .pointer (some ⟨p1,0,none⟩))∧(b2 = true → v7 = .pointer (some ⟨p2,0,none⟩))∧a' = put4n a0 6 7 30 32 v6 v7 v30 v32∧Hid (PtG w5 (IntoV w5 z.x.a.ed) (FlgV w5 32 (inF 32 z.u.l)) (.map none) (.slice none 0 0) 85 87 d1 d2 b1 b2 b3 b4 V1 V2 p1 p2 W)) ?_ ?_
  ·exact ⟨false,false,false,false,false,false,undef,undef,0,0,undef,undef,undef,undef,rfl,rfl,(by simp),(by simp),(by simp),(by simp),(by simp),(by simp),(by simp),rfl,Lib.hid ⟨HBD.out,(by simp),(by simp),(by simp),(by simp),(by simp)⟩⟩
  ·clear HBD hA0
   rintro f L a' W ⟨d1,d2,b1,b2,b3,b4,V1,V2,p1,p2,v6,v7,v30,v32,rfl,hf,g1,g2,g3,g4,g5,g6,g7,rfl,HD⟩
   simp only [put4n,List.setIfInBounds_toArray,List.set_cons_succ,List.set_cons_zero]
   refine ⟨⟨And.intro (Blk.c4 (HKA.out W HD.out.bel)) (Blk.c6 (HK5.out W HD.out.bel)),fun _=>trivial⟩,R6i 1 3 4 5 6 7 d1 d2 b1 b2 b3 b4,?_,?_,?_,?_⟩
   ·clear HD g4 g5 g6 g7 hf
    cases d1 <;> cases d2 <;> cases b1 <;> cases b2 <;> cases b3 <;> cases b4 <;> first | (exfalso;revert g1 g2 g3;simp;done) | kernel_rfl
   ·intro hr0
    have:d1 = true∧d2 = true∧b1 = true∧b2 = true∧b3 = true∧b4 = true:=by
     clear HD g4 g5 g6 g7 hf
     revert g1 g2 g3 hr0
     cases d1 <;> cases d2 <;> cases b1 <;> cases b2 <;> cases b3 <;> cases b4 <;> simp [R6i]
    obtain ⟨rfl,rfl,rfl,rfl,rfl,rfl⟩:=this
    obtain rfl:=g6 rfl
    obtain rfl:=g7 rfl
    clear g1 g2 g3 g4 g5 g6 g7 hf hr0
    go_wp2_with fail
    go_meet
    case rel=>exact ⟨V1,V2,p1,p2,rfl,rfl,HD⟩
   ·intro h0
    have:d1 = true∧d2 = true∧b1 = true∧b2 = true∧b3 = true∧b4 = true:=by
     clear HD g4 g5 g6 g7
     subst h0
     revert g1 g2 g3 hf
     cases d1 <;> cases d2 <;> cases b1 <;> cases b2 <;> cases b3 <;> cases b4 <;> simp
    obtain ⟨rfl,rfl,rfl,rfl,rfl,rfl⟩:=this
    rfl
   ·rintro i hi g rfl
    rcases R6i_mem hi with ⟨rfl,rfl⟩ | ⟨rfl,rfl,rfl⟩ | ⟨rfl,rfl⟩ | ⟨rfl,rfl⟩ | ⟨rfl,rfl,rfl,rfl,rfl,rfl⟩ | ⟨rfl,rfl,rfl,rfl,rfl,rfl,rfl⟩
    ·have h3:b3 = false:=by cases b3 with | false=>rfl | true=>exact absurd (g2 rfl).1 (by simp)
     have h4:b4 = false:=by cases b4 with | false=>rfl | true=>exact absurd (g3 rfl).1 (by simp)
     refine wpOp_at (i:=1) rfl (fun K hK=>?_)
     go_simp
     go_at_call 37
     refine (HI.out W (HZ5.out W HD.out.bel)).mono ?_
     rintro e w9 ⟨o,m,g9,rfl,hi9⟩
     go_simp
     exact hK _ _ ⟨true,d2,b1,b2,b3,b4,_,V2,p1,p2,v6,v7,_,v32,rfl,(by simp only [Bool.toNat_true,Bool.toNat_false] at hf ⊢;omega),(fun _=>rfl),(fun h=>absurd h (by simp [h3])),(fun h=>absurd h (by simp [h4])),(fun _=>rfl),g5,g6,g7,rfl,Lib.hid (HD.out.c1 HSA.out HSB.out h3 hi9.bel ⟨o,m,g9,rfl,hi9.base HD.out.bel HD.out.bel.size⟩)⟩
    ·have h3:b3 = false:=by cases b3 with | false=>rfl | true=>exact absurd (g2 rfl).2.1 (by simp)
     have h4:b4 = false:=by cases b4 with | false=>rfl | true=>exact absurd (g3 rfl).2.1 (by simp)
     obtain rfl:=g4 rfl
     refine wpOp_at (i:=3) rfl (fun K hK=>?_)
     go_simp
     go_at_call 38
     refine (HH.out W (HZ5.out W HD.out.bel)).mono ?_
     rintro e w9 ⟨b,rfl,hk,hl,hb⟩
     go_simp
     exact hK _ _ ⟨true,true,b1,b2,b3,b4,_,_,p1,p2,v6,v7,_,_,rfl,(by simp only [Bool.toNat_true,Bool.toNat_false] at hf ⊢;omega),(fun _=>rfl),(fun h=>absurd h (by simp [h3])),(fun h=>absurd h (by simp [h4])),(fun _=>rfl),(fun _=>rfl),g6,g7,rfl,Lib.hid (HD.out.c2 HSA.out HSB.out h4 hb ⟨b,rfl,hk,Nat.le_trans HD.out.bel.size hl⟩)⟩
    ·have h3:b3 = false:=by cases b3 with | false=>rfl | true=>exact absurd (g2 rfl).2.2.1 (by simp)
     have h4:b4 = false:=by cases b4 with | false=>rfl | true=>exact absurd (g3 rfl).2.2.1 (by simp)
     refine wpOp_at (i:=4) rfl (fun K hK=>?_)
     go_simp
     exact hK _ _ ⟨d1,d2,true,b2,b3,b4,V1,V2,W.heap.size,p2,_,v7,v30,v32,rfl,(by simp only [Bool.toNat_true,Bool.toNat_false] at hf ⊢;omega),g1,(fun h=>absurd h (by simp [h3])),(fun h=>absurd h (by simp [h4])),g4,g5,(fun _=>rfl),g7,rfl,Lib.hid (HD.out.a1 HSA.out HSB.out h3)⟩
    ·have h3:b3 = false:=by cases b3 with | false=>rfl | true=>exact absurd (g2 rfl).2.2.2 (by simp)
     have h4:b4 = false:=by cases b4 with | false=>rfl | true=>exact absurd (g3 rfl).2.2.2.1 (by simp)
     refine wpOp_at (i:=5) rfl (fun K hK=>?_)
     go_simp
     exact hK _ _ ⟨d1,d2,b1,true,b3,b4,V1,V2,p1,W.heap.size,v6,_,v30,v32,rfl,(by simp only [Bool.toNat_true,Bool.toNat_false] at hf ⊢;omega),g1,(fun h=>absurd h (by simp [h3])),(fun h=>absurd h (by simp [h4])),g4,g5,g6,(fun _=>rfl),rfl,Lib.hid (HD.out.a2 HSA.out HSB.out h4)⟩
    ·have h4:b4 = false:=by cases b4 with | false=>rfl | true=>exact absurd (g3 rfl).2.2.2.2 (by simp)
     subst h4
     obtain ⟨o9,m9,g9,he9,_⟩:=HD.out.k1 rfl
     subst he9
     obtain rfl:=g4 rfl
     obtain rfl:=g5 rfl
     obtain rfl:=g6 rfl
     obtain rfl:=g7 rfl
     have c0:=(HD.out.m1 rfl).1.cell (j:=0) rfl
     have f0:=(HD.out.m1 rfl).1.free 0
     have l0:=(HD.out.m1 rfl).1.lt
     refine wpOp_at (i:=6) rfl (fun K hK=>?_)
     go_simp
     exact hK _ _ ⟨true,true,true,true,true,false,_,_,p1,p2,_,_,_,_,rfl,(by simp only [Bool.toNat_true,Bool.toNat_false] at hf ⊢;omega),g1,(fun _=>⟨rfl,rfl,rfl,rfl⟩),(fun h=>by cases h),(fun _=>rfl),(fun _=>rfl),(fun _=>rfl),(fun _=>rfl),rfl,Lib.hid (HD.out.s1 HSA.out HSB.out)⟩
    ·obtain ⟨b9,he9,_⟩:=HD.out.k2 rfl
     subst he9
     obtain rfl:=g4 rfl
     obtain rfl:=g5 rfl
     obtain rfl:=g6 rfl
     obtain rfl:=g7 rfl
     have c0:=(HD.out.m2 rfl).1.cell (j:=0) rfl
     have f0:=(HD.out.m2 rfl).1.free 0
     have l0:=(HD.out.m2 rfl).1.lt
     refine wpOp_at (i:=7) rfl (fun K hK=>?_)
     go_simp
     exact hK _ _ ⟨true,true,true,true,true,true,_,_,p1,p2,_,_,_,_,rfl,(by simp only [Bool.toNat_true,Bool.toNat_false] at hf ⊢;omega),g1,(fun _=>⟨rfl,rfl,rfl,rfl⟩),(fun _=>⟨rfl,rfl,rfl,rfl,rfl⟩),(fun _=>rfl),(fun _=>rfl),(fun _=>rfl),(fun _=>rfl),rfl,Lib.hid (HD.out.s2 HSA.out HSB.out)⟩
 case rest =>
  obtain ⟨V1,V2,p1,p2,rfl,rfl,HD⟩:=hcut
  obtain ⟨hm1,hp1⟩:=HD.out.m1 rfl
  obtain ⟨hm2,hp2⟩:=HD.out.m2 rfl
  rw [if_pos rfl] at hm1 hm2
  obtain ⟨o,m',g,rfl,hin⟩:=HD.out.k1 rfl
  obtain ⟨cb,rfl,hkc,hcb⟩:=HD.out.k2 rfl
  have HBC:=Lib.hid HD.out.bel
  have h1:=(HKA.out wc HD.out.bel).cell (j:=1) rfl
  have HM1:=Lib.hid hm1
  have HM2:=Lib.hid hm2
  have HIN:=Lib.hid hin
  have HKF:=Lib.hid hkc
  have HLC:=Lib.hid (And.intro hp1 (And.intro hp2 hcb))
  clear hm1 hm2 hin hkc hp1 hp2 hcb HD
  go_wp2_with fail
  refine (max_flags n none 0 0 [] wc hn4 rfl RdV.nil (fun s hs=>by cases hs) (Nat.le_refl _) (by omega)).mono ?_
  rintro _ w6 ⟨lb,rfl,hkl,hlb,hb6⟩
  have HKL:=Lib.hid hkl
  have HB6:=Lib.hid hb6
  have HLB:=Lib.hid hlb
  clear h1 hkl hb6 hlb
  go_upto_region 7 with fail
  have hb7:=box_below w6 (.cells #[.slice (some ⟨lb,0,none⟩) n n] 87)
  have kl7:=Blk.new w6 87 [.slice (some ⟨lb,0,none⟩) n n]
  obtain ⟨w7,hw7⟩:∃ w7,w7 = w6.alloc (.cells #[.slice (some ⟨lb,0,none⟩) n n] 87):=⟨_,rfl⟩
  rw [← hw7] at hb7 ⊢
  rw [show w6.alloc (.cells [.slice (some ⟨lb,0,none⟩) n n].toArray 87) = w7 from hw7.symm] at kl7
  obtain ⟨bl,hbl⟩:∃ b,w6.heap.size = b:=⟨_,rfl⟩
  rw [hbl] at kl7 ⊢
  have HBL:=Lib.hid hbl
  have HB7:=Lib.hid (HB6.out.trans (hb7.mono HB6.out.size))
  have HKB:=Lib.hid kl7
  have HK0:=Lib.hid (show Blk w7 lb 4 (bvl (t1L n 0)) by rw [t1L_zero];exact HKL.out.below hb7 HKL.out.lt)
  have HKZ:=Lib.hid HK0.out
  have HG0:=Lib.hid (grown_refl w7 (some lb))
  have hlbb:lb ≠ bl:=by have:=HKL.out.lt;omega
  have c8:w7.cell? ⟨bl,0,none⟩ = some (.slice (some ⟨lb,0,none⟩) n n):=kl7.cell (j:=0) rfl
  clear hb7 kl7 hbl hw7
  go_wp2
  clear c8
  go_loopw [9,38] (fun s9 s38 wr=>∃ (k:Nat) (v9:Value),s9 = v9∧s38 = .int .i64 k∧k ≤ n∧Hid (Blk wr lb 4 (bvl (t1L n k)))∧Hid (w7.grownBy wr (some lb))) (fun _ s38 _=>n - (intOf s38).toNat)
  case atStart=>exact ⟨0,_,rfl,rfl,Nat.zero_le _,HK0,HG0⟩
  case round =>
   clear HK0 HG0
   obtain ⟨k,v9,rfl,rfl,hk,HK0,HG0⟩:=hrel
   by_cases hlt:k < n
   ·have b1:(k:Int) < (n:Int):=by omega
    have c8:wr.cell? ⟨bl,0,none⟩ = some (.slice (some ⟨lb,0,none⟩) n n):=(HKB.out.kept HG0.out (by intro e;injection e with e;exact hlbb e.symm)).cell (j:=0) rfl
    obtain ⟨u,hu⟩:∃ u,(bvl (t1L n k))[k]? = some u:=⟨_,List.getElem?_eq_getElem (by rw [bvl_length,t1L_len hk];exact hlt)⟩
    have g1:wr.cell? ⟨lb,k,none⟩ = some u:=HK0.out.cell hu
    have g2:wr.frozen? ⟨lb,k,none⟩ = false:=HK0.out.free _
    have g3:lb < wr.heap.size:=HK0.out.lt
    have HK2:=Lib.hid (show Blk (wr.setCell ⟨lb,k,none⟩ (.bool true)) lb 4 (bvl (t1L n (k + 1))) from by
     have:=HK0.out.set (j:=k) (by rw [bvl_length,t1L_len hk];exact hlt) (.bool true)
     rw [bvl_set,t1L_set hlt] at this
     exact this)
    have HG2:=Lib.hid (HG0.out.trans (grown_setCell wr lb k (.bool true)))
    clear hu
    go_wp2
    go_roundw
    case rel=>exact ⟨k + 1,_,rfl,by go_num,by omega,HK2,HG2⟩
    case measure=>simp [intOf];omega
   obtain rfl:k = n:=by omega
   have b1:¬ (k:Int) < (k:Int):=by omega
   have hbx:=box_below wr (.cells #[.slice none 0 0,.slice none 0 0,.slice none 0 0] 38)
   have HPW:=Lib.hid (show PrW w5 (wr.alloc (.cells #[.slice none 0 0,.slice none 0 0,.slice none 0 0] 38)) z.x z.u.l ⟨ba,p1,p2,bl,wr.heap.size,cb,lb,o,m',k,g⟩ (.slice none 0 0) 0 (List.replicate k true) [] from by
    obtain ⟨q1,q2,q3⟩:=HLC.out
    have e1:=HM1.out.lt
    have e2:=HM2.out.lt
    have e3:=HKF.out.lt
    have hlc:=HLB.out
    have hsz:=HBC.out.size
    have b7:Below w5.heap.size w5 w7:=HBC.out.trans (HB7.out.mono HBC.out.size)
    have bw:Below w5.heap.size w5 wr:=b7.grown HG0.out b7.size (fun j e=>by injection e with e;omega)
    have kp:∀ {b:Nat} {t:TypeId} {vs:List Value},Blk w7 b t vs → b ≠ lb → Blk (wr.alloc (.cells #[.slice none 0 0,.slice none 0 0,.slice none 0 0] 38)) b t vs:=fun h hne=>(h.kept HG0.out (fun e=>by injection e with e;exact hne e)).al _
    refine ⟨bw.trans (hbx.mono bw.size),?_,kp (HM1.out.below HB7.out e1) (show p1 ≠ lb by omega),kp (HM2.out.below HB7.out e2) (show p2 ≠ lb by omega),kp HKB.out (fun e=>hlbb e.symm),Blk.new _ _ [_,_,_],kp (HKF.out.below HB7.out e3) (show cb ≠ lb by omega),?_,by rw [List.length_replicate],?_,World.ownsRow_nil _ _ _ _,rfl,by show cb ≠ lb;omega,by show w5.heap.size ≤ lb;omega,bw.size⟩
    ·rw [show z.x.a.st = (k:Int) by exact HN.out]
     exact HKA.out _ (bw.trans (hbx.mono bw.size))
    ·rw [← t1L_all]
     exact HK0.out.al _
    ·exact InM.quiet (InM.kept (HIN.out.quiet HB7.out) HG0.out HKZ.out (by decide) (show w5.heap.size ≤ lb by omega)) hbx)
   have HX5:=Lib.hid (HZ5.out w5 (Below.refl _ _)).x
   clear HK0 HG0 HKB HKZ HLC HM1 HM2 HKF HIN HKL HB6 HB7 HBC HLB hlbb hbx
   have hxn:=box_below wr (.cells #[.slice none 0 0,.slice none 0 0,.slice none 0 0] 38)
   go_upto_region 14 with fail
   obtain ⟨bx,hbxe⟩:∃ b,wr.heap.size = b:=⟨_,rfl⟩
   rw [hbxe] at HPW ⊢
   generalize wr.alloc (.cells #[.slice none 0 0,.slice none 0 0,.slice none 0 0] 38) = w9 at HPW ⊢
   clear hxn hbxe HBL
   have HF9:=Lib.hid (HZ5.out w9 HPW.out.bel).f
   have hfn:z.f.n ≤ 4096:=by
    have h1:=inc_len (n:=k) HM.out.finc (by rw [← show z.m.a.st = (k:Int) by exact HN.out];exact HM.out.frng)
    have h2:z.m.f.length = z.f.n:=HF9.out.la
    omega
   obtain ⟨_,a5⟩:=Blk.c6 (HK5.out w9 HPW.out.bel)
   have HO0:=Lib.hid (World.ownsRow_nil w9 w9.heap.size 63 4)
   have HFL:=Lib.hid HF9.out.la
   go_wp2
   clear a5
   go_loopw [12,14,49] (fun s12 s14 s49 wr=>∃ (j:Nat) (v12 v14:Value),v12 = s12∧s14 = v14∧s49 = .int .i64 j∧j ≤ z.f.n∧Hid (wr.ownsRow w9.heap.size 63 4 v12 j ((foK z.f.l j).flatMap rmc))∧Hid (Below w9.heap.size w9 wr)) (fun _ _ s49 _=>z.f.n - (intOf s49).toNat)
   case atStart=>exact ⟨0,_,_,rfl,rfl,rfl,Nat.zero_le _,HO0,Lib.hid (Below.refl _ _)⟩
   case round =>
    clear HO0
    obtain ⟨j,v12,v14,rfl,rfl,rfl,hj,HO,HB⟩:=hrel
    obtain ⟨OA,oc,rfl⟩:=own_shape HO.out
    by_cases hlt:j < z.f.n
    ·obtain ⟨ad,s,hA,hab,hs,hcs⟩:=(HF9.out.ra.below HB.out).at_ (k:=j) (by rw [HFL.out];exact hlt)
     have b2:(j:Int) < (z.f.n:Int):=by omega
     have HFK:=Lib.hid (foK_snoc hs)
     have hsz:=HB.out.size
     obtain ⟨FA,hFA⟩:∃ A,z.f.A = A:=⟨_,rfl⟩
     rw [hFA] at hA ⊢
     subst hA
     clear hs hab
     go_wp2_with (first | (at_builtin;refine wpList_pushN wr [.int .i64 s,.int .i64 1,.int .i64 1,.int .i64 (-1)] rfl (.tmp 53) (.tmp 56) 36 rfl w9.heap.size 63 (.agg #[.int .i64 0,.int .i64 0,.int .i64 0,.int .i64 0]) 4 32 Try.underlying36 rm_info rfl (by decide) rfl (.slice OA j oc) j _ rfl HO.out rfl (fun u hu=>by simp at hu;rcases hu with rfl | rfl | rfl | rfl <;> rfl) (by omega) (by omega) hsz ?_;intro v' w' ho' hg' hb1) | fail)
     have HO7:=Lib.hid (show w'.ownsRow w9.heap.size 63 4 v' (j + 1) ((foK z.f.l (j + 1)).flatMap rmc) by rw [HFK.out,List.flatMap_append];exact ho')
     have HB7:=Lib.hid (HB.out.trans hb1)
     go_roundw
     case rel=>exact ⟨j + 1,_,_,rfl,rfl,by go_num,by omega,HO7,HB7⟩
     case measure=>simp [intOf];omega
    obtain ⟨nf,hnf⟩:∃ q,z.f.n = q:=⟨_,rfl⟩
    rw [hnf] at hj hlt hfn HFL ⊢
    obtain rfl:j = nf:=by omega
    have b2:¬ (j:Int) < (j:Int):=by omega
    have hfk:foK z.f.l j = foL z.m:=by
     unfold foK
     rw [List.take_of_length_le (by rw [HFL.out];exact Nat.le_refl _)]
     exact (foL_eq HM.out).symm
    have hlen:(foL z.m).length = j:=by rw [← hfk];exact foK_len (by rw [HFL.out];exact Nat.le_refl _)
    rw [hfk] at HO
    have HP9:=Lib.hid (HPW.out.quiet HB.out)
    have HREM:=Lib.hid (max_remove w5 wr z.x z.u.l ⟨ba,p1,p2,bl,bx,cb,lb,o,m',k,g⟩ (.slice none 0 0) 0 (List.replicate k true) [] HP9.out w9.heap.size OA j oc (foL z.m) HO.out hlen (fun r hr=>by have:=(foL_mem.1 hr).1;rw [show z.m.a.st = (k:Int) by exact HN.out] at this;exact this) (by omega) (by omega))
    clear hfk hlen hnf HO
    go_wp2_with fail
    refine HREM.out.mono ?_
    rintro _ w10 ⟨Rv,rfl,hp10⟩
    have HP:=Lib.hid hp10
    clear hp10 HREM HP9 HPW HB
    rw [List.nil_append,Nat.zero_add] at HP
    have hkt:z.m.a.st.toNat = k:=by rw [show z.m.a.st = (k:Int) by exact HN.out];simp
    have hst9:=PrI.start HM.out
    have hpg:prvG z.m (k + 1 - 0) 2 (rmv (List.replicate k true) (foL z.m)) (foL z.m) = prvS z.m:=by unfold prvS;rw [hkt];rfl
    rw [hkt] at hst9
    have HPI:=Lib.hid hst9
    have HPG:=Lib.hid hpg
    clear hst9 hpg hkt
    generalize rmv (List.replicate k true) (foL z.m) = N0 at HP HPI HPG
    generalize foL z.m = R0 at HP HPI HPG
    obtain ⟨PS,hPS⟩:∃ q,prvS z.m = q:=⟨_,rfl⟩
    rw [hPS] at HPG
    have HPS:=Lib.hid hPS
    have hjk:j ≤ 4096:=hfn
    clear hPS hfn
    generalize j = m0 at HP hjk
    go_upto_region 24 with fail
    go_loopw [17] (fun s17 wr=>∃ (r m:Nat) (Rv:Value) (N:List Bool) (R:List Rm),s17 = .int .i64 (r:Int)∧2 ≤ r∧r ≤ k + 2∧m ≤ 4096∧Hid (PrW w5 wr z.x z.u.l ⟨ba,p1,p2,bl,bx,cb,lb,o,m',k,g⟩ Rv m N R)∧Hid (PrI z.m (r:Int) N R)∧Hid (prvG z.m (k + 1 - (r - 2)) (r:Int) N R = PS)) (fun s17 _=>5000 - (intOf s17).toNat)
    case atStart=>exact ⟨2,m0,Rv,N0,R0,rfl,Nat.le_refl _,by omega,hjk,HP,HPI,HPG⟩
    case round =>
     clear HP HPI HPG hjk
     obtain ⟨r,m,Rv,N,R,rfl,hr2,hrk,hm4,HP,HPI,HPG⟩:=hrel
     have HUC:=Lib.hid (max_unc w5 wr z.x z.u.l z.f.l _ Rv m N R HP.out HX5.out HXW.out HN.out HM.out.urng (r:Int))
     go_wp2_with fail
     refine HUC.out.mono ?_
     rintro _ w11 ⟨v,n1,rfl,hl1,ho1,hb11⟩
     obtain ⟨A1,c1,rfl⟩:=own_shape ho1
     have hNk:(N.length:Int) = z.m.a.st:=HPI.out.len
     have hst:z.m.a.st = (k:Int):=HN.out
     have hue:uncL (Mx.mk z.x.a z.u.l z.f.l) N (r:Int) = ldL z.m N (r:Int):=uncL_eq (p:=z.m) HM.out.wf hNk
     rw [hue] at hl1 ho1
     have hs1:∀ y ∈ ldL z.m N (r:Int),0 ≤ y.s∧y.s < (k:Int):=fun y hy=>by
      have:=(ldL_mem.1 hy).1.1
      omega
     have hn1:n1 ≤ k:=by rw [← hl1];exact incR_len ldL_inc hs1
     have HP11:=Lib.hid (HP.out.quiet hb11)
     have HRE:=Lib.hid (max_remove w5 w11 z.x z.u.l _ Rv m N R HP11.out wr.heap.size A1 n1 c1 (ldL z.m N (r:Int)) ho1 hl1 hs1 (by omega) (by omega))
     rcases Nat.eq_zero_or_pos n1 with h0 | h0
     case inr =>
      have hL:rndS z.m N (r:Int) = ldL z.m N (r:Int):=by
       unfold rndS
       rw [if_neg]
       intro e
       rw [e] at hl1
       simp at hl1
       omega
      have hst3:=prv_step HM.out hst HPI.out hr2 hL (fun e=>by rw [e] at hl1;simp at hl1;omega) HPG.out
      obtain ⟨q1,q2,q3,q4⟩:=hst3
      rw [List.length_append,hl1,HP.out.rl] at q3
      have HP1:=Lib.hid q1
      have HP2:=Lib.hid q2
      have HRE2:=Lib.hid (HRE.out.mono (fun _ _ h9=>h9.yes h0))
      clear q1 q2 hL hue hs1 HRE hNk hst ho1 hl1 hb11
      go_wp2_with fail
      refine HRE2.out.mono ?_
      rintro _ w12 ⟨Rv',rfl,hp12⟩
      have HP12:=Lib.hid hp12
      clear hp12 HRE2
      go_wp2
      go_roundw
      case rel=>exact ⟨r + 1,m + n1,Rv',_,_,by go_num,by omega,q4,by omega,HP12,HP1,HP2⟩
      case measure=>simp [intOf];omega
     have hle:ldL z.m N (r:Int) = []:=List.eq_nil_of_length_eq_zero (by rw [hl1];exact h0)
     have HRE2:=Lib.hid (HRE.out.mono (fun _ _ h9=>h9.no h0 hle))
     have HLE:=Lib.hid hle
     clear hue hs1 HRE hNk hst ho1 hl1 hb11 h0 hle HP11
     go_wp2_with fail
     refine HRE2.out.mono ?_
     rintro _ w12 ⟨Rv2,rfl,hp12⟩
     have HP12:=Lib.hid hp12
     clear hp12 HRE2 HUC
     have HBC:=Lib.hid (max_blocked w5 w12 z.x z.u.l z.f.l _ Rv2 m N R HP12.out HX5.out HXW.out HN.out (r:Int))
     go_wp2_with fail
     refine HBC.out.mono ?_
     rintro _ w13 ⟨v,n2,rfl,hl2,ho2,hb13⟩
     obtain ⟨A2,c2,rfl⟩:=own_shape ho2
     have hNk:(N.length:Int) = z.m.a.st:=HPI.out.len
     have hst:z.m.a.st = (k:Int):=HN.out
     have hue:blkL (Mx.mk z.x.a z.u.l z.f.l) N (r:Int) = blL z.m N (r:Int):=blkL_eq (p:=z.m) HM.out.wf hNk
     rw [hue] at hl2 ho2
     have hL:rndS z.m N (r:Int) = blL z.m N (r:Int):=by unfold rndS;rw [if_pos HLE.out]
     have hs1:∀ y ∈ blL z.m N (r:Int),0 ≤ y.s∧y.s < (k:Int):=fun y hy=>by
      have:=(blL_mem.1 hy).1.1
      omega
     have hn1:n2 ≤ k:=by rw [← hl2];exact incR_len blL_inc hs1
     have HP11:=Lib.hid (HP12.out.quiet hb13)
     have HRE:=Lib.hid (max_remove w5 w13 z.x z.u.l _ Rv2 m N R HP11.out w12.heap.size A2 n2 c2 (blL z.m N (r:Int)) ho2 hl2 hs1 (by omega) (by omega))
     clear HBC hb13 HP12 hue
     rcases Nat.eq_zero_or_pos n2 with h0 | h0
     case inr =>
      have hst3:=prv_step HM.out hst HPI.out hr2 hL (fun e=>by rw [e] at hl2;simp at hl2;omega) HPG.out
      obtain ⟨q1,q2,q3,q4⟩:=hst3
      rw [List.length_append,hl2,HP11.out.rl] at q3
      have HP1:=Lib.hid q1
      have HP2:=Lib.hid q2
      have HRE2:=Lib.hid (HRE.out.mono (fun _ _ h9=>h9.yes h0))
      clear q1 q2 hL hs1 HRE hNk hst ho2 hl2
      go_wp2_with fail
      refine HRE2.out.mono ?_
      rintro _ w14 ⟨Rv',rfl,hp12⟩
      have HP12:=Lib.hid hp12
      clear hp12 HRE2
      go_wp2
      go_roundw
      case rel=>exact ⟨r + 1,m + n2,Rv',_,_,by go_num,by omega,q4,by omega,HP12,HP1,HP2⟩
      case measure=>simp [intOf];omega
     have hle:blL z.m N (r:Int) = []:=List.eq_nil_of_length_eq_zero (by rw [hl2];exact h0)
     have HPE:=Lib.hid (prv_end HM.out hst HPI.out hr2 (hL.trans hle) HPG.out)
     have HRE2:=Lib.hid (HRE.out.mono (fun _ _ h9=>h9.no h0 hle))
     clear hL hs1 HRE hNk hst ho2 hl2 h0 hle HPG HLE
     go_wp2_with fail
     refine HRE2.out.mono ?_
     rintro _ w14 ⟨Rv3,rfl,hp14⟩
     have HP14:=Lib.hid hp14
     clear hp14 HRE2
     have HSR:=Lib.hid (max_sort_any w5.heap.size m Rv3 R w14 HP14.out.row HP14.out.rl (fun y hy=>by
      have h9:=HPI.out.rng y hy
      rw [show z.m.a.st = (k:Int) by exact HN.out] at h9
      omega) (by omega))
     obtain ⟨RA,rc,rfl⟩:=own_shape HP14.out.row
     have d1:w14.cell? ⟨bx,2,none⟩ = some (.slice RA m rc):=HP14.out.kx.cell (j:=2) rfl
     go_wp2_with fail
     refine HSR.out.mono ?_
     rintro _ w15 ⟨rfl,R',hpm,hpw,ho15,hg15⟩
     have HSE:=Lib.hid (srt_list (p:=z.m) hpm hpw HPI.out.uni HPI.out.rng)
     have HP15:=Lib.hid (HP14.out.srt (by rw [hpm.length_eq];exact HP14.out.rl) ho15 hg15)
     clear d1 HSR hpm hpw ho15 hg15 HP14
     obtain ⟨a0,a1,a2,a3⟩:=Blk.c4 HP15.out.ka
     rw [show z.x.a.st = (k:Int) by exact HN.out] at a1
     have a4:w15.cell? ⟨bl,0,none⟩ = some (.slice (some ⟨lb,0,none⟩) k k):=HP15.out.kl.cell (j:=0) rfl
     have a5:w15.cell? ⟨p1,0,none⟩ = some (.map (some o)):=HP15.out.kb.cell (j:=0) rfl
     have HDC:=Lib.hid (max_distances z.x lb k o m' N g w5.heap.size w5 w15 (AutR.more (AutR.below HX5.out HP15.out.bel) HP15.out.bel.size) HXW.out HN.out HP15.out.nl HP15.out.klb HP15.out.into)
     rw [show z.x.a.st = (k:Int) by exact HN.out] at HDC
     go_wp2_with fail
     refine HDC.out.mono ?_
     rintro _ w16 ⟨ob,rfl,hkd,hob,hb16⟩
     have hdl:=(dsS_spec (es:=z.x.a.ed) (N:=N) (ma:=z.x.a.ma) (fun y hy=>by
      have h8:=HP15.out.nl
      have h9:=HXW.out.ev_rng hy
      rw [show z.m.a.st = (k:Int) by exact HN.out] at h9
      have h7:N.length = k:=h8
      rw [h7];omega) (fun s hs=>by
      have h7:N.length = k:=HP15.out.nl
      have h9:=HXW.out.mrng s hs
      rw [show z.m.a.st = (k:Int) by exact HN.out] at h9
      rw [h7];exact h9) (HXW.out.minc.imp (fun h=>by omega))).1
     have HDL:=Lib.hid (show (dsS z.x.a.ed N z.x.a.ma).1.length = k by rw [hdl];exact HP15.out.nl)
     have HKH:=Lib.hid (show KpH w5 w16 w16 ⟨ba,p1,p2,bl,bx,cb,lb,o,m',k,g⟩ ob N (dsS z.x.a.ed N z.x.a.ma).1 (.slice RA m rc) m R' (.slice none 0 0) (.slice none 0 0) 0 0 [] [] from by
      have hp:=HP15.out.quiet hb16
      exact ⟨hp.bel,Nat.le_refl _,hp.kl,hp.klb,hkd,hp.kx,hp.row,World.ownsRow_nil _ _ _ _,World.ownsRow_nil _ _ _ _,(fun g e=>by cases e),hkd.lt,hp.bel.size,hp.l2,hp.nl⟩)
     clear a0 a1 a2 a3 a4 a5 HDC hkd hob hb16 HP15 hdl
     have HRC:=Lib.hid (show m ≤ 4096 by exact hm4)
     obtain ⟨D,hD⟩:∃ D,(dsS z.x.a.ed N z.x.a.ma).1 = D:=⟨_,rfl⟩
     rw [hD] at HDL HKH
     have HDD:=Lib.hid hD
     clear hD
     have d4:w16.cell? ⟨bl,0,none⟩ = some (.slice (some ⟨lb,0,none⟩) k k):=HKH.out.kl.cell (j:=0) rfl
     go_wp2
     clear d4
     go_loopw [19,20,87] (fun s19 s20 s87 wr=>∃ (j q:Nat) (v19 v20 v1 v2:Value),s19 = v19∧s20 = v20∧s87 = .int .i64 j∧j ≤ k∧q ≤ j∧Hid ((onJ N j).length = q)∧Hid (KpH w5 w16 wr ⟨ba,p1,p2,bl,bx,cb,lb,o,m',k,g⟩ ob N D (.slice RA m rc) m R' v1 v2 q q (onJ N j) ((onJ N j).map (gI D)))) (fun _ _ s87 _=>k - (intOf s87).toNat)
     case atStart=>exact ⟨0,0,_,_,_,_,rfl,rfl,rfl,Nat.zero_le _,Nat.zero_le _,Lib.hid rfl,HKH⟩
     case round =>
      clear HKH
      obtain ⟨j,q,v19,v20,v1,v2,rfl,rfl,rfl,hj,hqj,HQL,HKH⟩:=hrel
      obtain ⟨A8,c8,rfl⟩:=own_shape HKH.out.o1
      obtain ⟨A9,c9,rfl⟩:=own_shape HKH.out.o2
      have d4:wr.cell? ⟨bl,0,none⟩ = some (.slice (some ⟨lb,0,none⟩) k k):=HKH.out.kl.cell (j:=0) rfl
      by_cases hlt:j < k
      ·have b3:(j:Int) < (k:Int):=by omega
       obtain ⟨b,hb⟩:∃ b,N[j]? = some b:=⟨_,List.getElem?_eq_getElem (by rw [HKH.out.nl];exact hlt)⟩
       have d5:wr.cell? ⟨lb,j,none⟩ = some (.bool b):=HKH.out.klb.cell (by rw [bvl_get,hb];rfl)
       have HOJ:=Lib.hid (onJ_snoc hb)
       clear hb
       cases b with
       | false =>
        have HOE:=Lib.hid (show onJ N (j + 1) = onJ N j by rw [HOJ.out,if_neg (by simp),List.append_nil])
        go_wp2
        go_roundw
        case rel=>exact ⟨j + 1,q,_,_,_,_,rfl,rfl,by go_num,by omega,by omega,by rw [HOE.out];exact HQL,by rw [HOE.out];exact HKH⟩
        case measure=>simp [intOf];omega
       | true =>
        have HOE:=Lib.hid (show onJ N (j + 1) = onJ N j ++ [(j:Int)] by rw [HOJ.out,if_pos rfl])
        have d6:wr.cell? ⟨bx,0,none⟩ = some (.slice A8 q c8):=HKH.out.kx.cell (j:=0) rfl
        have hsz:=HKH.out.siz
        have hdg:gI D (j:Int) = gI D (j:Int):=rfl
        obtain ⟨dv,hdv⟩:∃ x,gI D (j:Int) = x:=⟨_,rfl⟩
        have HDV:=Lib.hid hdv
        clear hdg hdv
        go_upto_region 32 with fail
        go_upto_region 33 with (first | (at_builtin;refine wpList_pushA wr [.int .i64 (j:Int)] rfl (.tmp 94) (.tmp 96) 29 rfl w16.heap.size 3 (.int .i64 0) 1 8 Try.underlying29 int_info rfl (by decide) rfl (.slice A8 q c8) q _ rfl HKH.out.o1 rfl (fun z hz=>by simp at hz;subst hz;rfl) (by omega) (by omega) hsz ?_;intro A6 c6 w7 ho6 hg6 hl6;obtain ⟨hkh,k7⟩:=HKH.out.push1 ho6 hg6 hl6;have HK6:=Lib.hid hkh;have f1:w7.frozen? ⟨bx,0,none⟩ = false:=k7.free 0;have f2:bx < w7.heap.size:=k7.lt;have f3:w7.cell? ⟨bx,0,none⟩ = some (.slice A8 q c8):=k7.cell (j:=0) rfl;clear ho6 hg6 hl6 hkh k7) | fail)
        clear d4 d5 d6 f1 f2 f3
        have hk6:=HK6.out
        clear HK6
        have hk6':KpH w5 w16 (w7.setCell ⟨bx,0,none⟩ (.slice A6 (q + 1) c6)) ⟨ba,p1,p2,bl,bx,cb,lb,o,m',k,g⟩ ob N D (.slice RA m rc) m R' (.slice A6 (q + 1) c6) (.slice A9 q c9) (q + 1) q (onJ N j ++ [(j:Int)]) ((onJ N j).map (gI D)):=hk6
        clear hk6
        generalize w7.setCell ⟨bx,0,none⟩ (.slice A6 (q + 1) c6) = w8 at hk6' ⊢
        have HK7:=Lib.hid (hk6'.below (below_dr w8))
        clear hk6'
        refine wp_region_U (fun V=>V.cell? ⟨ob,j,none⟩ = some (.int .i64 dv)) (fun V=>V.cell? ⟨bx,1,none⟩ = some (.slice A9 q c9)) 9 (by kernel_rfl) ?_
        change anyU _ _ _ _ _ _ _ 10 _ _ _
        generalize w8.drew = wd at HK7 ⊢
        have hA0:wd.cell? ⟨ob,j,none⟩ = some (.int .i64 dv):=by rw [← HDV.out];exact HK7.out.kd.cell (iv_gI (by rw [HDL.out];exact hlt))
        have hB0:wd.cell? ⟨bx,1,none⟩ = some (.slice A9 q c9):=HK7.out.kx.cell (j:=1) rfl
        (refine uA 0 ?_ rfl hA0 hB0 (fun W hA=>?_) ?_;rotate_left;(· (go_simp;try with_reducible rfl));(try simp only [Act.put,List.setIfInBounds_toArray,List.set_cons_zero,List.set_cons_succ]))
        (refine uB 1 ?_ rfl hA0 hB0 (fun W hA hB=>?_) ?_;rotate_left;(· (go_simp;try with_reducible rfl));(try simp only [Act.put,List.setIfInBounds_toArray,List.set_cons_zero,List.set_cons_succ]))
        (refine uA 2 ?_ rfl hA0 hB0 (fun W hA=>?_) ?_;rotate_left;(· (go_simp;try with_reducible rfl));refine uA 3 ?_ rfl hA0 hB0 (fun W hA=>?_) ?_;rotate_left;(· (go_simp;try with_reducible rfl));refine uA 4 ?_ rfl hA0 hB0 (fun W hA=>?_) ?_;rotate_left;(· (go_simp;try with_reducible rfl));(try simp only [Act.put,List.setIfInBounds_toArray,List.set_cons_zero,List.set_cons_succ]))
        (refine uA 5 ?_ rfl hA0 hB0 (fun W hA=>?_) ?_;rotate_left;(· (go_simp;try with_reducible rfl));(try simp only [Act.put,List.setIfInBounds_toArray,List.set_cons_zero,List.set_cons_succ]))
        refine uOne (i:=6) rfl (by kernel_rfl) (fun K hK=>?_)
        go_simp
        have HK8:=Lib.hid (HK7.out.below (box_below wd (.cells #[.int .i64 dv] 3)))
        have kn:Blk (wd.alloc (.cells #[.int .i64 dv] 3)) wd.heap.size 3 [.int .i64 dv]:=Blk.new _ _ [_]
        clear hA0 hB0 HK7
        generalize wd.heap.size = qb at kn ⊢
        generalize wd.alloc (.cells #[.int .i64 dv] 3) = w9' at HK8 kn ⊢
        have hA0:w9'.cell? ⟨ob,j,none⟩ = some (.int .i64 dv):=by rw [← HDV.out];exact HK8.out.kd.cell (iv_gI (by rw [HDL.out];exact hlt))
        have hB0:w9'.cell? ⟨bx,1,none⟩ = some (.slice A9 q c9):=HK8.out.kx.cell (j:=1) rfl
        (refine hK _ _ ⟨hA0,fun _=>hB0⟩ ?_;clear hK K;(try simp only [Act.put,List.setIfInBounds_toArray,List.set_cons_zero,List.set_cons_succ]))
        refine uOne (i:=7) rfl (by kernel_rfl) (fun K hK=>?_)
        obtain ⟨i0,hi0,hz0,hz1,hz2⟩:=info_parts int_info
        refine step_append_lies w9' rfl (.tmp 100) (.tmp 105) 29 rfl w16.heap.size 3 i0 (.int .i64 0) 1 8 Try.underlying29 hi0 hz0 hz1 hz2 rfl (by decide) (.slice A9 q c9) q _ rfl HK8.out.o2 ⟨qb,0,none⟩ 1 1 [.int .i64 dv] rfl rfl (fun j u hu=>by rw [add_lit0];exact kn.cell hu) (fun u hu=>by simp at hu;subst hu;rfl) (by decide) (by unfold maxLen;omega) (by omega) HK8.out.siz _ rfl ?_
        intro gb cb9 w10 how hgw hgb _
        obtain ⟨hk9,kx9,kd9⟩:=HK8.out.push2 how hgw (by
         rcases hgb with e | e
         ·exact .inl (by rw [e];rfl)
         ·exact .inr ⟨gb,rfl,by omega⟩)
        have HK9:=Lib.hid hk9
        clear hA0 hB0
        have hA0:w10.cell? ⟨ob,j,none⟩ = some (.int .i64 dv):=by rw [← HDV.out];exact kd9.cell (iv_gI (by rw [HDL.out];exact hlt))
        have hB0:w10.cell? ⟨bx,1,none⟩ = some (.slice A9 q c9):=kx9.cell (j:=1) rfl
        have f1:w10.frozen? ⟨bx,1,none⟩ = false:=kx9.free 1
        have f2:bx < w10.heap.size:=kx9.lt
        clear how hgw hgb hk9 kx9 kd9 kn HK8 hi0 hz0 hz1 hz2
        (refine hK _ _ ⟨hA0,fun _=>hB0⟩ ?_;clear hK K;(try simp only [Act.put,List.setIfInBounds_toArray,List.set_cons_zero,List.set_cons_succ]))
        (refine uA 8 ?_ rfl hA0 hB0 (fun W hA=>?_) ?_;rotate_left;(· (go_simp;try with_reducible rfl));(try simp only [Act.put,List.setIfInBounds_toArray,List.set_cons_zero,List.set_cons_succ]))
        refine uOne (i:=9) rfl (by kernel_rfl) (fun K hK=>?_)
        go_simp
        clear hA0
        have hA0:(w10.setCell ⟨bx,1,none⟩ (.slice (some ⟨gb,0,none⟩) (q + 1) cb9)).cell? ⟨ob,j,none⟩ = some (.int .i64 dv):=by rw [← HDV.out];exact HK9.out.kd.cell (iv_gI (by rw [HDL.out];exact hlt))
        (refine hK _ _ ⟨hA0,fun h=>absurd (h.symm.trans (by kernel_rfl:_ = true)) Bool.false_ne_true⟩ ?_;clear hK K;(try simp only [Act.put,List.setIfInBounds_toArray,List.set_cons_zero,List.set_cons_succ]))
        refine anyU_done (by kernel_rfl) ?_ _
        clear hA0 hB0 f1 f2
        have HQ9:=Lib.hid (show (onJ N (j + 1)).length = q + 1 by rw [HOE.out,List.length_append,HQL.out];rfl)
        have HKZ:=Lib.hid (show KpH w5 w16 (w10.setCell ⟨bx,1,none⟩ (.slice (some ⟨gb,0,none⟩) (q + 1) cb9)) ⟨ba,p1,p2,bl,bx,cb,lb,o,m',k,g⟩ ob N D (.slice RA m rc) m R' (.slice A6 (q + 1) c6) (.slice (some ⟨gb,0,none⟩) (q + 1) cb9) (q + 1) (q + 1) (onJ N (j + 1)) ((onJ N (j + 1)).map (gI D)) by
         rw [HOE.out,List.map_append,show [(j:Int)].map (gI D) = [dv] by rw [← HDV.out];rfl]
         exact HK9.out)
        go_wp2
        go_roundw
        case rel=>exact ⟨j + 1,q + 1,_,_,_,_,rfl,rfl,by go_num,by omega,by omega,HQ9,HKZ⟩
        case measure=>simp [intOf];omega
      ·obtain ⟨jk,hjk⟩:∃ q,q = k:=⟨_,rfl⟩
       obtain rfl:j = k:=by omega
       have b3:¬ (j:Int) < (j:Int):=by omega
       have HPM:=Lib.hid (HPE.out)
       have hce:=prv_final HM.out (HPS.out.trans HPM.out) HKH.out.nl HN.out HDD.out HSE.out
       have hrl:R'.length = m:=by
        have h9:=HKH.out.row.1
        rw [rmc_len] at h9
        omega
       obtain ⟨hok,hblk,hgr⟩:=HKH.out.fin HQL.out (by rw [List.length_map];exact HQL.out) hrl (HKC5.out wr HKH.out.bel)
       have HCE:=Lib.hid hce
       have HB9:=Lib.hid ((HB5.out wr HKH.out.bel).grown hgr (HB5.out wr HKH.out.bel).size (fun j e=>by injection e with e;omega))
       obtain ⟨d70,d71,d72⟩:=Blk.c3 HKH.out.kx
       have hkc:=HKC5.out wr HKH.out.bel
       obtain ⟨e0,e1,e2⟩:=Blk.c3 hkc
       have fr0:=hkc.free 0
       have fr1:=hkc.free 1
       have fr2:=hkc.free 2
       have lt0:=hkc.lt
       have HOK:=Lib.hid hok
       have HBLK:=Lib.hid hblk
       clear hkc hjk hce hrl hok hblk hgr HKH HM HPE HPS HDD HSE HPI HX5 HXW HI HH HZ5 HK5 HKA
       go_wp2
       generalize ((wr.setCell ⟨w.heap.size + 1,0,none⟩ (.slice A8 q c8)).setCell ⟨w.heap.size + 1,1,none⟩ (.slice A9 q c9)).setCell ⟨w.heap.size + 1,2,none⟩ (.slice RA m rc) = w99 at HOK HBLK HB9 ⊢
       obtain ⟨z0,z1,z2⟩:=Blk.c3 HBLK.out
       clear d70 d71 d72 e0 e1 e2 fr0 fr1 fr2
       refine bodyPost_ret (v:=.tuple #[.agg #[.slice A8 q c8,.slice A9 q c9,.slice RA m rc],.int .i64 0]) (by simp [results,Try.results12,go_sem,z0,z1,z2]) rfl ?_
       exact ⟨⟨⟨A8,q,c8,_⟩,⟨A9,q,c9,_⟩,RA,m,rc,R'⟩,rfl,HOK.out,HCE.out,HB9.out⟩
end Go.Proofs.Ytdnmpndnpfklcaa

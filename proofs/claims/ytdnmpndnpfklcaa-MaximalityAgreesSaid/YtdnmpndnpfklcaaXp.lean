/- Walk: the graph's backward. -/
import Derived.Test.YtdnmpndnpfklcaaXo
import Derived.Deep.LoopGhost
namespace Go.Proofs.Ytdnmpndnpfklcaa
open Go.RowKit Go Go.Maps
theorem Blk.c5' {w:World} {b:Nat} {t:TypeId} {v0 v1 v2 v3 v4:Value} {vs:List Value} (h:Blk w b t (v0 :: v1 :: v2 :: v3 :: v4 :: vs)):w.cell? ⟨b,1,none⟩ = some v1∧w.cell? ⟨b,3,none⟩ = some v3:=⟨h.cell (j:=1) rfl,h.cell (j:=3) rfl⟩
theorem dsU_I {N:List Bool}:∀ (l:List Int) (s:DS),dsU 0 s → dsU 0 (dsI N l s)
 | [],_,h=>h
 | m :: l,s,h=>by
  show dsU 0 (dsI N l (dsM N s m))
  refine dsU_I l _ ?_
  unfold dsM
  split
  ·exact h.set (Int.le_refl _) _
  ·exact h
theorem drop_at {l:List Int} {i m:Nat} (h:(l.drop i).length = m + 1):∃ s,l.drop i = s :: l.drop (i + 1)∧l[i]? = some s:=by
 rw [List.length_drop] at h
 have hi:i < l.length:=by omega
 exact ⟨l[i],List.drop_eq_getElem_cons hi,List.getElem?_eq_getElem hi⟩
set_option maxRecDepth 100000 in
set_option maxHeartbeats 6400000 in
theorem reach_backward (x:AV) (ba n:Nat) (T:Option Addr) (ct nt:Nat) (tl:List Int) (w:World) (hG:GrR w w.heap.size x ba n) (htl:tl.length = nt) (hT:RdI w w.heap.size T tl) (hti:Inc tl) (htr:∀ s ∈ tl,0 ≤ s∧s < (n:Int)) :
  Calls Try.prog 57 #[.agg (grc x ba n).toArray,.slice T nt ct] w (RetDis (dsS x.a.ed (List.replicate n true) tl).1 n w):=by
 obtain ⟨A,na,ca,M,nm,cm,E,ne,ce,a⟩:=x
 have hn:a.st = (n:Int):=hG.st
 unfold grc
 dsimp only
 rw [hn]
 have hb1:=box_below w (.cells #[.slice A na ca,.int .i64 (n:Int),.slice M nm cm,.slice E ne ce,.slice (some ⟨ba,0,none⟩) (n + 1) (n + 1)] 105)
 obtain ⟨w1,hw9⟩:∃ w1,w1 = w.alloc (.cells #[.slice A na ca,.int .i64 (n:Int),.slice M nm cm,.slice E ne ce,.slice (some ⟨ba,0,none⟩) (n + 1) (n + 1)] 105):=⟨_,rfl⟩
 have kx:Blk w1 w.heap.size 105 [.slice A na ca,.int .i64 (n:Int),.slice M nm cm,.slice E ne ce,.slice (some ⟨ba,0,none⟩) (n + 1) (n + 1)]:=by rw [hw9];exact Blk.new _ _ [_,_,_,_,_]
 rw [← hw9] at hb1
 have HG0:=Lib.hid (fun (W:World) (hb:Below w1.heap.size w1 W)=>Blk.c5' (kx.below hb kx.lt))
 have HRE:=Lib.hid (fun (W:World) (hb:Below w1.heap.size w1 W)=>((AutR.more (AutR.below hG.ok (hb1.trans (hb.mono hb1.size))) (hb1.trans (hb.mono hb1.size)).size)).re)
 have HRT:=Lib.hid (fun (W:World) (hb:Below w1.heap.size w1 W)=>(hT.below (hb1.trans (hb.mono hb1.size))).more (hb1.trans (hb.mono hb1.size)).size)
 have HLE:=Lib.hid (show a.ed.length = ne from hG.ok.le)
 have hw:WF a:=hG.wf
 have HER:=Lib.hid (show ∀ x ∈ a.ed,(0 ≤ x.f∧x.f < (n:Int))∧(0 ≤ x.t∧x.t < (n:Int)) from fun x hx=>by have:=hw.ev_rng hx;omega)
 have HBL:=Lib.hid (fun (W:World) (hb:Below w1.heap.size w1 W)=>hb1.trans (hb.mono hb1.size))
 have HTR:=Lib.hid htr
 have HTL:=Lib.hid htl
 have HDS:=Lib.hid (DsI.start (es:=a.ed) (N:=List.replicate n true) (n:=n) htr (hti.imp (fun h=>by omega)))
 have hst1:=hw.st1
 have hel:ne ≤ 1000000:=by have h1:=hw.ed_le;have h2:=HLE.out;omega
 rw [hn] at hst1
 have hn4:n ≤ 4096:=by omega
 have hnt:nt ≤ 4096:=by
  have:=inc_len (n:=n) hti htr
  omega
 have HP0:=Lib.hid (PrM.start w1 n)
 have hm:∀ W:World,(Instr.makeSlice 29 (.int .i64 (n:Int)) (.int .i64 (n:Int))).run Try.prog W = .ok (.slice (some ⟨W.heap.size,0,none⟩) n n) (W.alloc (.cells (madeCells #[.int .i64 0] n) 3)):=fun W=>run_make_row' 29 3 (.int .i64 0) 8 Try.underlying29 int_info rfl .i64 .i64 n (by omega) (by omega) W
 have hm2:∀ W:World,(Instr.makeSlice 138 (.int .i64 (n:Int)) (.int .i64 (n:Int))).run Try.prog W = .ok (.slice (some ⟨W.heap.size,0,none⟩) n n) (W.alloc (.cells (madeCells #[.slice none 0 0] n) 29)):=fun W=>run_make_row' 138 29 (.slice none 0 0) 24 Try.underlying138 isl_info rfl .i64 .i64 n (by omega) (by omega) W
 obtain ⟨a1,a3⟩:=HG0.out w1 (Below.refl _ _)
 have HW9:=Lib.hid hw9;clear hw9
 have HKX:=Lib.hid (show w.heap.size < w1.heap.size from kx.lt)
 clear hw hn kx hb1 hG hT hti htr htl
 go_enter Try.func57,Try.ntmps57
 go_upto_region 1 with fail
 rw [← HW9.out]
 go_upto_region 2 with fail
 clear a1 a3 hm2
 obtain ⟨_,a3⟩:=HG0.out _ HP0.out.bel
 obtain ⟨tb,htb⟩:∃ b,w1.heap.size = b:=⟨_,rfl⟩
 have HTB:=Lib.hid htb
 rw [htb] at HP0 ⊢
 generalize w1.alloc (.cells (madeCells #[.slice none 0 0] n) 29) = w2 at HP0 a3 ⊢
 clear htb
 have HP1:=Lib.hid (show PrM tb w1 w2 tb n (a.ed.take 0) (fun _=>none) from HP0.out)
 clear HP0
 go_wp2
 clear a3
 go_loopw [7,24] (fun s7 s24 wr=>∃ (k:Nat) (v7:Value) (g:Int → Option Hd),s7 = v7∧s24 = .int .i64 k∧k ≤ ne∧Hid (PrM tb w1 wr tb n (a.ed.take k) g)) (fun _ s24 _=>ne - (intOf s24).toNat)
 case atStart=>exact ⟨0,_,_,rfl,rfl,Nat.zero_le _,HP1⟩
 case round =>
  clear HP1
  obtain ⟨k,v7,g,rfl,rfl,hk,HI⟩:=hrel
  by_cases hlt:k < ne
  case pos =>
   have hbel:Below w1.heap.size w1 wr:=by rw [HTB.out];exact HI.out.bel
   obtain ⟨ad,x,rfl,hab,hx,g0,g1,g2⟩:=(HRE.out wr hbel).at_ (k:=k) (by rw [HLE.out];exact hlt)
   have r1:wr.cell? ⟨(ad.add (k * 3)).block,(ad.add (k * 3)).off + 1,none⟩ = some (.int .i64 x.e):=st_cells (j:=0) g1
   have r2:wr.cell? ⟨(ad.add (k * 3)).block,(ad.add (k * 3)).off + 2,none⟩ = some (.int .i64 x.t):=st_cells (j:=1) g2
   have b1:(k:Int) < (ne:Int):=by omega
   obtain ⟨⟨f0,f1⟩,t0,t1⟩:=HER.out x (List.mem_of_getElem? hx)
   have HTK:=Lib.hid (take_snoc' hx)
   have hbx:=box_below wr (.cells #[.int .i64 x.f,.int .i64 x.e,.int .i64 x.t] 67)
   have ke:Blk (wr.alloc (.cells #[.int .i64 x.f,.int .i64 x.e,.int .i64 x.t] 67)) wr.heap.size 67 [.int .i64 x.f,.int .i64 x.e,.int .i64 x.t]:=Blk.new _ _ [_,_,_]
   have HI5:=Lib.hid (HI.out.quiet hbx)
   have HLO:=Lib.hid (show tb ≠ wr.heap.size by have:=HI.out.tab.lt;omega)
   have HNB:=Lib.hid (fun (gq:Nat) (e:(hvl (g x.t)).ownBlock = some gq)=>((HI.out.row x.t).lt gq e).2)
   have hpl:(preL (a.ed.take k) x.t).length ≤ 1000000:=Nat.le_trans (List.length_filter_le _ _) (by rw [List.length_take];omega)
   clear hx hab hbx HI hbel
   go_upto_region 5 with fail
   clear g0 g1 g2 r1 r2
   generalize wr.heap.size = bx at ke HLO HNB ⊢
   generalize wr.alloc (.cells #[.int .i64 x.f,.int .i64 x.e,.int .i64 x.t] 67) = w5 at ke HI5 ⊢
   refine wp_region_U (fun W=>W.cell? ⟨bx,0,none⟩ = some (.int .i64 x.f)∧W.cell? ⟨bx,1,none⟩ = some (.int .i64 x.e)∧W.cell? ⟨bx,2,none⟩ = some (.int .i64 x.t)) (fun W=>W.cell? ⟨tb,x.t.toNat,none⟩ = some (hvl (g x.t))) 13 (by kernel_rfl) ?_
   change anyU _ _ _ _ _ _ _ 14 _ _ _
   have HI6:=Lib.hid (HI5.out.quiet (below_dr w5))
   have k6:=ke.below (below_dr w5) ke.lt
   clear ke HI5
   generalize w5.drew = wd at HI6 k6 ⊢
   have hA0:wd.cell? ⟨bx,0,none⟩ = some (.int .i64 x.f)∧wd.cell? ⟨bx,1,none⟩ = some (.int .i64 x.e)∧wd.cell? ⟨bx,2,none⟩ = some (.int .i64 x.t):=⟨k6.cell (j:=0) rfl,k6.cell (j:=1) rfl,k6.cell (j:=2) rfl⟩
   have hB0:=HI6.out.cell t0 t1
   have t2:¬ x.t < 0:=by omega
   (refine uA 0 ?_ rfl hA0 hB0 (fun W hA=>?_) ?_;rotate_left;(· (go_simp;try with_reducible rfl));refine uA 1 ?_ rfl hA0 hB0 (fun W hA=>?_) ?_;rotate_left;(· (go_simp;try with_reducible rfl));(try simp only [Act.put,List.setIfInBounds_toArray,List.set_cons_zero,List.set_cons_succ]))
   (refine uA 2 ?_ rfl hA0 hB0 (fun W hA=>?_) ?_;rotate_left;(· (obtain ⟨a0,a1,a2⟩:=hA;go_simp;try with_reducible rfl));(try simp only [Act.put,List.setIfInBounds_toArray,List.set_cons_zero,List.set_cons_succ]))
   (refine uA 3 ?_ rfl hA0 hB0 (fun W hA=>?_) ?_;rotate_left;(· (go_simp;try with_reducible rfl));refine uA 4 ?_ rfl hA0 hB0 (fun W hA=>?_) ?_;rotate_left;(· (go_simp;try with_reducible rfl));(try simp only [Act.put,List.setIfInBounds_toArray,List.set_cons_zero,List.set_cons_succ]))
   (refine uA 5 ?_ rfl hA0 hB0 (fun W hA=>?_) ?_;rotate_left;(· (obtain ⟨a0,a1,a2⟩:=hA;go_simp;try with_reducible rfl));(try simp only [Act.put,List.setIfInBounds_toArray,List.set_cons_zero,List.set_cons_succ]))
   (refine uA 6 ?_ rfl hA0 hB0 (fun W hA=>?_) ?_;rotate_left;(· (go_simp;try with_reducible rfl));(try simp only [Act.put,List.setIfInBounds_toArray,List.set_cons_zero,List.set_cons_succ]))
   (refine uB 7 ?_ rfl hA0 hB0 (fun W hA hB=>?_) ?_;rotate_left;(· (go_simp;try with_reducible rfl));(try simp only [Act.put,List.setIfInBounds_toArray,List.set_cons_zero,List.set_cons_succ]))
   (refine uA 8 ?_ rfl hA0 hB0 (fun W hA=>?_) ?_;rotate_left;(· (go_simp;try with_reducible rfl));(try simp only [Act.put,List.setIfInBounds_toArray,List.set_cons_zero,List.set_cons_succ]))
   (refine uA 9 ?_ rfl hA0 hB0 (fun W hA=>?_) ?_;rotate_left;(· (obtain ⟨a0,a1,a2⟩:=hA;go_simp;try with_reducible rfl));(try simp only [Act.put,List.setIfInBounds_toArray,List.set_cons_zero,List.set_cons_succ]))
   refine uOne (i:=10) rfl (by kernel_rfl) (fun K hK=>?_)
   go_simp
   have hbx7:=box_below wd (.cells #[.int .i64 x.f] 3)
   have HI7:=Lib.hid (HI6.out.quiet hbx7)
   have k7:=k6.below hbx7 k6.lt
   have kn:Blk (wd.alloc (.cells #[.int .i64 x.f] 3)) wd.heap.size 3 [.int .i64 x.f]:=Blk.new _ _ [_]
   clear hbx7 k6 HI6 hA0 hB0
   generalize wd.heap.size = qb at kn ⊢
   generalize wd.alloc (.cells #[.int .i64 x.f] 3) = w7 at HI7 k7 kn ⊢
   have hA0:w7.cell? ⟨bx,0,none⟩ = some (.int .i64 x.f)∧w7.cell? ⟨bx,1,none⟩ = some (.int .i64 x.e)∧w7.cell? ⟨bx,2,none⟩ = some (.int .i64 x.t):=⟨k7.cell (j:=0) rfl,k7.cell (j:=1) rfl,k7.cell (j:=2) rfl⟩
   have hB0:=HI7.out.cell t0 t1
   (refine hK _ _ ⟨hA0,fun _=>hB0⟩ ?_;clear hK K;(try simp only [Act.put,List.setIfInBounds_toArray,List.set_cons_zero,List.set_cons_succ]))
   refine uOne (i:=11) rfl (by kernel_rfl) (fun K hK=>?_)
   obtain ⟨i0,hi0,hz0,hz1,hz2⟩:=info_parts int_info
   refine step_append_lies w7 rfl (.tmp 35) (.tmp 38) 29 rfl tb 3 i0 (.int .i64 0) 1 8 Try.underlying29 hi0 hz0 hz1 hz2 rfl (by decide) (hvl (g x.t)) _ _ rfl (HI7.out.row x.t) ⟨qb,0,none⟩ 1 1 [.int .i64 x.f] rfl rfl (fun j u hu=>by rw [add_lit0];exact kn.cell hu) (fun u hu=>by simp at hu;rcases hu with rfl;rfl) (by decide) (by unfold maxLen;omega) (by omega) HI7.out.siz _ rfl ?_
   intro gb c8 w8 ho8 hg8 hgb8 _
   have k8:=k7.kept hg8 (fun e=>absurd (HNB.out bx e.symm) (Nat.lt_irrefl _))
   obtain ⟨p1,p2⟩:=HI7.out.step t0 t1 ho8 hg8 (hgb8.imp id (fun e=>by omega))
   rw [← HTK.out] at p1
   have k9:=k8.kept (grown_setCell w8 tb x.t.toNat (.slice (some ⟨gb,0,none⟩) ((preL (a.ed.take k) x.t).length + 1) c8)) (fun e=>HLO.out (by injection e with e;exact e.symm))
   have HI9:=Lib.hid p1
   clear hA0 hB0
   have hA0:w8.cell? ⟨bx,0,none⟩ = some (.int .i64 x.f)∧w8.cell? ⟨bx,1,none⟩ = some (.int .i64 x.e)∧w8.cell? ⟨bx,2,none⟩ = some (.int .i64 x.t):=⟨k8.cell (j:=0) rfl,k8.cell (j:=1) rfl,k8.cell (j:=2) rfl⟩
   have hA9:=And.intro (k9.cell (j:=0) rfl) (And.intro (k9.cell (j:=1) rfl) (k9.cell (j:=2) rfl))
   have hB0:w8.cell? ⟨tb,x.t.toNat,none⟩ = some (hvl (g x.t)):=p2.cell (by
    rw [List.getElem?_map,List.getElem?_range (by omega)]
    show some (hvl (g ((x.t.toNat:Nat):Int))) = _
    rw [show ((x.t.toNat:Nat):Int) = x.t by omega])
   have g2:w8.frozen? ⟨tb,x.t.toNat,none⟩ = false:=p2.free _
   have g3:tb < w8.heap.size:=p2.lt
   clear ho8 hg8 hgb8 k7 kn HI7 p1 p2 k8 k9
   (refine hK _ _ ⟨hA0,fun _=>hB0⟩ ?_;clear hK K;(try simp only [Act.put,List.setIfInBounds_toArray,List.set_cons_zero,List.set_cons_succ]))
   refine uOne (i:=12) rfl (by kernel_rfl) (fun K hK=>?_)
   go_simp
   (refine hK _ _ ⟨hA0,fun _=>hB0⟩ ?_;clear hK K;(try simp only [Act.put,List.setIfInBounds_toArray,List.set_cons_zero,List.set_cons_succ]))
   refine uOne (i:=13) rfl (by kernel_rfl) (fun K hK=>?_)
   go_simp
   (refine hK _ _ ⟨hA9,fun h=>absurd (h.symm.trans (by kernel_rfl:_ = true)) Bool.false_ne_true⟩ ?_;clear hK K;(try simp only [Act.put,List.setIfInBounds_toArray,List.set_cons_zero,List.set_cons_succ]))
   refine anyU_done (by kernel_rfl) ?_ _
   clear hA0 hA9 hB0 g2 g3
   generalize w8.setCell ⟨tb,x.t.toNat,none⟩ (.slice (some ⟨gb,0,none⟩) ((preL (a.ed.take k) x.t).length + 1) c8) = w9 at HI9 ⊢
   go_wp2
   go_roundw
   case rel=>exact ⟨k + 1,_,_,rfl,by go_num,by omega,HI9⟩
   case measure=>simp [intOf];omega
  obtain rfl:k = ne:=by omega
  have b1:¬ (k:Int) < (k:Int):=by omega
  rw [List.take_of_length_le (by rw [HLE.out];exact Nat.le_refl _)] at HI
  have hbel:Below w1.heap.size w1 wr:=by rw [HTB.out];exact HI.out.bel
  have HB9:=Lib.hid hbel
  obtain ⟨a1,_⟩:=HG0.out wr hbel
  clear hbel
  go_upto_region 8 with fail
  clear a1 hm b1
  rename World=>w9
  have HO0:=Lib.hid (show Blk (w9.alloc (.cells (madeCells #[.int .i64 0] n) 3)) w9.heap.size 3 (iv (d1L n 0)) from by
   rw [show madeCells #[.int .i64 0] n = (iv (d1L n 0)).toArray from by
    apply Array.ext'
    rw [toList_madeCells_one]
    simp [d1L,iv]]
   exact Blk.new _ _ _)
  have HOB0:=Lib.hid (box_below w9 (.cells (madeCells #[.int .i64 0] n) 3))
  go_wp2
  go_loopw [9,48] (fun s9 s48 wr=>∃ (j:Nat) (v9:Value),s9 = v9∧s48 = .int .i64 j∧j ≤ n∧Hid (Blk wr w9.heap.size 3 (iv (d1L n j)))∧Hid (Below w9.heap.size w9 wr)) (fun _ s48 _=>n - (intOf s48).toNat)
  case atStart=>exact ⟨0,_,rfl,rfl,Nat.zero_le _,HO0,HOB0⟩
  case round =>
   clear HO0 HOB0
   obtain ⟨j,v9,rfl,rfl,hj,HO,HOB⟩:=hrel
   by_cases hlt:j < n
   case pos =>
    have b1:(j:Int) < (n:Int):=by omega
    have g2:wr.frozen? ⟨w9.heap.size,j,none⟩ = false:=HO.out.free _
    have g3:w9.heap.size < wr.heap.size:=HO.out.lt
    obtain ⟨u,hu⟩:∃ u,(iv (d1L n j))[j]? = some u:=⟨_,List.getElem?_eq_getElem (by rw [iv_length,d1L_len hj];exact hlt)⟩
    have g1:wr.cell? ⟨w9.heap.size,j,none⟩ = some u:=HO.out.cell hu
    have HO2:=Lib.hid (show Blk (wr.setCell ⟨w9.heap.size,j,none⟩ (.int .i64 (-1))) w9.heap.size 3 (iv (d1L n (j + 1))) from by
     rw [← d1L_set hlt,← iv_set]
     exact HO.out.set (by rw [iv_length,d1L_len hj];exact hlt) _)
    have HB2:=Lib.hid (HOB.out.setCell (p:=⟨w9.heap.size,j,none⟩) (Nat.le_refl _) (.int .i64 (-1)))
    clear hu
    go_wp2
    go_roundw
    case rel=>exact ⟨j + 1,_,rfl,by go_num,by omega,HO2,HB2⟩
    case measure=>simp [intOf];omega
   obtain ⟨jn,hjn⟩:∃ q,q = n:=⟨_,rfl⟩
   obtain rfl:j = n:=by omega
   have b1:¬ (j:Int) < (j:Int):=by omega
   have hd0:d1L j j = List.replicate j (-1):=by unfold d1L;simp
   rw [hd0] at HO
   clear hd0 hjn hlt
   go_wp2_with fail
   refine (slices_Clone_n T ct nt tl wr HTL.out (HRT.out wr (HB9.out.trans (HOB.out.mono HB9.out.size))) (by omega)).mono ?_
   rintro _ w10 ⟨v,rfl,ho,hb10⟩
   have HD0:=Lib.hid (show DisB w9 w10 v 0 nt ((dsI (List.replicate j true) (tl.take 0) (List.replicate j (-1),[])).1,tl) from
    ⟨HOB.out.trans (hb10.mono HOB.out.size),HO.out.below hb10 HO.out.lt,by
     have h9:=QRow.of_own (own_base ho (show w9.heap.size + 1 ≤ wr.heap.size from HO.out.lt))
     rw [HTL.out] at h9
     exact h9⟩)
   clear ho hb10 HO HOB
   obtain ⟨VA,vc,hva⟩:=HD0.out.row.shape
   subst hva
   go_wp2
   go_loopw [12,59] (fun s12 s59 wr=>∃ (k:Nat) (v12:Value),s12 = v12∧s59 = .int .i64 k∧k ≤ nt∧Hid (DisB w9 wr (.slice VA nt vc) 0 nt ((dsI (List.replicate j true) (tl.take k) (List.replicate j (-1),[])).1,tl))) (fun _ s59 _=>nt - (intOf s59).toNat)
   case atStart=>exact ⟨0,_,rfl,rfl,Nat.zero_le _,HD0⟩
   case round =>
    clear HD0
    obtain ⟨k,v12,rfl,rfl,hk,HD⟩:=hrel
    by_cases hlt:k < nt
    case pos =>
     have b2:(k:Int) < (nt:Int):=by omega
     obtain ⟨ad,s,rfl,hab,hs,hcs⟩:=(HRT.out wr (HB9.out.trans (HD.out.bel.mono HB9.out.size))).at_ (k:=k) (by rw [HTL.out];exact hlt)
     obtain ⟨s0,s1⟩:=HTR.out s (List.mem_of_getElem? hs)
     have hle:(dsI (List.replicate j true) (tl.take k) (List.replicate j (-1),[])).1.length = j:=by rw [dsI_len1];exact List.length_replicate ..
     have t1:¬ s < 0:=by omega
     have g2:wr.frozen? ⟨w9.heap.size,s.toNat,none⟩ = false:=HD.out.out.free _
     have g3:w9.heap.size < wr.heap.size:=HD.out.out.lt
     have g4:=HD.out.cell s0 (show s.toNat < _ by rw [hle];omega) rfl
     obtain ⟨gv,hgv⟩:∃ q,gI (dsI (List.replicate j true) (tl.take k) (List.replicate j (-1),[])).1 s = q:=⟨_,rfl⟩
     rw [hgv] at g4
     have HD2:=Lib.hid (show DisB w9 (wr.setCell ⟨w9.heap.size,s.toNat,none⟩ (.int .i64 0)) (.slice VA nt vc) 0 nt ((dsI (List.replicate j true) (tl.take (k + 1)) (List.replicate j (-1),[])).1,tl) from by
      have h9:=HD.out.set (j:=s.toNat) (show s.toNat < _ by rw [hle];omega) 0
      rw [dsI_snoc hs,dsM_all s0 s1]
      exact h9)
     clear hs hab hle hgv
     go_wp2
     go_roundw
     case rel=>exact ⟨k + 1,_,rfl,by go_num,by omega,HD2⟩
     case measure=>simp [intOf];omega
    obtain ⟨kn,hkn⟩:∃ q,q = nt:=⟨_,rfl⟩
    obtain rfl:k = nt:=by omega
    have b2:¬ (k:Int) < (k:Int):=by omega
    rw [List.take_of_length_le (by rw [HTL.out];exact Nat.le_refl _)] at HD
    clear hkn hlt
    have hS2:(dsI (List.replicate j true) tl (List.replicate j (-1),[])).2 = tl:=by rw [dsI_all2 tl _ HTR.out];rfl
    have HU0:=Lib.hid (show dsU 0 (dsI (List.replicate j true) tl (List.replicate j (-1),[])) from dsU_I tl _ (fun v hv=>by rw [List.eq_of_mem_replicate hv];decide))
    have HRES0:=Lib.hid (show (dsS a.ed (List.replicate j true) tl).1 = (dsG a.ed (List.replicate j true) (j + 1 - 0) 0 (dsI (List.replicate j true) tl (List.replicate j (-1),[]))).1 from by unfold dsS;rw [List.length_replicate];rfl)
    have HDX:=Lib.hid (show DisB w9 wr (.slice VA k vc) 0 k (dsI (List.replicate j true) tl (List.replicate j (-1),[])) from by
     have h9:=HD.out
     generalize dsI (List.replicate j true) tl (List.replicate j (-1),[]) = Z at h9 hS2 ⊢
     obtain ⟨Z1,Z2⟩:=Z
     dsimp only at hS2 h9
     rw [hS2];exact h9)
    clear HD hS2
    obtain ⟨RES,hRES⟩:∃ r,(dsS a.ed (List.replicate j true) tl).1 = r:=⟨_,rfl⟩
    rw [hRES] at HRES0
    have HR00:=Lib.hid hRES
    clear hRES
    obtain ⟨NN,hNN⟩:∃ q,List.replicate j true = q:=⟨_,rfl⟩
    have HNT:=Lib.hid (show ∀ s:Int,0 ≤ s → s < (j:Int) → fl NN s = true from fun s h0 h1=>by rw [← hNN];exact fl_allT h0 h1)
    rw [hNN] at HU0 HRES0 HDX HDS
    generalize dsI NN tl (List.replicate j (-1),[]) = S0 at HU0 HRES0 HDX HDS
    clear hNN
    go_wp2
    go_loopg [10,13,15] (j + 1) (fun gk s10 s13 s15 wr=>∃ (i q:Nat) (v10 v13 v15:Value) (S:DS),v10 = s10∧s13 = v13∧s15 = v15∧gk = j + 1 - i∧i ≤ j∧Hid (DisB w9 wr v10 i q S)∧Hid (DsI a.ed NN tl j i S)∧Hid (dsU (i:Int) S)∧Hid (RES = (dsG a.ed NN (j + 1 - i) i S).1))
    case atStart=>exact ⟨0,k,_,_,_,S0,rfl,rfl,rfl,rfl,Nat.zero_le _,HDX,HDS,HU0,HRES0⟩
    case round =>
     clear HDX HDS HU0 HRES0
     obtain ⟨i,q,v10,v13,v15,S,rfl,rfl,rfl,rfl,hi,HD,HDI,HU,HRES⟩:=hrel
     obtain ⟨QA,qc,rfl⟩:=HD.out.row.shape
     rcases Nat.eq_zero_or_pos q with hq0 | hq0
     ·subst hq0
      have b3:¬ (((0:Nat):Int) > 0):=by omega
      have HRF:=Lib.hid (show RES = S.1 from by
       have h9:=HD.out.row.1
       rw [List.length_drop] at h9
       rw [HRES.out,dsG_no (by omega)])
      go_wp2
      go_ret
      refine ⟨w9.heap.size,rfl,?_,?_,HBL.out _ (HB9.out.trans (HD.out.bel.mono HB9.out.size))⟩
      ·rw [HR00.out,HRF.out];exact HD.out.out
      ·have h1:=HB9.out.size;have h2:=HKX.out;omega
     obtain ⟨m,rfl⟩:∃ m,q = m + 1:=⟨q - 1,by omega⟩
     obtain ⟨s,hdr,hs⟩:=drop_at HD.out.row.1
     have hrow:=HD.out.row
     rw [hdr] at hrow
     obtain ⟨gq,qq,cap,hqv,hgb,hgl,hcap,hcm,hcell⟩:=hrow.head
     injection hqv with e1 e2 e3
     subst e1 e3
     have hcap2:qc ≤ 9223372036854775807:=by unfold maxLen at hcm;omega
     have b3:((m + 1:Nat):Int) > 0:=by omega
     have b4:(0:Int) < ((m + 1:Nat):Int):=by omega
     obtain ⟨s0,s1⟩:=(HDI.out.rng s (List.mem_of_getElem? hs)).1
     have hql:=HDI.out.qlen
     have hil:i < S.2.length:=(List.getElem?_eq_some_iff.1 hs).1
     have hin:i + 1 ≤ j:=by omega
     have HTT:=Lib.hid hrow.tail
     have HSI:=Lib.hid hs
     clear hrow hdr hs e2 hgb hq0
     go_upto_region 22 with fail
     clear hcell b3 b4
     obtain ⟨qv,hqv⟩:∃ v,v = Value.slice (if qc = 1 then some ⟨gq,qq,none⟩ else some ⟨gq,qq + 1,none⟩) m (qc - 1):=⟨_,rfl⟩
     have HD2:=Lib.hid (show DisB w9 wr qv (i + 1) m S from ⟨HD.out.bel,HD.out.out,by rw [hqv];exact HTT.out⟩)
     rw [← hqv]
     clear hqv HTT hgl hcap hcm hcap2
     have HPM:=Lib.hid (fun (W:World) (hb:Below w9.heap.size w9 W)=>HI.out.quiet hb)
     obtain ⟨RA,rc,hRA,_⟩:=HI.out.rdi s
     have HRX:=Lib.hid (show ∀ W:World,Below w9.heap.size w9 W → RdI W W.heap.size RA ((preL a.ed s).map Ed.f) from fun W hb=>by
      obtain ⟨A',c',e,h⟩:=(HPM.out W hb).rdi s
      rw [hRA] at e
      injection e with e _ _
      subst e
      exact h)
     have c1:=(HPM.out wr HD2.out.bel).cell s0 s1
     rw [hRA] at c1
     obtain ⟨nl,hnl⟩:∃ nl,(preL a.ed s).length = nl:=⟨_,rfl⟩
     rw [hnl] at c1
     have HNE:=Lib.hid hnl
     have hnm:nl ≤ 1000000:=by
      have h1:=List.length_filter_le (fun x:Ed=>decide (x.t = s)) a.ed
      have h2:=HLE.out
      rw [← hnl]
      refine Nat.le_trans h1 ?_
      omega
     obtain ⟨d,hd⟩:∃ d,gI S.1 s = d:=⟨_,rfl⟩
     have hsl:s.toNat < S.1.length:=by rw [HDI.out.len];omega
     have hdi:d ≤ (i:Int):=by rw [← hd];exact HU.out.at_ s0 hsl
     have hd0:0 ≤ d:=by
      rw [← hd]
      rcases HDI.out.on s s0 s1 with h9 | h9
      ·exact h9.2
      ·exact absurd (List.mem_of_getElem? HSI.out) h9.1
     have HQ0:=Lib.hid (show DsQ a.ed NN tl j i s ((preL a.ed s).take 0) S from ⟨HDI.out,HSI.out,fun x hx=>by cases hx⟩)
     have HU1:=Lib.hid (show dsU ((i:Int) + 1) S from fun v hv=>by have:=HU.out v hv;omega)
     have HR1:=Lib.hid (show RES = (dsG a.ed NN (j + 1 - (i + 1)) (i + 1) (dsR NN d ((preL a.ed s).drop 0) S)).1 from by
      rw [HRES.out,show j + 1 - i = (j + 1 - (i + 1)) + 1 by omega,dsG_at HSI.out,hd];rfl)
     have HGD:=Lib.hid hd
     have t4:¬ s < 0:=by omega
     clear hRA hnl hd hsl HDI HU HRES HD HSI hql hil
     go_upto_region 23 with fail
     clear c1
     go_loopw [10,15,80] (fun s10 s15 s80 wr=>∃ (e q:Nat) (v10 v15:Value) (S:DS),v10 = s10∧s15 = v15∧s80 = .int .i64 e∧e ≤ nl∧Hid (DisB w9 wr v10 (i + 1) q S)∧Hid (DsQ a.ed NN tl j i s ((preL a.ed s).take e) S)∧Hid (dsU ((i:Int) + 1) S)∧Hid (gI S.1 s = d)∧Hid (RES = (dsG a.ed NN (j + 1 - (i + 1)) (i + 1) (dsR NN d ((preL a.ed s).drop e) S)).1)) (fun _ _ s80 _=>nl - (intOf s80).toNat)
     case atStart=>exact ⟨0,m,_,_,S,rfl,rfl,rfl,Nat.zero_le _,HD2,HQ0,HU1,HGD,HR1⟩
     case round =>
      clear HD2 HQ0 HU1 HGD HR1
      obtain ⟨e,q,v10,v15,S,rfl,rfl,rfl,he,HD,HQ,HU,HGD,HRES⟩:=hrel
      by_cases hle:e < nl
      case neg =>
       obtain ⟨en,hen⟩:∃ q,q = nl:=⟨_,rfl⟩
       obtain rfl:e = nl:=by omega
       have b2:¬ (e:Int) < (e:Int):=by omega
       have HD9:=Lib.hid (show DsI a.ed NN tl j (i + 1) S from by
        have h:=HQ.out
        rw [List.take_of_length_le (by rw [HNE.out];exact Nat.le_refl _)] at h
        exact h.fin)
       have HR9:=Lib.hid (show RES = (dsG a.ed NN (j + 1 - (i + 1)) (i + 1) S).1 from by
        have h:=HRES.out
        rw [List.drop_of_length_le (by rw [HNE.out];exact Nat.le_refl _)] at h
        exact h)
       have HU9:=Lib.hid (show dsU ((i + 1:Nat):Int) S from HU.out)
       clear hen hle
       go_wp2
       go_roundg (j + 1 - (i + 1))
       case rel=>exact ⟨i + 1,q,_,_,_,S,rfl,rfl,rfl,rfl,hin,HD,HD9,HU9,HR9⟩
       case measure=>omega
      have b2:(e:Int) < (nl:Int):=by omega
      obtain ⟨ad,y,hA,hab,hy,hcy⟩:=(HRX.out wr HD.out.bel).at_ (k:=e) (by rw [List.length_map,HNE.out];exact hle)
      subst hA
      obtain ⟨x,hx,rfl⟩:∃ x,(preL a.ed s)[e]? = some x∧x.f = y:=by
       rw [List.getElem?_map] at hy
       obtain ⟨x,h1,h2⟩:=Option.map_eq_some_iff.1 hy
       exact ⟨x,h1,h2⟩
      obtain ⟨hxe,hxt⟩:=preL_mem.1 (List.mem_of_getElem? hx)
      obtain ⟨f0,f1⟩:=(HER.out x hxe).1
      have hqs:=HQ.out.step HER.out hxe hxt
      rw [HGD.out,← take_snoc' hx] at hqs
      have hrs:=dsR_at (N:=NN) (d:=d) (s:=S) hx
      have HR2:=Lib.hid (show RES = (dsG a.ed NN (j + 1 - (i + 1)) (i + 1) (dsR NN d ((preL a.ed s).drop (e + 1)) (dsX NN d S x))).1 from by rw [HRES.out,hrs])
      have hsl:s.toNat < S.1.length:=by rw [HQ.out.o.len];omega
      have hfl:x.f.toNat < S.1.length:=by rw [HQ.out.o.len];omega
      have HQS:=Lib.hid hqs
      obtain ⟨v,hv⟩:∃ v,gI S.1 x.f = v:=⟨_,rfl⟩
      have HGV:=Lib.hid hv
      have e2:=HD.out.cell f0 hfl hv
      have e3:=HD.out.cell s0 hsl HGD.out
      have t1:¬ x.f < 0:=by omega
      have g2:wr.frozen? ⟨w9.heap.size,x.f.toNat,none⟩ = false:=HD.out.out.free _
      have g3:w9.heap.size < wr.heap.size:=HD.out.out.lt
      have hql:=HQ.out.o.qlen
      have hil:i < S.2.length:=(List.getElem?_eq_some_iff.1 HQ.out.at_).1
      have hqn:q ≤ j:=by have h9:=HD.out.row.1;rw [List.length_drop] at h9;omega
      clear hx hab hxe hxt hqs hrs hv hy hql
      by_cases hc:v < 0
      case neg =>
       have HX:=Lib.hid (show dsX NN d S x = S from by unfold dsX;rw [if_neg (by rw [HGV.out];exact fun h=>hc h.2)])
       have HQ9:=Lib.hid (show DsQ a.ed NN tl j i s ((preL a.ed s).take (e + 1)) S from by have:=HQS.out.1;rw [HX.out] at this;exact this)
       have HR9:=Lib.hid (show RES = (dsG a.ed NN (j + 1 - (i + 1)) (i + 1) (dsR NN d ((preL a.ed s).drop (e + 1)) S)).1 from by have:=HR2.out;rw [HX.out] at this;exact this)
       go_wp2
       go_roundw
       case rel=>exact ⟨e + 1,q,_,_,S,rfl,rfl,by go_num,by omega,HD,HQ9,HU,HGD,HR9⟩
       case measure=>simp [intOf];omega
      have HX:=Lib.hid (show dsX NN d S x = (S.1.set x.f.toNat (d + 1),S.2 ++ [x.f]) from by unfold dsX;rw [if_pos (by rw [HGV.out];exact ⟨HNT.out x.f f0 f1,hc⟩)])
      have HQ9:=Lib.hid (show DsQ a.ed NN tl j i s ((preL a.ed s).take (e + 1)) (S.1.set x.f.toNat (d + 1),S.2 ++ [x.f])∧gI (S.1.set x.f.toNat (d + 1)) s = d from by have:=HQS.out;rw [HX.out] at this;exact this)
      have HR9:=Lib.hid (show RES = (dsG a.ed NN (j + 1 - (i + 1)) (i + 1) (dsR NN d ((preL a.ed s).drop (e + 1)) (S.1.set x.f.toNat (d + 1),S.2 ++ [x.f]))).1 from by have:=HR2.out;rw [HX.out] at this;exact this)
      have HU9:=Lib.hid (HU.out.set (j:=x.f.toNat) (v:=d + 1) (by omega) (S.2 ++ [x.f]))
      have hw1:IntKind.i64.wrap (d + 1) = d + 1:=IntWalk.i64_in _ (by omega)
      have HD7:=Lib.hid (HD.out.set hfl (d + 1))
      go_upto_region 27 with fail
      clear e2 e3 g2 g3 hw1 hcy
      have hs7:=HD7.out.siz
      generalize wr.setCell ⟨w9.heap.size,x.f.toNat,none⟩ (.int .i64 (d + 1)) = w7 at HD7 hs7 ⊢
      have HBX:=Lib.hid (box_below w7 (.cells #[.int .i64 x.f] 3))
      have HD8:=Lib.hid (HD7.out.quiet HBX.out)
      have HNW:=Lib.hid (show Blk (w7.alloc (.cells #[.int .i64 x.f] 3)) w7.heap.size 3 [.int .i64 x.f] from Blk.new _ _ [_])
      have hb3:w9.heap.size + 1 ≤ (w7.alloc (.cells #[.int .i64 x.f] 3)).heap.size:=by have:=HBX.out.size;omega
      go_wp2_with (first | (at_builtin;refine wpList_push_q (w7.alloc (.cells #[.int .i64 x.f] 3)) rfl (.tmp 97) (.tmp 99) rfl (w9.heap.size + 1) _ q _ rfl HD8.out.row x.f w7.heap.size rfl HNW.out (by omega) hb3 ?_;intro v' w' ho' hg' hs') | fail)
      have HD9:=Lib.hid (HD8.out.push (x:=x.f) (by show i + 1 ≤ S.2.length;omega) ho' hg')
      go_roundw
      case rel=>exact ⟨e + 1,q + 1,_,_,_,rfl,rfl,by go_num,by omega,HD9,Lib.hid HQ9.out.1,HU9,Lib.hid HQ9.out.2,HR9⟩
      case measure=>simp [intOf];omega
end Go.Proofs.Ytdnmpndnpfklcaa

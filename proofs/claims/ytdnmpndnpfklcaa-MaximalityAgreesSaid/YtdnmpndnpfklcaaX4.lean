/- Walks of (*synthesis.problem).lost, blocked, next. -/
import Derived.Test.YtdnmpndnpfklcaaX3
import Derived.Test.YtdnmpndnpfklcaaXe
import Derived.Test.YtdnmpndnpfklcaaXg
namespace Go.Proofs.Ytdnmpndnpfklcaa
open Go.RowKit Go Go.Maps
set_option maxRecDepth 100000 in
set_option maxHeartbeats 6400000 in
theorem syn_lost (x:AV) (u:IV) (F:List Int) (pb o lb n m:Nat) (g:Int → Option Hd) (N:List Bool) (w W:World) (hx:x.ok W W.heap.size) (hu:u.ok W W.heap.size) (hw:WF x.a) (hn:x.a.st = (n:Int)) (hS:StM w x u pb o lb n W m x.a.ed g N) (rk:Int) :
  Calls Try.prog 115 #[.pointer (some ⟨pb,0,none⟩),.int .i64 rk] W (RetRl (uncL ⟨x.a,u.l,F⟩ N rk) W):=by
 have HPW:=Lib.hid (fun (V:World) (hb:Below W.heap.size W V)=>hS.quiet hb)
 have HUC:=Lib.hid (fun (e:Int) (q:Bool) (V:World) (hb:Below W.heap.size W V) (hq:hasB u.l e = q)=>slices_Contains u.A u.c u.n u.l e q V hu.la hq ((hu.ra.below hb).more hb.size) hu.ac hu.cA)
 obtain ⟨A,na,ca,M,nm,cm,E,ne,ce,a⟩:=x
 dsimp only at hw hn HPW ⊢
 have HRE:=Lib.hid (fun (V:World) (hb:Below W.heap.size W V)=>((AutR.more (AutR.below hx hb) hb.size)).re)
 have HLE:=Lib.hid hx.le
 have HER:=Lib.hid (show ∀ x ∈ a.ed,(0 ≤ x.f∧x.f < (n:Int))∧(0 ≤ x.t∧x.t < (n:Int))∧(0 ≤ x.e∧x.e < 32) from fun x hx=>by have:=hw.ev_rng hx;omega)
 have hel:ne ≤ 1000000:=by have h1:=hw.ed_le;have h2:a.ed.length = ne:=hx.le;omega
 have hNl:=hS.nl
 have c3:=hS.kp.cell (j:=3) rfl
 clear hx hw hn hu hS
 go_enter Try.func115,Try.ntmps115
 go_wp2
 clear c3
 go_loopw [5,7,8,15] (fun s5 s7 s8 s15 wr=>∃ (j nl:Nat) (v5 v7 v8:Value) (l:List Rm),v5 = s5∧s7 = v7∧s8 = v8∧s15 = .int .i64 j∧j ≤ ne∧nl ≤ j∧Hid (l.length = nl)∧Hid (wr.ownsRow W.heap.size 63 4 v5 nl (l.flatMap rmc))∧Hid ((a.ed.take j).foldl (uncX ⟨a,u.l,F⟩ N rk) [] = l)∧Hid (Below W.heap.size W wr)) (fun _ _ _ s15 _=>ne - (intOf s15).toNat)
 case atStart=>exact ⟨0,0,_,_,_,[],rfl,rfl,rfl,rfl,Nat.zero_le _,Nat.zero_le _,Lib.hid rfl,Lib.hid (World.ownsRow_nil _ _ _ _),Lib.hid rfl,Lib.hid (Below.refl _ _)⟩
 case round =>
  obtain ⟨j,nl,v5,v7,v8,l,rfl,rfl,rfl,rfl,hj,hnj,HL,HO,HF,HB⟩:=hrel
  obtain ⟨OA,oc,rfl⟩:=own_shape HO.out
  by_cases hlt:j < ne
  case neg =>
   obtain rfl:j = ne:=by omega
   have b1:¬ (j:Int) < (j:Int):=by omega
   have HF9:=Lib.hid (show uncL ⟨a,u.l,F⟩ N rk = l from by
    have:=HF.out
    rw [List.take_of_length_le (by rw [HLE.out];exact Nat.le_refl _)] at this
    exact this)
   go_wp2
   go_ret
   exact ⟨_,nl,rfl,by rw [HF9.out];exact HL.out,by rw [HF9.out];exact HO.out,HB.out⟩
  have b1:(j:Int) < (ne:Int):=by omega
  obtain ⟨ad,y,rfl,hab,hx,g0,g1,g2⟩:=(HRE.out wr HB.out).at_ (k:=j) (by rw [HLE.out];exact hlt)
  have r1:wr.cell? ⟨(ad.add (j * 3)).block,(ad.add (j * 3)).off + 1,none⟩ = some (.int .i64 y.e):=st_cells (j:=0) g1
  have r2:wr.cell? ⟨(ad.add (j * 3)).block,(ad.add (j * 3)).off + 2,none⟩ = some (.int .i64 y.t):=st_cells (j:=1) g2
  obtain ⟨xf,xt,xe⟩:=HER.out y (List.mem_of_getElem? hx)
  have HFS:=Lib.hid (show (a.ed.take (j + 1)).foldl (uncX ⟨a,u.l,F⟩ N rk) [] = uncX ⟨a,u.l,F⟩ N rk l y from by rw [take_snoc' hx,List.foldl_append,HF.out];rfl)
  have hbx:=box_below wr (.cells #[.int .i64 y.f,.int .i64 y.e,.int .i64 y.t] 67)
  have ke:Blk (wr.alloc (.cells #[.int .i64 y.f,.int .i64 y.e,.int .i64 y.t] 67)) wr.heap.size 67 [.int .i64 y.f,.int .i64 y.e,.int .i64 y.t]:=Blk.new _ _ [_,_,_]
  have HB5:=Lib.hid (HB.out.trans (hbx.mono HB.out.size))
  have HO5:=Lib.hid (own_below HO.out hbx)
  obtain ⟨q1,hq1⟩:∃ q,fl N y.f = q:=⟨_,rfl⟩
  obtain ⟨q2,hq2⟩:∃ q,fl N y.t = q:=⟨_,rfl⟩
  obtain ⟨q3,hq3⟩:∃ q,hasB u.l y.e = q:=⟨_,rfl⟩
  have HQ1:=Lib.hid hq1
  have HQ2:=Lib.hid hq2
  have HQ3:=Lib.hid hq3
  clear hab hx hbx hq1 hq2 hq3 HO HB HF
  go_upto_region 5 with fail
  clear g0 g1 g2 r1 r2
  generalize wr.heap.size = bx at ke ⊢
  generalize wr.alloc (.cells #[.int .i64 y.f,.int .i64 y.e,.int .i64 y.t] 67) = w5 at ke HB5 HO5 ⊢
  have t1:¬ y.f < 0:=by omega
  have t2:¬ y.t < 0:=by omega
  have t4:y.f < (n:Int):=xf.2
  have t5:y.t < (n:Int):=xt.2
  have HKE:=Lib.hid (fun (V:World) (hb:Below w5.heap.size w5 V)=>Blk.c3 (ke.below hb ke.lt))
  have HD1:=Lib.hid (fun (V:World) (hb:Below w5.heap.size w5 V)=>(show V.cell? ⟨lb,y.f.toNat,none⟩ = some (.bool q1) from (HPW.out V (HB5.out.trans (hb.mono HB5.out.size))).kl.cell (by rw [bvl_get,fl_get HQ1.out xf.1 (by rw [hNl];exact xf.2)];rfl)))
  have HD2:=Lib.hid (fun (V:World) (hb:Below w5.heap.size w5 V)=>(show V.cell? ⟨lb,y.t.toNat,none⟩ = some (.bool q2) from (HPW.out V (HB5.out.trans (hb.mono HB5.out.size))).kl.cell (by rw [bvl_get,fl_get HQ2.out xt.1 (by rw [hNl];exact xt.2)];rfl)))
  have HKP:=Lib.hid (fun (V:World) (hb:Below w5.heap.size w5 V)=>(HPW.out V (HB5.out.trans (hb.mono HB5.out.size))).kp)
  clear ke
  refine wp_region_U (fun V=>Below w5.heap.size w5 V) (fun _=>True) 99 (by kernel_rfl) ?_
  change anyU _ _ _ _ _ _ _ 29 _ _ _
  have hB0:True:=trivial
  have hA0:=below_dr w5
  have HO6:=Lib.hid (own_below HO5.out hA0)
  have HB6:=Lib.hid (HB5.out.trans (hA0.mono HB5.out.size))
  generalize w5.drew = w6 at hA0 HO6 HB6 ⊢
  (refine uA 0 ?_ rfl hA0 hB0 (fun W hA=>?_) ?_;rotate_left;(· (go_simp;try with_reducible rfl));refine uA 1 ?_ rfl hA0 hB0 (fun W hA=>?_) ?_;rotate_left;(· (go_simp;try with_reducible rfl));refine uA 2 ?_ rfl hA0 hB0 (fun W hA=>?_) ?_;rotate_left;(· (go_simp;try with_reducible rfl));(try simp only [Act.put,List.setIfInBounds_toArray,List.set_cons_zero,List.set_cons_succ]))
  (refine uA 3 ?_ rfl hA0 hB0 (fun W hA=>?_) ?_;rotate_left;(· (have a0:=(HKP.out W hA).cell (j:=6) rfl;go_simp;try with_reducible rfl));(try simp only [Act.put,List.setIfInBounds_toArray,List.set_cons_zero,List.set_cons_succ]))
  (refine uA 4 ?_ rfl hA0 hB0 (fun W hA=>?_) ?_;rotate_left;(· (go_simp;try with_reducible rfl));(try simp only [Act.put,List.setIfInBounds_toArray,List.set_cons_zero,List.set_cons_succ]))
  (refine uA 5 ?_ rfl hA0 hB0 (fun W hA=>?_) ?_;rotate_left;(· (obtain ⟨a0,a1,a2⟩:=HKE.out W hA;go_simp;try with_reducible rfl));(try simp only [Act.put,List.setIfInBounds_toArray,List.set_cons_zero,List.set_cons_succ]))
  (refine uA 6 ?_ rfl hA0 hB0 (fun W hA=>?_) ?_;rotate_left;(· (go_simp;try with_reducible rfl));(try simp only [Act.put,List.setIfInBounds_toArray,List.set_cons_zero,List.set_cons_succ]))
  (refine uA 7 ?_ rfl hA0 hB0 (fun W hA=>?_) ?_;rotate_left;(· (have a0:=HD1.out W hA;go_simp;try with_reducible rfl));(try simp only [Act.put,List.setIfInBounds_toArray,List.set_cons_zero,List.set_cons_succ]))
  (refine uA 8 ?_ rfl hA0 hB0 (fun W hA=>?_) ?_;rotate_left;(· (go_simp;try with_reducible rfl));refine uA 9 ?_ rfl hA0 hB0 (fun W hA=>?_) ?_;rotate_left;(· (go_simp;try with_reducible rfl));(try simp only [Act.put,List.setIfInBounds_toArray,List.set_cons_zero,List.set_cons_succ]))
  cases q1 with
  | false =>
   (refine uS 10 rfl hA0 hB0 ?_;refine uS 11 rfl hA0 hB0 ?_;refine uS 12 rfl hA0 hB0 ?_;(try simp only [Act.put,List.setIfInBounds_toArray,List.set_cons_zero,List.set_cons_succ]))
   (refine uS 13 rfl hA0 hB0 ?_;refine uS 14 rfl hA0 hB0 ?_;refine uS 15 rfl hA0 hB0 ?_;(try simp only [Act.put,List.setIfInBounds_toArray,List.set_cons_zero,List.set_cons_succ]))
   (refine uS 16 rfl hA0 hB0 ?_;refine uS 17 rfl hA0 hB0 ?_;(try simp only [Act.put,List.setIfInBounds_toArray,List.set_cons_zero,List.set_cons_succ]))
   (refine uA 18 ?_ rfl hA0 hB0 (fun W hA=>?_) ?_;rotate_left;(· (go_simp;try with_reducible rfl));refine uA 19 ?_ rfl hA0 hB0 (fun W hA=>?_) ?_;rotate_left;(· (go_simp;try with_reducible rfl));(try simp only [Act.put,List.setIfInBounds_toArray,List.set_cons_zero,List.set_cons_succ]))
   (refine uS 20 rfl hA0 hB0 ?_;refine uS 21 rfl hA0 hB0 ?_;refine uS 22 rfl hA0 hB0 ?_;(try simp only [Act.put,List.setIfInBounds_toArray,List.set_cons_zero,List.set_cons_succ]))
   (refine uS 23 rfl hA0 hB0 ?_;refine uS 24 rfl hA0 hB0 ?_;refine uS 25 rfl hA0 hB0 ?_;(try simp only [Act.put,List.setIfInBounds_toArray,List.set_cons_zero,List.set_cons_succ]))
   (refine uS 26 rfl hA0 hB0 ?_;refine uS 27 rfl hA0 hB0 ?_;(try simp only [Act.put,List.setIfInBounds_toArray,List.set_cons_zero,List.set_cons_succ]))
   (refine uA 28 ?_ rfl hA0 hB0 (fun W hA=>?_) ?_;rotate_left;(· (go_simp;try with_reducible rfl));(try simp only [Act.put,List.setIfInBounds_toArray,List.set_cons_zero,List.set_cons_succ]))
   refine anyU_done (by kernel_rfl) ?_ _
   have HF9:=Lib.hid (show (a.ed.take (j + 1)).foldl (uncX ⟨a,u.l,F⟩ N rk) [] = l from by rw [HFS.out];exact uncX_no (.inl HQ1.out))
   clear hA0 hB0 HKE HD1 HD2 HKP
   go_wp2
   go_roundw
   case rel=>exact ⟨j + 1,nl,_,_,_,l,rfl,rfl,rfl,by go_num,by omega,by omega,HL,HO6,HF9,HB6⟩
   case measure=>simp [intOf];omega
  | true =>
   (refine uA 10 ?_ rfl hA0 hB0 (fun W hA=>?_) ?_;rotate_left;(· (go_simp;try with_reducible rfl));refine uA 11 ?_ rfl hA0 hB0 (fun W hA=>?_) ?_;rotate_left;(· (go_simp;try with_reducible rfl));refine uA 12 ?_ rfl hA0 hB0 (fun W hA=>?_) ?_;rotate_left;(· (go_simp;try with_reducible rfl));(try simp only [Act.put,List.setIfInBounds_toArray,List.set_cons_zero,List.set_cons_succ]))
   (refine uA 13 ?_ rfl hA0 hB0 (fun W hA=>?_) ?_;rotate_left;(· (have a0:=(HKP.out W hA).cell (j:=6) rfl;go_simp;try with_reducible rfl));(try simp only [Act.put,List.setIfInBounds_toArray,List.set_cons_zero,List.set_cons_succ]))
   (refine uA 14 ?_ rfl hA0 hB0 (fun W hA=>?_) ?_;rotate_left;(· (go_simp;try with_reducible rfl));(try simp only [Act.put,List.setIfInBounds_toArray,List.set_cons_zero,List.set_cons_succ]))
   (refine uA 15 ?_ rfl hA0 hB0 (fun W hA=>?_) ?_;rotate_left;(· (obtain ⟨a0,a1,a2⟩:=HKE.out W hA;go_simp;try with_reducible rfl));(try simp only [Act.put,List.setIfInBounds_toArray,List.set_cons_zero,List.set_cons_succ]))
   (refine uA 16 ?_ rfl hA0 hB0 (fun W hA=>?_) ?_;rotate_left;(· (go_simp;try with_reducible rfl));(try simp only [Act.put,List.setIfInBounds_toArray,List.set_cons_zero,List.set_cons_succ]))
   (refine uA 17 ?_ rfl hA0 hB0 (fun W hA=>?_) ?_;rotate_left;(· (have a0:=HD2.out W hA;go_simp;try with_reducible rfl));(try simp only [Act.put,List.setIfInBounds_toArray,List.set_cons_zero,List.set_cons_succ]))
   (refine uA 18 ?_ rfl hA0 hB0 (fun W hA=>?_) ?_;rotate_left;(· (go_simp;try with_reducible rfl));refine uA 19 ?_ rfl hA0 hB0 (fun W hA=>?_) ?_;rotate_left;(· (go_simp;try with_reducible rfl));(try simp only [Act.put,List.setIfInBounds_toArray,List.set_cons_zero,List.set_cons_succ]))
   cases q2 with
   | true =>
    (refine uS 20 rfl hA0 hB0 ?_;refine uS 21 rfl hA0 hB0 ?_;refine uS 22 rfl hA0 hB0 ?_;(try simp only [Act.put,List.setIfInBounds_toArray,List.set_cons_zero,List.set_cons_succ]))
    (refine uS 23 rfl hA0 hB0 ?_;refine uS 24 rfl hA0 hB0 ?_;refine uS 25 rfl hA0 hB0 ?_;(try simp only [Act.put,List.setIfInBounds_toArray,List.set_cons_zero,List.set_cons_succ]))
    (refine uS 26 rfl hA0 hB0 ?_;refine uS 27 rfl hA0 hB0 ?_;(try simp only [Act.put,List.setIfInBounds_toArray,List.set_cons_zero,List.set_cons_succ]))
    (refine uA 28 ?_ rfl hA0 hB0 (fun W hA=>?_) ?_;rotate_left;(· (go_simp;try with_reducible rfl));(try simp only [Act.put,List.setIfInBounds_toArray,List.set_cons_zero,List.set_cons_succ]))
    refine anyU_done (by kernel_rfl) ?_ _
    have HF9:=Lib.hid (show (a.ed.take (j + 1)).foldl (uncX ⟨a,u.l,F⟩ N rk) [] = l from by rw [HFS.out];exact uncX_no (.inr (.inl HQ2.out)))
    clear hA0 hB0 HKE HD1 HD2 HKP
    go_wp2
    go_roundw
    case rel=>exact ⟨j + 1,nl,_,_,_,l,rfl,rfl,rfl,by go_num,by omega,by omega,HL,HO6,HF9,HB6⟩
    case measure=>simp [intOf];omega
   | false =>
    (refine uA 20 ?_ rfl hA0 hB0 (fun W hA=>?_) ?_;rotate_left;(· (go_simp;try with_reducible rfl));refine uA 21 ?_ rfl hA0 hB0 (fun W hA=>?_) ?_;rotate_left;(· (go_simp;try with_reducible rfl));refine uA 22 ?_ rfl hA0 hB0 (fun W hA=>?_) ?_;rotate_left;(· (go_simp;try with_reducible rfl));(try simp only [Act.put,List.setIfInBounds_toArray,List.set_cons_zero,List.set_cons_succ]))
    (refine uA 23 ?_ rfl hA0 hB0 (fun W hA=>?_) ?_;rotate_left;(· (have a0:=(HKP.out W hA).cell (j:=4) rfl;go_simp;try with_reducible rfl));(try simp only [Act.put,List.setIfInBounds_toArray,List.set_cons_zero,List.set_cons_succ]))
    (refine uA 24 ?_ rfl hA0 hB0 (fun W hA=>?_) ?_;rotate_left;(· (go_simp;try with_reducible rfl));(try simp only [Act.put,List.setIfInBounds_toArray,List.set_cons_zero,List.set_cons_succ]))
    (refine uA 25 ?_ rfl hA0 hB0 (fun W hA=>?_) ?_;rotate_left;(· (obtain ⟨a0,a1,a2⟩:=HKE.out W hA;go_simp;try with_reducible rfl));(try simp only [Act.put,List.setIfInBounds_toArray,List.set_cons_zero,List.set_cons_succ]))
    refine uOne (i:=26) rfl (by kernel_rfl) (fun K hK=>?_)
    go_simp
    go_at_call 114
    refine (HUC.out y.e q3 w6 HB6.out HQ3.out).mono ?_
    rintro e w9 ⟨rfl,rfl⟩
    go_simp
    (refine hK _ _ ⟨hA0,fun _=>hB0⟩ ?_;clear hK K;(try simp only [Act.put,List.setIfInBounds_toArray,List.set_cons_zero,List.set_cons_succ]))
    cases q3 with
    | false =>
     (refine uA 27 ?_ rfl hA0 hB0 (fun W hA=>?_) ?_;rotate_left;(· (go_simp;try with_reducible rfl));refine uA 28 ?_ rfl hA0 hB0 (fun W hA=>?_) ?_;rotate_left;(· (go_simp;try with_reducible rfl));(try simp only [Act.put,List.setIfInBounds_toArray,List.set_cons_zero,List.set_cons_succ]))
     refine anyU_done (by kernel_rfl) ?_ _
     have HF9:=Lib.hid (show (a.ed.take (j + 1)).foldl (uncX ⟨a,u.l,F⟩ N rk) [] = l from by rw [HFS.out];exact uncX_no (.inr (.inr HQ3.out)))
     clear hA0 hB0 HKE HD1 HD2 HKP
     go_wp2
     go_roundw
     case rel=>exact ⟨j + 1,nl,_,_,_,l,rfl,rfl,rfl,by go_num,by omega,by omega,HL,HO6,HF9,HB6⟩
     case measure=>simp [intOf];omega
    | true =>
     (refine uA 27 ?_ rfl hA0 hB0 (fun W hA=>?_) ?_;rotate_left;(· (go_simp;try with_reducible rfl));refine uA 28 ?_ rfl hA0 hB0 (fun W hA=>?_) ?_;rotate_left;(· (go_simp;try with_reducible rfl));(try simp only [Act.put,List.setIfInBounds_toArray,List.set_cons_zero,List.set_cons_succ]))
     refine anyU_done (by kernel_rfl) ?_ _
     have HKF:=Lib.hid (fun (V:World) (hb:Below w6.heap.size w6 V)=>HKE.out V (hA0.trans (hb.mono hA0.size)))
     clear hA0 hB0 HKE HD1 HD2 HKP t1 t2 t4 t5 HB5 HO5
     go_upto_region 7 with fail
     rcases Nat.eq_zero_or_pos nl with hn0 | hn0
     ·have HF9:=Lib.hid (show (a.ed.take (j + 1)).foldl (uncX ⟨a,u.l,F⟩ N rk) [] = l ++ [⟨y.f,rk,2,y.e⟩] from by rw [HFS.out];exact uncX_new HQ1.out HQ2.out HQ3.out (fun q z h=>by rw [HL.out,hn0] at h;omega))
      have b2:¬ (0:Int) < (nl:Int):=by omega
      have b3:¬ 0 < nl:=by omega
      have HN0:=Lib.hid hn0;clear hn0
      refine wp_region_U (fun _=>True) (fun _=>True) 99 (by kernel_rfl) ?_
      change anyU _ _ _ _ _ _ _ 13 _ _ _
      have HB6:=Lib.hid (HB6.out.trans ((below_dr w6).mono HB6.out.size))
      have HO6:=Lib.hid (own_below HO6.out (below_dr w6))
      obtain ⟨e0,e1,_⟩:=HKF.out w6.drew (below_dr w6)
      clear HKF
      generalize w6.drew = w6 at HB6 HO6 e0 e1 ⊢
      have hA0:True:=trivial
      have hB0:True:=trivial
      (refine uA 0 ?_ rfl hA0 hB0 (fun W hA=>?_) ?_;rotate_left;(· (go_simp;try with_reducible rfl));refine uA 1 ?_ rfl hA0 hB0 (fun W hA=>?_) ?_;rotate_left;(· (go_simp;try with_reducible rfl));refine uA 2 ?_ rfl hA0 hB0 (fun W hA=>?_) ?_;rotate_left;(· (go_simp;try with_reducible rfl));(try simp only [Act.put,List.setIfInBounds_toArray,List.set_cons_zero,List.set_cons_succ]))
      (refine uS 3 rfl hA0 hB0 ?_;refine uS 4 rfl hA0 hB0 ?_;refine uS 5 rfl hA0 hB0 ?_;(try simp only [Act.put,List.setIfInBounds_toArray,List.set_cons_zero,List.set_cons_succ]))
      (refine uS 6 rfl hA0 hB0 ?_;refine uS 7 rfl hA0 hB0 ?_;refine uS 8 rfl hA0 hB0 ?_;(try simp only [Act.put,List.setIfInBounds_toArray,List.set_cons_zero,List.set_cons_succ]))
      (refine uS 9 rfl hA0 hB0 ?_;refine uS 10 rfl hA0 hB0 ?_;refine uS 11 rfl hA0 hB0 ?_;(try simp only [Act.put,List.setIfInBounds_toArray,List.set_cons_zero,List.set_cons_succ]))
      (refine uA 12 ?_ rfl hA0 hB0 (fun W hA=>?_) ?_;rotate_left;(· (go_simp;try with_reducible rfl));(try simp only [Act.put,List.setIfInBounds_toArray,List.set_cons_zero,List.set_cons_succ]))
      refine anyU_done (by kernel_rfl) ?_ _
      clear hA0 hB0
      have hsz:=HB6.out.size
      go_wp2_with (first | (at_builtin;refine wpList_pushN w6 [.int .i64 y.f,.int .i64 rk,.int .i64 2,.int .i64 y.e] rfl (.tmp 63) (.tmp 70) 36 rfl W.heap.size 63 (.agg #[.int .i64 0,.int .i64 0,.int .i64 0,.int .i64 0]) 4 32 Try.underlying36 rm_info rfl (by decide) rfl (.slice OA nl oc) nl _ rfl HO6.out rfl (fun u hu=>by simp at hu;rcases hu with rfl | rfl | rfl | rfl <;> rfl) (by omega) (by omega) hsz ?_;intro v' w' ho' hg' hb1) | fail)
      have HO7:=Lib.hid (show w'.ownsRow W.heap.size 63 4 v' (nl + 1) ((l ++ [(⟨y.f,rk,2,y.e⟩:Rm)]).flatMap rmc) by rw [List.flatMap_append];exact ho')
      have HB7:=Lib.hid (HB6.out.trans hb1)
      go_roundw
      case rel=>exact ⟨j + 1,nl + 1,_,_,_,_,rfl,rfl,rfl,by go_num,by omega,by omega,Lib.hid (by rw [List.length_append,HL.out];rfl),HO7,HF9,HB7⟩
      case measure=>simp [intOf];omega
     ·obtain ⟨k,hk⟩:∃ k,k + 1 = nl:=⟨nl - 1,by omega⟩
      obtain ⟨ad2,z,hA2,hab2,hy,hc2⟩:=RdR.get (RdR.of_own (f:=rmc) (by omega) (fun _ _=>rfl) HO6.out) (k:=k) (by rw [HL.out];omega)
      subst hA2
      have y0:w6.cell? (ad2.add (k * 4)) = some (.int .i64 z.s):=hc2 0 _ rfl
      have b2:(0:Int) < (nl:Int):=by omega
      have b3:(k:Int) < (nl:Int):=by omega
      have b4:¬ (k:Int) < 0:=by omega
      have hwn:IntKind.i64.wrap ((nl:Int) - 1) = (k:Int):=by rw [IntWalk.i64_in _ (by omega)];omega
      have HK:=Lib.hid hk
      have HY:=Lib.hid hy
      obtain ⟨zs,hzs⟩:∃ q,z.s = q:=⟨_,rfl⟩
      rw [hzs] at y0
      have HZS:=Lib.hid hzs
      have HY0:=Lib.hid (fun (V:World) (hb:Below w6.heap.size w6 V)=>(hb.cell (World.block_lt_of_cell? _ _ y0)).trans y0)
      clear hc2 hab2 hy hk hzs y0
      refine wp_region_U (fun V=>V.cell? (ad2.add (k * 4)) = some (.int .i64 zs)∧V.cell? ⟨bx,0,none⟩ = some (.int .i64 y.f)) (fun _=>True) 99 (by kernel_rfl) ?_
      change anyU _ _ _ _ _ _ _ 13 _ _ _
      have HB6:=Lib.hid (HB6.out.trans ((below_dr w6).mono HB6.out.size))
      have HO6:=Lib.hid (own_below HO6.out (below_dr w6))
      obtain ⟨e0,e1,_⟩:=HKF.out w6.drew (below_dr w6)
      have hA0:=And.intro (HY0.out w6.drew (below_dr w6)) e0
      clear HKF HY0
      generalize w6.drew = w6 at HB6 HO6 e0 e1 hA0 ⊢
      have hB0:True:=trivial
      (refine uA 0 ?_ rfl hA0 hB0 (fun W hA=>?_) ?_;rotate_left;(· (go_simp;try with_reducible rfl));refine uA 1 ?_ rfl hA0 hB0 (fun W hA=>?_) ?_;rotate_left;(· (go_simp;try with_reducible rfl));refine uA 2 ?_ rfl hA0 hB0 (fun W hA=>?_) ?_;rotate_left;(· (go_simp;try with_reducible rfl));(try simp only [Act.put,List.setIfInBounds_toArray,List.set_cons_zero,List.set_cons_succ]))
      (refine uA 3 ?_ rfl hA0 hB0 (fun W hA=>?_) ?_;rotate_left;(· (go_simp;try with_reducible rfl));refine uA 4 ?_ rfl hA0 hB0 (fun W hA=>?_) ?_;rotate_left;(· (go_simp;try with_reducible rfl));refine uA 5 ?_ rfl hA0 hB0 (fun W hA=>?_) ?_;rotate_left;(· (go_simp;try with_reducible rfl));(try simp only [Act.put,List.setIfInBounds_toArray,List.set_cons_zero,List.set_cons_succ]))
      (refine uA 6 ?_ rfl hA0 hB0 (fun W hA=>?_) ?_;rotate_left;(· (go_simp;try with_reducible rfl));refine uA 7 ?_ rfl hA0 hB0 (fun W hA=>?_) ?_;rotate_left;(· (go_simp;try with_reducible rfl));(try simp only [Act.put,List.setIfInBounds_toArray,List.set_cons_zero,List.set_cons_succ]))
      (refine uA 8 ?_ rfl hA0 hB0 (fun W hA=>?_) ?_;rotate_left;(· (obtain ⟨a0,a1⟩:=hA;go_simp;try with_reducible rfl));(try simp only [Act.put,List.setIfInBounds_toArray,List.set_cons_zero,List.set_cons_succ]))
      (refine uA 9 ?_ rfl hA0 hB0 (fun W hA=>?_) ?_;rotate_left;(· (go_simp;try with_reducible rfl));(try simp only [Act.put,List.setIfInBounds_toArray,List.set_cons_zero,List.set_cons_succ]))
      (refine uA 10 ?_ rfl hA0 hB0 (fun W hA=>?_) ?_;rotate_left;(· (obtain ⟨a0,a1⟩:=hA;go_simp;try with_reducible rfl));(try simp only [Act.put,List.setIfInBounds_toArray,List.set_cons_zero,List.set_cons_succ]))
      by_cases hyx:zs = y.f
      ·have b5:(zs == y.f) = true:=by simpa using hyx
       have HF9:=Lib.hid (show (a.ed.take (j + 1)).foldl (uncX ⟨a,u.l,F⟩ N rk) [] = l from by rw [HFS.out];exact uncX_old (n:=k) (by rw [HL.out,HK.out]) HY.out (by rw [HZS.out];exact hyx))
       (refine uA 11 ?_ rfl hA0 hB0 (fun W hA=>?_) ?_;rotate_left;(· (go_simp;try with_reducible rfl));refine uA 12 ?_ rfl hA0 hB0 (fun W hA=>?_) ?_;rotate_left;(· (go_simp;try with_reducible rfl));(try simp only [Act.put,List.setIfInBounds_toArray,List.set_cons_zero,List.set_cons_succ]))
       refine anyU_done (by kernel_rfl) ?_ _
       clear hA0 hB0 e0 e1 hyx
       go_wp2
       go_roundw
       case rel=>exact ⟨j + 1,nl,_,_,_,l,rfl,rfl,rfl,by go_num,by omega,by omega,HL,HO6,HF9,HB6⟩
       case measure=>simp [intOf];omega
      ·have b5:(zs == y.f) = false:=by simpa using hyx
       have HF9:=Lib.hid (show (a.ed.take (j + 1)).foldl (uncX ⟨a,u.l,F⟩ N rk) [] = l ++ [⟨y.f,rk,2,y.e⟩] from by
        rw [HFS.out]
        exact uncX_new HQ1.out HQ2.out HQ3.out (fun q z' h hz=>by
         have:q = k:=by have:=HK.out;rw [HL.out] at h;omega
         subst this
         rw [HY.out] at hz
         injection hz with hz
         rw [← hz,HZS.out]
         exact hyx))
       (refine uA 11 ?_ rfl hA0 hB0 (fun W hA=>?_) ?_;rotate_left;(· (go_simp;try with_reducible rfl));refine uA 12 ?_ rfl hA0 hB0 (fun W hA=>?_) ?_;rotate_left;(· (go_simp;try with_reducible rfl));(try simp only [Act.put,List.setIfInBounds_toArray,List.set_cons_zero,List.set_cons_succ]))
       refine anyU_done (by kernel_rfl) ?_ _
       clear hA0 hB0 hyx
       have hsz:=HB6.out.size
       go_wp2_with (first | (at_builtin;refine wpList_pushN w6 [.int .i64 y.f,.int .i64 rk,.int .i64 2,.int .i64 y.e] rfl (.tmp 63) (.tmp 70) 36 rfl W.heap.size 63 (.agg #[.int .i64 0,.int .i64 0,.int .i64 0,.int .i64 0]) 4 32 Try.underlying36 rm_info rfl (by decide) rfl (.slice (some ad2) nl oc) nl _ rfl HO6.out rfl (fun u hu=>by simp at hu;rcases hu with rfl | rfl | rfl | rfl <;> rfl) (by omega) (by omega) hsz ?_;intro v' w' ho' hg' hb1) | fail)
       have HO7:=Lib.hid (show w'.ownsRow W.heap.size 63 4 v' (nl + 1) ((l ++ [(⟨y.f,rk,2,y.e⟩:Rm)]).flatMap rmc) by rw [List.flatMap_append];exact ho')
       have HB7:=Lib.hid (HB6.out.trans hb1)
       go_roundw
       case rel=>exact ⟨j + 1,nl + 1,_,_,_,_,rfl,rfl,rfl,by go_num,by omega,by omega,Lib.hid (by rw [List.length_append,HL.out];rfl),HO7,HF9,HB7⟩
       case measure=>simp [intOf];omega
set_option maxRecDepth 100000 in
set_option maxHeartbeats 6400000 in
theorem syn_blocked (x:AV) (u:IV) (F:List Int) (pb o lb n m:Nat) (g:Int → Option Hd) (N:List Bool) (w W:World) (hx:x.ok W W.heap.size) (hw:WF x.a) (hn:x.a.st = (n:Int)) (hS:StM w x u pb o lb n W m x.a.ed g N) (rk:Int) :
  Calls Try.prog 116 #[.pointer (some ⟨pb,0,none⟩),.int .i64 rk] W (RetRl (blkL ⟨x.a,u.l,F⟩ N rk) W):=by
 have HDC:=Lib.hid (syn_distances x u pb o lb n m g N w W hx hw hn hS)
 have HPW:=Lib.hid (fun (V:World) (hb:Below W.heap.size W V)=>hS.quiet hb)
 have hn4:n ≤ 4096:=by have:=hw.st1;omega
 have hdl:=(dsS_spec (es:=x.a.ed) (N:=N) (ma:=x.a.ma) (fun y hy=>by rw [hS.nl,← hn];have:=hw.ev_rng hy;omega) (fun s hs=>by rw [hS.nl,← hn];exact hw.mrng s hs) (hw.minc.imp (fun h=>by omega))).1
 rw [hS.nl] at hdl
 have HBK:=Lib.hid (show blkL ⟨x.a,u.l,F⟩ N rk = (rngI (n:Int)).filterMap (blkR (dsS x.a.ed N x.a.ma).1 N rk) from by unfold blkL;rw [hS.nl])
 obtain ⟨RES,hRES⟩:∃ r,blkL ⟨x.a,u.l,F⟩ N rk = r:=⟨_,rfl⟩
 rw [hRES] at HBK ⊢
 obtain ⟨D,hD⟩:∃ D,(dsS x.a.ed N x.a.ma).1 = D:=⟨_,rfl⟩
 rw [hD] at HDC HBK hdl
 have hNl:=hS.nl
 clear hx hw hn hS hD hRES
 go_enter Try.func116,Try.ntmps116
 go_wp2_with fail
 refine HDC.out.mono ?_
 rintro _ w2 ⟨ob,rfl,hko,hob,hb2⟩
 have HKO:=Lib.hid hko
 have HB2:=Lib.hid hb2
 have hob9:ob < w2.heap.size:=hko.lt
 clear HDC hko hb2
 go_wp2
 go_loopw [5,6,7,11] (fun s5 s6 s7 s11 wr=>∃ (j nl:Nat) (v5 v6 v7:Value) (l:List Rm),v5 = s5∧s6 = v6∧s7 = v7∧s11 = .int .i64 j∧j ≤ n∧nl ≤ j∧Hid (l.length = nl)∧Hid (wr.ownsRow w2.heap.size 63 4 v5 nl (l.flatMap rmc))∧Hid (((rngI (n:Int)).take j).filterMap (blkR D N rk) = l)∧Hid (Below w2.heap.size w2 wr)) (fun _ _ _ s11 _=>n - (intOf s11).toNat)
 case atStart=>exact ⟨0,0,_,_,_,[],rfl,rfl,rfl,rfl,Nat.zero_le _,Nat.zero_le _,Lib.hid rfl,Lib.hid (World.ownsRow_nil _ _ _ _),Lib.hid rfl,Lib.hid (Below.refl _ _)⟩
 case round =>
  obtain ⟨j,nl,v5,v6,v7,l,rfl,rfl,rfl,rfl,hj,hnj,HL,HO,HF,HB⟩:=hrel
  obtain ⟨OA,oc,rfl⟩:=own_shape HO.out
  by_cases hlt:j < n
  case neg =>
   obtain rfl:j = n:=by omega
   have b1:¬ (j:Int) < (j:Int):=by omega
   have HF9:=Lib.hid (show RES = l from by
    have:=HF.out
    rw [List.take_of_length_le (by rw [rngI_len,Int.toNat_natCast];exact Nat.le_refl _)] at this
    rw [HBK.out]
    exact this)
   go_wp2
   go_ret
   exact ⟨_,nl,rfl,by rw [HF9.out];exact HL.out,by rw [HF9.out];exact own_base HO.out HB2.out.size,HB2.out.trans (HB.out.mono HB2.out.size)⟩
  have b1:(j:Int) < (n:Int):=by omega
  have HFS:=Lib.hid (blkL_at (D:=D) (N:=N) (rk:=rk) hlt)
  rw [HF.out] at HFS
  obtain ⟨q1,hq1⟩:∃ q,fl N (j:Int) = q:=⟨_,rfl⟩
  obtain ⟨d,hd⟩:∃ q,gI D (j:Int) = q:=⟨_,rfl⟩
  rw [hq1,hd] at HFS
  have k2:=HKO.out.below HB.out hob9
  have g0:wr.cell? ⟨ob,j,none⟩ = some (.int .i64 d):=by rw [← hd];exact k2.cell (iv_gI (by rw [hdl];exact hlt))
  have hp:=HPW.out wr (HB2.out.trans (HB.out.mono HB2.out.size))
  have g1:=hp.kp.cell (j:=6) rfl
  have hnj2:N[j]? = some q1:=by
   have h9:=fl_get hq1 (by omega) (by rw [hNl];exact b1)
   rwa [Int.toNat_natCast] at h9
  have g2:wr.cell? ⟨lb,j,none⟩ = some (.bool q1):=hp.kl.cell (by rw [bvl_get,hnj2];rfl)
  have hsz:=HB.out.size
  clear hp k2 hq1 hd HF hnj2
  cases q1 with
  | false =>
   have HF9:=Lib.hid (show ((rngI (n:Int)).take (j + 1)).filterMap (blkR D N rk) = l from by rw [HFS.out,if_neg (by simp),List.append_nil])
   go_wp2
   go_roundw
   case rel=>exact ⟨j + 1,nl,_,_,_,l,rfl,rfl,rfl,by go_num,by omega,by omega,HL,HO,HF9,HB⟩
   case measure=>simp [intOf];omega
  | true =>
   by_cases hdn:d < 0
   ·have HF9:=Lib.hid (show ((rngI (n:Int)).take (j + 1)).filterMap (blkR D N rk) = l ++ [⟨(j:Int),rk,3,-1⟩] from by rw [HFS.out,if_pos ⟨rfl,hdn⟩])
    go_wp2_with (first | (at_builtin;refine wpList_pushN wr [.int .i64 (j:Int),.int .i64 rk,.int .i64 3,.int .i64 (-1)] rfl (.tmp 27) (.tmp 31) 36 rfl w2.heap.size 63 (.agg #[.int .i64 0,.int .i64 0,.int .i64 0,.int .i64 0]) 4 32 Try.underlying36 rm_info rfl (by decide) rfl (.slice OA nl oc) nl _ rfl HO.out rfl (fun u hu=>by simp at hu;rcases hu with rfl | rfl | rfl | rfl <;> rfl) (by omega) (by omega) hsz ?_;intro v' w' ho' hg' hb1) | fail)
    have HO7:=Lib.hid (show w'.ownsRow w2.heap.size 63 4 v' (nl + 1) ((l ++ [(⟨(j:Int),rk,3,-1⟩:Rm)]).flatMap rmc) by rw [List.flatMap_append];exact ho')
    have HB7:=Lib.hid (HB.out.trans hb1)
    go_roundw
    case rel=>exact ⟨j + 1,nl + 1,_,_,_,_,rfl,rfl,rfl,by go_num,by omega,by omega,Lib.hid (by rw [List.length_append,HL.out];rfl),HO7,HF9,HB7⟩
    case measure=>simp [intOf];omega
   ·have HF9:=Lib.hid (show ((rngI (n:Int)).take (j + 1)).filterMap (blkR D N rk) = l from by rw [HFS.out,if_neg (fun h=>hdn h.2),List.append_nil])
    go_wp2
    go_roundw
    case rel=>exact ⟨j + 1,nl,_,_,_,l,rfl,rfl,rfl,by go_num,by omega,by omega,HL,HO,HF9,HB⟩
    case measure=>simp [intOf];omega
set_option maxHeartbeats 1600000 in
theorem syn_next (x:AV) (u:IV) (F:List Int) (pb o lb n m:Nat) (g:Int → Option Hd) (N:List Bool) (w W:World) (hx:x.ok W W.heap.size) (hu:u.ok W W.heap.size) (hw:WF x.a) (hn:x.a.st = (n:Int)) (hS:StM w x u pb o lb n W m x.a.ed g N) (rk:Int) :
  Calls Try.prog 93 #[.pointer (some ⟨pb,0,none⟩),.int .i64 rk,.bool true] W (RetRl (rndS ⟨x.a,u.l,F⟩ N rk) W):=by
 have hlen:(N.length:Int) = x.a.st:=by rw [hS.nl,hn]
 have HRS:=Lib.hid (show rndS ⟨x.a,u.l,F⟩ N rk = if uncL ⟨x.a,u.l,F⟩ N rk = [] then blkL ⟨x.a,u.l,F⟩ N rk else uncL ⟨x.a,u.l,F⟩ N rk from by
  unfold rndS
  rw [uncL_eq (p:=⟨x.a,u.l,F⟩) hw hlen,blkL_eq (p:=⟨x.a,u.l,F⟩) hw hlen])
 have HLC:=Lib.hid (syn_lost x u F pb o lb n m g N w W hx hu hw hn hS rk)
 have HBC:=Lib.hid (fun (V:World) (hb:Below W.heap.size W V)=>syn_blocked x u F pb o lb n m g N w V ((AutR.below hx hb).more hb.size) hw hn (hS.quiet hb) rk)
 obtain ⟨L,hL⟩:∃ l,uncL ⟨x.a,u.l,F⟩ N rk = l:=⟨_,rfl⟩
 rw [hL] at HRS HLC
 clear hlen hx hu hw hn hS hL
 go_enter Try.func93,Try.ntmps93
 go_wp2_with fail
 refine HLC.out.mono ?_
 rintro _ w2 ⟨v,nl,rfl,hl,ho,hb⟩
 obtain ⟨OA,oc,rfl⟩:=own_shape ho
 have HL:=Lib.hid hl
 have HO:=Lib.hid ho
 have HB:=Lib.hid hb
 clear hl ho hb HLC
 rcases Nat.eq_zero_or_pos nl with h0 | h0
 ·have b1:¬ (0:Int) < (nl:Int):=by omega
  have b2:¬ (nl:Int) > 0:=by omega
  have b3:¬ 0 < nl:=by omega
  have HR2:=Lib.hid (show rndS ⟨x.a,u.l,F⟩ N rk = blkL ⟨x.a,u.l,F⟩ N rk from by
   rw [HRS.out,if_pos (List.eq_nil_of_length_eq_zero (by rw [HL.out];exact h0))])
  clear h0
  go_wp2_with fail
  refine (HBC.out w2 HB.out).mono ?_
  rintro _ w3 ⟨v,nl2,rfl,hl,ho,hb⟩
  obtain ⟨OA2,oc2,rfl⟩:=own_shape ho
  have HL2:=Lib.hid hl
  have HO2:=Lib.hid ho
  have HB2:=Lib.hid hb
  clear hl ho hb
  go_wp2
  go_ret
  exact ⟨_,nl2,rfl,by rw [HR2.out];exact HL2.out,by rw [HR2.out];exact own_base HO2.out HB.out.size,HB.out.trans (HB2.out.mono HB.out.size)⟩
 ·have b1:(0:Int) < (nl:Int):=by omega
  have b2:(nl:Int) > 0:=by omega
  have b3:0 < nl:=h0
  have HR2:=Lib.hid (show rndS ⟨x.a,u.l,F⟩ N rk = L from by
   rw [HRS.out,if_neg (fun e=>by have h9:=HL.out;rw [e] at h9;simp at h9;omega)])
  clear h0
  go_wp2
  go_ret
  exact ⟨_,nl,rfl,by rw [HR2.out];exact HL.out,by rw [HR2.out];exact HO.out,HB.out⟩
end Go.Proofs.Ytdnmpndnpfklcaa

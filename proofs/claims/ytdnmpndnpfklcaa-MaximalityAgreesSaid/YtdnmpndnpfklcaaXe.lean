/- Walks: Prove's closures uncontrollable, blocked, and the comparison. -/
import Derived.Test.YtdnmpndnpfklcaaXd
namespace Go.Proofs.Ytdnmpndnpfklcaa
open Go.RowKit Go Go.Maps
def RetRl (l:List Rm) (W:World) (e:Ending) (W':World):Prop:=∃ (v:Value) (n:Nat),e = .returned v∧l.length = n∧W'.ownsRow W.heap.size 63 4 v n (l.flatMap rmc)∧Below W.heap.size W W'
theorem hardB {U:List Int} (hu:∀ s ∈ U,0 ≤ s∧s < 32) {e:Int} (h0:0 ≤ e):fl (inF 32 U) e = hasB U e:=by
 have:=inF_fl (n:=32) hu h0
 cases h:fl (inF 32 U) e
 ·cases h2:hasB U e
  ·rfl
  ·rw [this.2 (hasB_mem.1 h2)] at h;cases h
 ·exact (hasB_mem.2 (this.1 h)).symm
theorem uncX_no {p:Mx} {N:List Bool} {rk:Int} {l:List Rm} {x:Ed} (h:fl N x.f = false ∨ fl N x.t = true ∨ hasB p.u x.e = false):uncX p N rk l x = l:=by unfold uncX;rw [if_pos h]
theorem uncX_old {p:Mx} {N:List Bool} {rk:Int} {l:List Rm} {x:Ed} {n:Nat} {y:Rm} (hl:l.length = n + 1) (hy:l[n]? = some y) (he:y.s = x.f):uncX p N rk l x = l:=by
 unfold uncX
 split
 ·rfl
 ·rw [if_pos]
  rw [List.getLast?_eq_getElem?,hl,Nat.add_sub_cancel,hy]
  simp [he]
theorem uncX_new {p:Mx} {N:List Bool} {rk:Int} {l:List Rm} {x:Ed} (h1:fl N x.f = true) (h2:fl N x.t = false) (h3:hasB p.u x.e = true) (h:∀ n y,l.length = n + 1 → l[n]? = some y → y.s ≠ x.f):uncX p N rk l x = l ++ [⟨x.f,rk,2,x.e⟩]:=by
 unfold uncX
 rw [if_neg (by rw [h1,h2,h3];simp),if_neg]
 intro e
 rw [List.getLast?_eq_getElem?] at e
 cases hl:l with
 | nil=>rw [hl] at e;simp at e
 | cons a r =>
  rw [hl,List.length_cons,Nat.add_sub_cancel] at e
  cases hy:(a :: r)[r.length]? with
  | none=>rw [hy] at e;cases e
  | some y =>
   rw [hy] at e
   injection e with e
   exact h r.length y (by rw [hl];rfl) (by rw [hl];exact hy) e
set_option maxRecDepth 100000 in
set_option maxHeartbeats 3200000 in
theorem max_unc (w W:World) (x:AV) (U F:List Int) (c:PrC) (Rv:Value) (m:Nat) (N:List Bool) (R:List Rm) (h:PrW w W x U c Rv m N R) (hx:x.ok w w.heap.size) (hw:WF x.a) (hn:x.a.st = (c.n:Int)) (hu:∀ s ∈ U,0 ≤ s∧s < 32) (rk:Int) :
  Calls Try.prog 41 #[.int .i64 rk,.pointer (some ⟨c.ba,0,none⟩),.pointer (some ⟨c.bl,0,none⟩),.pointer (some ⟨c.bc,0,none⟩)] W (RetRl (uncL ⟨x.a,U,F⟩ N rk) W):=by
 have HPW:=Lib.hid (fun (V:World) (hb:Below W.heap.size W V)=>h.quiet hb)
 obtain ⟨A,na,ca,M,nm,cm,E,ne,ce,a⟩:=x
 dsimp only at hw hn HPW ⊢
 have HRE:=Lib.hid (fun (V:World) (hb:Below W.heap.size W V)=>((AutR.more (AutR.below hx (h.bel.trans (hb.mono h.bel.size))) (h.bel.trans (hb.mono h.bel.size)).size)).re)
 have HLE:=Lib.hid hx.le
 have HER:=Lib.hid (show ∀ x ∈ a.ed,(0 ≤ x.f∧x.f < (c.n:Int))∧(0 ≤ x.t∧x.t < (c.n:Int))∧(0 ≤ x.e∧x.e < 32) from fun x hx=>by have:=hw.ev_rng hx;omega)
 have hel:ne ≤ 1000000:=by have h1:=hw.ed_le;have h2:a.ed.length = ne:=hx.le;omega
 have HU:=Lib.hid hu
 have hNl:=h.nl
 have c3:W.cell? ⟨c.ba,3,none⟩ = some (.slice E ne ce):=h.ka.cell (j:=3) rfl
 clear h hx hw hn hu
 go_enter Try.func41,Try.ntmps41
 go_wp2
 clear c3
 go_loopw [6,7,8,12] (fun s6 s7 s8 s12 wr=>∃ (j n:Nat) (v6 v7 v8:Value) (l:List Rm),v6 = s6∧s7 = v7∧s8 = v8∧s12 = .int .i64 j∧j ≤ ne∧n ≤ j∧Hid (l.length = n)∧Hid (wr.ownsRow W.heap.size 63 4 v6 n (l.flatMap rmc))∧Hid ((a.ed.take j).foldl (uncX ⟨a,U,F⟩ N rk) [] = l)∧Hid (Below W.heap.size W wr)) (fun _ _ _ s12 _=>ne - (intOf s12).toNat)
 case atStart=>exact ⟨0,0,_,_,_,[],rfl,rfl,rfl,rfl,Nat.zero_le _,Nat.zero_le _,Lib.hid rfl,Lib.hid (World.ownsRow_nil _ _ _ _),Lib.hid rfl,Lib.hid (Below.refl _ _)⟩
 case round =>
  obtain ⟨j,n,v6,v7,v8,l,rfl,rfl,rfl,rfl,hj,hnj,HL,HO,HF,HB⟩:=hrel
  obtain ⟨OA,oc,rfl⟩:=own_shape HO.out
  by_cases hlt:j < ne
  case neg =>
   obtain rfl:j = ne:=by omega
   have b1:¬ (j:Int) < (j:Int):=by omega
   have HF9:=Lib.hid (show uncL ⟨a,U,F⟩ N rk = l from by
    have:=HF.out
    rw [List.take_of_length_le (by rw [HLE.out];exact Nat.le_refl _)] at this
    exact this)
   go_wp2
   go_ret
   exact ⟨_,n,rfl,by rw [HF9.out];exact HL.out,by rw [HF9.out];exact HO.out,HB.out⟩
  have b1:(j:Int) < (ne:Int):=by omega
  obtain ⟨ad,x,rfl,hab,hx,g0,g1,g2⟩:=(HRE.out wr HB.out).at_ (k:=j) (by rw [HLE.out];exact hlt)
  have r1:wr.cell? ⟨(ad.add (j * 3)).block,(ad.add (j * 3)).off + 1,none⟩ = some (.int .i64 x.e):=st_cells (j:=0) g1
  have r2:wr.cell? ⟨(ad.add (j * 3)).block,(ad.add (j * 3)).off + 2,none⟩ = some (.int .i64 x.t):=st_cells (j:=1) g2
  obtain ⟨xf,xt,xe⟩:=HER.out x (List.mem_of_getElem? hx)
  have HFS:=Lib.hid (show (a.ed.take (j + 1)).foldl (uncX ⟨a,U,F⟩ N rk) [] = uncX ⟨a,U,F⟩ N rk l x from by rw [take_snoc' hx,List.foldl_append,HF.out];rfl)
  have hbx:=box_below wr (.cells #[.int .i64 x.f,.int .i64 x.e,.int .i64 x.t] 67)
  have ke:Blk (wr.alloc (.cells #[.int .i64 x.f,.int .i64 x.e,.int .i64 x.t] 67)) wr.heap.size 67 [.int .i64 x.f,.int .i64 x.e,.int .i64 x.t]:=Blk.new _ _ [_,_,_]
  have HB5:=Lib.hid (HB.out.trans (hbx.mono HB.out.size))
  have HO5:=Lib.hid (own_below HO.out hbx)
  have HAB:=Lib.hid (Nat.lt_of_lt_of_le hab hbx.size)
  have x0:(wr.alloc (.cells #[.int .i64 x.f,.int .i64 x.e,.int .i64 x.t] 67)).cell? (ad.add (j * 3)) = some (.int .i64 x.f):=(hbx.cell (p:=ad.add (j * 3)) (by rw [block_of_add];exact hab)).trans g0
  obtain ⟨q1,hq1⟩:∃ q,fl N x.f = q:=⟨_,rfl⟩
  obtain ⟨q2,hq2⟩:∃ q,fl N x.t = q:=⟨_,rfl⟩
  obtain ⟨q3,hq3⟩:∃ q,hasB U x.e = q:=⟨_,rfl⟩
  have HQ1:=Lib.hid hq1
  have HQ2:=Lib.hid hq2
  have HQ3:=Lib.hid hq3
  clear hab hx hbx hq1 hq2 hq3 HO HB HF
  go_upto_region 5 with fail
  clear g0 g1 g2 r1 r2
  generalize wr.heap.size = bx at ke ⊢
  generalize wr.alloc (.cells #[.int .i64 x.f,.int .i64 x.e,.int .i64 x.t] 67) = w5 at ke HB5 HO5 HAB x0 ⊢
  have hp:=HPW.out w5 HB5.out
  have c0:=ke.cell (j:=0) rfl
  have c1:=ke.cell (j:=1) rfl
  have c2:=ke.cell (j:=2) rfl
  have c3:w5.cell? ⟨c.bl,0,none⟩ = some (.slice (some ⟨c.lb,0,none⟩) c.n c.n):=hp.kl.cell (j:=0) rfl
  have c4:w5.cell? ⟨c.bc,0,none⟩ = some (.slice (some ⟨c.cb,0,none⟩) 32 32):=hp.kc.cell (j:=0) rfl
  have d1:w5.cell? ⟨c.lb,x.f.toNat,none⟩ = some (.bool q1):=hp.klb.cell (by rw [bvl_get,fl_get HQ1.out xf.1 (by rw [hNl];exact xf.2)];rfl)
  have d2:w5.cell? ⟨c.lb,x.t.toNat,none⟩ = some (.bool q2):=hp.klb.cell (by rw [bvl_get,fl_get HQ2.out xt.1 (by rw [hNl];exact xt.2)];rfl)
  have d3:w5.cell? ⟨c.cb,x.e.toNat,none⟩ = some (.bool q3):=hp.kcb.cell (by rw [bvl_get,fl_get ((hardB HU.out xe.1).trans HQ3.out) xe.1 (by rw [inF_len];exact xe.2)];rfl)
  have t1:¬ x.f < 0:=by omega
  have t2:¬ x.t < 0:=by omega
  have t3:¬ x.e < 0:=by omega
  have t4:x.f < (c.n:Int):=xf.2
  have t5:x.t < (c.n:Int):=xt.2
  have t6:x.e < 32:=xe.2
  clear hp
  by_cases hskip:q1 = false ∨ q2 = true ∨ q3 = false
  case pos =>
   have HF9:=Lib.hid (show (a.ed.take (j + 1)).foldl (uncX ⟨a,U,F⟩ N rk) [] = l from by rw [HFS.out];exact uncX_no (by rw [HQ1.out,HQ2.out];rw [show hasB (Mx.mk a U F).u x.e = q3 from HQ3.out];exact hskip))
   cases q1 with
   | false =>
    clear hskip
    go_wp2
    go_roundw
    case rel=>exact ⟨j + 1,n,_,_,_,l,rfl,rfl,rfl,by go_num,by omega,by omega,HL,HO5,HF9,HB5⟩
    case measure=>simp [intOf];omega
   | true =>
    cases q2 with
    | true =>
     clear hskip
     go_wp2
     go_roundw
     case rel=>exact ⟨j + 1,n,_,_,_,l,rfl,rfl,rfl,by go_num,by omega,by omega,HL,HO5,HF9,HB5⟩
     case measure=>simp [intOf];omega
    | false =>
     cases q3 with
     | false =>
      clear hskip
      go_wp2
      go_roundw
      case rel=>exact ⟨j + 1,n,_,_,_,l,rfl,rfl,rfl,by go_num,by omega,by omega,HL,HO5,HF9,HB5⟩
      case measure=>simp [intOf];omega
     | true=>simp at hskip
  obtain ⟨rfl,rfl,rfl⟩:q1 = true∧q2 = false∧q3 = true:=by
   cases q1 <;> cases q2 <;> cases q3 <;> simp at hskip ⊢
  clear hskip
  go_upto_region 6 with fail
  have HB6:=Lib.hid (HB5.out.trans ((below_dr w5).mono HB5.out.size))
  have HO6:=Lib.hid (own_below HO5.out (below_dr w5))
  have k6:=ke.below (below_dr w5) ke.lt
  have x6:=((below_dr w5).cell (p:=ad.add (j * 3)) (by rw [block_of_add];exact HAB.out)).trans x0
  have h3:=(HPW.out _ HB6.out).ka.cell (j:=3) rfl
  clear c0 c1 c2 c3 c4 d1 d2 d3 t1 t2 t3 t4 t5 t6 HB5 HO5 x0 ke
  rcases Nat.eq_zero_or_pos n with hn0 | hn0
  ·have HF9:=Lib.hid (show (a.ed.take (j + 1)).foldl (uncX ⟨a,U,F⟩ N rk) [] = l ++ [⟨x.f,rk,2,x.e⟩] from by rw [HFS.out];exact uncX_new HQ1.out HQ2.out HQ3.out (fun q y h=>by rw [HL.out,hn0] at h;omega))
   have b2:¬ (0:Int) < (n:Int):=by omega
   have b3:¬ 0 < n:=by omega
   have HN0:=Lib.hid hn0;clear hn0
   refine wp_region_U (fun _=>True) (fun _=>True) 99 (by kernel_rfl) ?_
   change anyU _ _ _ _ _ _ _ 19 _ _ _
   clear h3 x6
   generalize w5.drew = w6 at HB6 HO6 k6 ⊢
   have hA0:True:=trivial
   have hB0:True:=trivial
   (refine uA 0 ?_ rfl hA0 hB0 (fun W hA=>?_) ?_;rotate_left;(· (go_simp;try with_reducible rfl));refine uA 1 ?_ rfl hA0 hB0 (fun W hA=>?_) ?_;rotate_left;(· (go_simp;try with_reducible rfl));refine uA 2 ?_ rfl hA0 hB0 (fun W hA=>?_) ?_;rotate_left;(· (go_simp;try with_reducible rfl));refine uA 3 ?_ rfl hA0 hB0 (fun W hA=>?_) ?_;rotate_left;(· (go_simp;try with_reducible rfl));(try simp only [Act.put,List.setIfInBounds_toArray,List.set_cons_zero,List.set_cons_succ]))
   (refine uS 4 rfl hA0 hB0 ?_;refine uS 5 rfl hA0 hB0 ?_;refine uS 6 rfl hA0 hB0 ?_;(try simp only [Act.put,List.setIfInBounds_toArray,List.set_cons_zero,List.set_cons_succ]))
   (refine uS 7 rfl hA0 hB0 ?_;refine uS 8 rfl hA0 hB0 ?_;refine uS 9 rfl hA0 hB0 ?_;(try simp only [Act.put,List.setIfInBounds_toArray,List.set_cons_zero,List.set_cons_succ]))
   (refine uS 10 rfl hA0 hB0 ?_;refine uS 11 rfl hA0 hB0 ?_;refine uS 12 rfl hA0 hB0 ?_;(try simp only [Act.put,List.setIfInBounds_toArray,List.set_cons_zero,List.set_cons_succ]))
   (refine uS 13 rfl hA0 hB0 ?_;refine uS 14 rfl hA0 hB0 ?_;refine uS 15 rfl hA0 hB0 ?_;(try simp only [Act.put,List.setIfInBounds_toArray,List.set_cons_zero,List.set_cons_succ]))
   (refine uS 16 rfl hA0 hB0 ?_;refine uS 17 rfl hA0 hB0 ?_;(try simp only [Act.put,List.setIfInBounds_toArray,List.set_cons_zero,List.set_cons_succ]))
   (refine uA 18 ?_ rfl hA0 hB0 (fun W hA=>?_) ?_;rotate_left;(· (go_simp;try with_reducible rfl));(try simp only [Act.put,List.setIfInBounds_toArray,List.set_cons_zero,List.set_cons_succ]))
   refine anyU_done (by kernel_rfl) ?_ _
   have c0:=k6.cell (j:=0) rfl
   have c1:=k6.cell (j:=1) rfl
   clear hA0 hB0 k6
   go_upto_region 7 with fail
   have hsz:=HB6.out.size
   go_wp2_with (first | (at_builtin;refine wpList_pushN w6 [.int .i64 x.f,.int .i64 rk,.int .i64 2,.int .i64 x.e] rfl (.tmp 57) (.tmp 64) 36 rfl W.heap.size 63 (.agg #[.int .i64 0,.int .i64 0,.int .i64 0,.int .i64 0]) 4 32 Try.underlying36 rm_info rfl (by decide) rfl (.slice OA n oc) n _ rfl HO6.out rfl (fun u hu=>by simp at hu;rcases hu with rfl | rfl | rfl | rfl <;> rfl) (by omega) (by omega) hsz ?_;intro v' w' ho' hg' hb1) | fail)
   have HO7:=Lib.hid (show w'.ownsRow W.heap.size 63 4 v' (n + 1) ((l ++ [(⟨x.f,rk,2,x.e⟩:Rm)]).flatMap rmc) by rw [List.flatMap_append];exact ho')
   have HB7:=Lib.hid (HB6.out.trans hb1)
   go_roundw
   case rel=>exact ⟨j + 1,n + 1,_,_,_,_,rfl,rfl,rfl,by go_num,by omega,by omega,Lib.hid (by rw [List.length_append,HL.out];rfl),HO7,HF9,HB7⟩
   case measure=>simp [intOf];omega
  ·obtain ⟨k,hk⟩:∃ k,k + 1 = n:=⟨n - 1,by omega⟩
   obtain ⟨ad2,y,hA2,hab2,hy,hc2⟩:=RdR.get (RdR.of_own (f:=rmc) (by omega) (fun _ _=>rfl) HO6.out) (k:=k) (by rw [HL.out];omega)
   subst hA2
   have y0:w5.drew.cell? (ad2.add (k * 4)) = some (.int .i64 y.s):=hc2 0 _ rfl
   have b2:(0:Int) < (n:Int):=by omega
   have b3:(k:Int) < (n:Int):=by omega
   have b4:¬ (k:Int) < 0:=by omega
   have hwn:IntKind.i64.wrap ((n:Int) - 1) = (k:Int):=by rw [IntWalk.i64_in _ (by omega)];omega
   have HK:=Lib.hid hk
   have HY:=Lib.hid hy
   obtain ⟨ys,hys⟩:∃ q,y.s = q:=⟨_,rfl⟩
   rw [hys] at y0
   have HYS:=Lib.hid hys
   clear hc2 hab2 hy hk hys
   refine wp_region_U (fun V=>V.cell? (ad2.add (k * 4)) = some (.int .i64 ys)∧V.cell? ⟨c.ba,3,none⟩ = some (.slice (some ad) ne ce)∧V.cell? (ad.add (j * 3)) = some (.int .i64 x.f)) (fun _=>True) 99 (by kernel_rfl) ?_
   change anyU _ _ _ _ _ _ _ 19 _ _ _
   have hA0:w5.drew.cell? (ad2.add (k * 4)) = some (.int .i64 ys)∧w5.drew.cell? ⟨c.ba,3,none⟩ = some (.slice (some ad) ne ce)∧w5.drew.cell? (ad.add (j * 3)) = some (.int .i64 x.f):=⟨y0,h3,x6⟩
   clear y0 h3 x6
   generalize w5.drew = w6 at HB6 HO6 k6 hA0 ⊢
   have hB0:True:=trivial
   (refine uA 0 ?_ rfl hA0 hB0 (fun W hA=>?_) ?_;rotate_left;(· (go_simp;try with_reducible rfl));refine uA 1 ?_ rfl hA0 hB0 (fun W hA=>?_) ?_;rotate_left;(· (go_simp;try with_reducible rfl));refine uA 2 ?_ rfl hA0 hB0 (fun W hA=>?_) ?_;rotate_left;(· (go_simp;try with_reducible rfl));refine uA 3 ?_ rfl hA0 hB0 (fun W hA=>?_) ?_;rotate_left;(· (go_simp;try with_reducible rfl));(try simp only [Act.put,List.setIfInBounds_toArray,List.set_cons_zero,List.set_cons_succ]))
   (refine uA 4 ?_ rfl hA0 hB0 (fun W hA=>?_) ?_;rotate_left;(· (go_simp;try with_reducible rfl));refine uA 5 ?_ rfl hA0 hB0 (fun W hA=>?_) ?_;rotate_left;(· (go_simp;try with_reducible rfl));refine uA 6 ?_ rfl hA0 hB0 (fun W hA=>?_) ?_;rotate_left;(· (go_simp;try with_reducible rfl));(try simp only [Act.put,List.setIfInBounds_toArray,List.set_cons_zero,List.set_cons_succ]))
   (refine uA 7 ?_ rfl hA0 hB0 (fun W hA=>?_) ?_;rotate_left;(· (go_simp;try with_reducible rfl));refine uA 8 ?_ rfl hA0 hB0 (fun W hA=>?_) ?_;rotate_left;(· (go_simp;try with_reducible rfl));refine uA 9 ?_ rfl hA0 hB0 (fun W hA=>?_) ?_;rotate_left;(· (go_simp;try with_reducible rfl));(try simp only [Act.put,List.setIfInBounds_toArray,List.set_cons_zero,List.set_cons_succ]))
   (refine uA 10 ?_ rfl hA0 hB0 (fun W hA=>?_) ?_;rotate_left;(· (obtain ⟨a0,a1,a2⟩:=hA;go_simp;try with_reducible rfl));(try simp only [Act.put,List.setIfInBounds_toArray,List.set_cons_zero,List.set_cons_succ]))
   (refine uA 11 ?_ rfl hA0 hB0 (fun W hA=>?_) ?_;rotate_left;(· (go_simp;try with_reducible rfl));(try simp only [Act.put,List.setIfInBounds_toArray,List.set_cons_zero,List.set_cons_succ]))
   (refine uA 12 ?_ rfl hA0 hB0 (fun W hA=>?_) ?_;rotate_left;(· (obtain ⟨a0,a1,a2⟩:=hA;go_simp;try with_reducible rfl));(try simp only [Act.put,List.setIfInBounds_toArray,List.set_cons_zero,List.set_cons_succ]))
   (refine uA 13 ?_ rfl hA0 hB0 (fun W hA=>?_) ?_;rotate_left;(· (go_simp;try with_reducible rfl));refine uA 14 ?_ rfl hA0 hB0 (fun W hA=>?_) ?_;rotate_left;(· (go_simp;try with_reducible rfl));refine uA 15 ?_ rfl hA0 hB0 (fun W hA=>?_) ?_;rotate_left;(· (go_simp;try with_reducible rfl));(try simp only [Act.put,List.setIfInBounds_toArray,List.set_cons_zero,List.set_cons_succ]))
   (refine uA 16 ?_ rfl hA0 hB0 (fun W hA=>?_) ?_;rotate_left;(· (obtain ⟨a0,a1,a2⟩:=hA;go_simp;try with_reducible rfl));(try simp only [Act.put,List.setIfInBounds_toArray,List.set_cons_zero,List.set_cons_succ]))
   by_cases hyx:ys = x.f
   ·have b5:(ys == x.f) = true:=by simpa using hyx
    have HF9:=Lib.hid (show (a.ed.take (j + 1)).foldl (uncX ⟨a,U,F⟩ N rk) [] = l from by rw [HFS.out];exact uncX_old (n:=k) (by rw [HL.out,HK.out]) HY.out (by rw [HYS.out];exact hyx))
    (refine uA 17 ?_ rfl hA0 hB0 (fun W hA=>?_) ?_;rotate_left;(· (go_simp;try with_reducible rfl));refine uA 18 ?_ rfl hA0 hB0 (fun W hA=>?_) ?_;rotate_left;(· (go_simp;try with_reducible rfl));(try simp only [Act.put,List.setIfInBounds_toArray,List.set_cons_zero,List.set_cons_succ]))
    refine anyU_done (by kernel_rfl) ?_ _
    clear hA0 hB0 k6
    go_wp2
    go_roundw
    case rel=>exact ⟨j + 1,n,_,_,_,l,rfl,rfl,rfl,by go_num,by omega,by omega,HL,HO6,HF9,HB6⟩
    case measure=>simp [intOf];omega
   ·have b5:(ys == x.f) = false:=by simpa using hyx
    have HF9:=Lib.hid (show (a.ed.take (j + 1)).foldl (uncX ⟨a,U,F⟩ N rk) [] = l ++ [⟨x.f,rk,2,x.e⟩] from by
     rw [HFS.out]
     exact uncX_new HQ1.out HQ2.out HQ3.out (fun q z h hz=>by
      have:q = k:=by have:=HK.out;rw [HL.out] at h;omega
      subst this
      rw [HY.out] at hz
      injection hz with hz
      rw [← hz,HYS.out]
      exact hyx))
    (refine uA 17 ?_ rfl hA0 hB0 (fun W hA=>?_) ?_;rotate_left;(· (go_simp;try with_reducible rfl));refine uA 18 ?_ rfl hA0 hB0 (fun W hA=>?_) ?_;rotate_left;(· (go_simp;try with_reducible rfl));(try simp only [Act.put,List.setIfInBounds_toArray,List.set_cons_zero,List.set_cons_succ]))
    refine anyU_done (by kernel_rfl) ?_ _
    have c0:=k6.cell (j:=0) rfl
    have c1:=k6.cell (j:=1) rfl
    clear hA0 hB0 k6
    go_upto_region 7 with fail
    have hsz:=HB6.out.size
    go_wp2_with (first | (at_builtin;refine wpList_pushN w6 [.int .i64 x.f,.int .i64 rk,.int .i64 2,.int .i64 x.e] rfl (.tmp 57) (.tmp 64) 36 rfl W.heap.size 63 (.agg #[.int .i64 0,.int .i64 0,.int .i64 0,.int .i64 0]) 4 32 Try.underlying36 rm_info rfl (by decide) rfl (.slice (some ad2) n oc) n _ rfl HO6.out rfl (fun u hu=>by simp at hu;rcases hu with rfl | rfl | rfl | rfl <;> rfl) (by omega) (by omega) hsz ?_;intro v' w' ho' hg' hb1) | fail)
    have HO7:=Lib.hid (show w'.ownsRow W.heap.size 63 4 v' (n + 1) ((l ++ [(⟨x.f,rk,2,x.e⟩:Rm)]).flatMap rmc) by rw [List.flatMap_append];exact ho')
    have HB7:=Lib.hid (HB6.out.trans hb1)
    go_roundw
    case rel=>exact ⟨j + 1,n + 1,_,_,_,_,rfl,rfl,rfl,by go_num,by omega,by omega,Lib.hid (by rw [List.length_append,HL.out];rfl),HO7,HF9,HB7⟩
    case measure=>simp [intOf];omega
theorem rngI_get {n j:Nat} (h:j < n):(rngI (n:Int))[j]? = some (j:Int):=by
 unfold rngI
 rw [List.getElem?_map,Int.toNat_natCast,List.getElem?_range h]
 rfl
theorem blkL_at {D:List Int} {N:List Bool} {rk:Int} {n j:Nat} (h:j < n):((rngI (n:Int)).take (j + 1)).filterMap (blkR D N rk) = ((rngI (n:Int)).take j).filterMap (blkR D N rk) ++ (if fl N (j:Int) = true∧gI D (j:Int) < 0 then [⟨(j:Int),rk,3,-1⟩] else []):=by
 have hj:(rngI (n:Int))[j]? = some (j:Int):=rngI_get h
 rw [take_snoc' hj,List.filterMap_append]
 congr 1
 unfold blkR
 split <;> rename_i h1 <;> simp [h1]
set_option maxRecDepth 100000 in
set_option maxHeartbeats 3200000 in
theorem max_blocked (w W:World) (x:AV) (U F:List Int) (c:PrC) (Rv:Value) (m:Nat) (N:List Bool) (R:List Rm) (h:PrW w W x U c Rv m N R) (hx:x.ok w w.heap.size) (hw:WF x.a) (hn:x.a.st = (c.n:Int)) (rk:Int) :
  Calls Try.prog 42 #[.int .i64 rk,.pointer (some ⟨c.ba,0,none⟩),.pointer (some ⟨c.bl,0,none⟩),.pointer (some ⟨c.bb,0,none⟩)] W (RetRl (blkL ⟨x.a,U,F⟩ N rk) W):=by
 have HDC:=Lib.hid (max_distances x c.lb c.n c.o c.mo N c.g w.heap.size w W (AutR.more (AutR.below hx h.bel) h.bel.size) hw hn h.nl h.klb h.into)
 have HPW:=Lib.hid (fun (V:World) (hb:Below W.heap.size W V)=>h.quiet hb)
 have hn4:c.n ≤ 4096:=by have:=hw.st1;omega
 have hdl:=(dsS_spec (es:=x.a.ed) (N:=N) (ma:=x.a.ma) (fun y hy=>by rw [h.nl,← hn];have:=hw.ev_rng hy;omega) (fun s hs=>by rw [h.nl,← hn];exact hw.mrng s hs) (hw.minc.imp (fun h=>by omega))).1
 rw [h.nl] at hdl
 have HBK:=Lib.hid (show blkL ⟨x.a,U,F⟩ N rk = (rngI (c.n:Int)).filterMap (blkR (dsS x.a.ed N x.a.ma).1 N rk) from by unfold blkL;rw [h.nl])
 obtain ⟨RES,hRES⟩:∃ r,blkL ⟨x.a,U,F⟩ N rk = r:=⟨_,rfl⟩
 rw [hRES] at HBK ⊢
 obtain ⟨A,na,ca,M,nm,cm,E,ne,ce,a⟩:=x
 dsimp only at hw hn HPW HDC hdl HBK ⊢
 obtain ⟨D,hD⟩:∃ D,(dsS a.ed N a.ma).1 = D:=⟨_,rfl⟩
 rw [hD] at HDC hdl HBK
 obtain ⟨⟨a0,a1,a2,a3⟩⟩:Nonempty (PProd (W.cell? ⟨c.ba,0,none⟩ = some (.slice A na ca)) (PProd (W.cell? ⟨c.ba,1,none⟩ = some (.int .i64 (c.n:Int))) (PProd (W.cell? ⟨c.ba,2,none⟩ = some (.slice M nm cm)) (W.cell? ⟨c.ba,3,none⟩ = some (.slice E ne ce))))):=⟨⟨h.ka.cell (j:=0) rfl,by rw [← hn];exact h.ka.cell (j:=1) rfl,h.ka.cell (j:=2) rfl,h.ka.cell (j:=3) rfl⟩⟩
 have a4:W.cell? ⟨c.bl,0,none⟩ = some (.slice (some ⟨c.lb,0,none⟩) c.n c.n):=h.kl.cell (j:=0) rfl
 have a5:W.cell? ⟨c.bb,0,none⟩ = some (.map (some c.o)):=h.kb.cell (j:=0) rfl
 have hNl:=h.nl
 rw [hn] at HDC
 clear h hx hw hn hD hRES
 go_enter Try.func42,Try.ntmps42
 go_wp2_with fail
 refine HDC.out.mono ?_
 rintro _ w2 ⟨ob,rfl,hko,hob,hb2⟩
 have HKO:=Lib.hid hko
 have HB2:=Lib.hid hb2
 have hob9:ob < w2.heap.size:=hko.lt
 clear a0 a1 a2 a3 a4 a5 HDC hko hb2
 go_wp2
 go_loopw [6,7,8,14] (fun s6 s7 s8 s14 wr=>∃ (j n:Nat) (v6 v7 v8:Value) (l:List Rm),v6 = s6∧s7 = v7∧s8 = v8∧s14 = .int .i64 j∧j ≤ c.n∧n ≤ j∧Hid (l.length = n)∧Hid (wr.ownsRow w2.heap.size 63 4 v6 n (l.flatMap rmc))∧Hid (((rngI (c.n:Int)).take j).filterMap (blkR D N rk) = l)∧Hid (Below w2.heap.size w2 wr)) (fun _ _ _ s14 _=>c.n - (intOf s14).toNat)
 case atStart=>exact ⟨0,0,_,_,_,[],rfl,rfl,rfl,rfl,Nat.zero_le _,Nat.zero_le _,Lib.hid rfl,Lib.hid (World.ownsRow_nil _ _ _ _),Lib.hid rfl,Lib.hid (Below.refl _ _)⟩
 case round =>
  obtain ⟨j,n,v6,v7,v8,l,rfl,rfl,rfl,rfl,hj,hnj,HL,HO,HF,HB⟩:=hrel
  obtain ⟨OA,oc,rfl⟩:=own_shape HO.out
  by_cases hlt:j < c.n
  case neg =>
   obtain ⟨jn,hjn⟩:∃ q,q = c.n:=⟨_,rfl⟩
   obtain rfl:j = c.n:=by omega
   have b1:¬ (c.n:Int) < (c.n:Int):=by omega
   have HF9:=Lib.hid (show RES = l from by
    have:=HF.out
    rw [List.take_of_length_le (by rw [rngI_len,Int.toNat_natCast];exact Nat.le_refl _)] at this
    rw [HBK.out]
    exact this)
   clear hjn
   go_wp2
   go_ret
   exact ⟨_,n,rfl,by rw [HF9.out];exact HL.out,by rw [HF9.out];exact own_base HO.out HB2.out.size,HB2.out.trans (HB.out.mono HB2.out.size)⟩
  have b1:(j:Int) < (c.n:Int):=by omega
  have HFS:=Lib.hid (blkL_at (D:=D) (N:=N) (rk:=rk) hlt)
  rw [HF.out] at HFS
  obtain ⟨q1,hq1⟩:∃ q,fl N (j:Int) = q:=⟨_,rfl⟩
  obtain ⟨d,hd⟩:∃ q,gI D (j:Int) = q:=⟨_,rfl⟩
  rw [hq1,hd] at HFS
  have k2:=HKO.out.below HB.out hob9
  have g0:wr.cell? ⟨ob,j,none⟩ = some (.int .i64 d):=by rw [← hd];exact k2.cell (iv_gI (by rw [hdl];exact hlt))
  have hp:=HPW.out wr (HB2.out.trans (HB.out.mono HB2.out.size))
  have g1:wr.cell? ⟨c.bl,0,none⟩ = some (.slice (some ⟨c.lb,0,none⟩) c.n c.n):=hp.kl.cell (j:=0) rfl
  have hnj2:N[j]? = some q1:=by
   have h9:=fl_get hq1 (by omega) (by rw [hNl];exact b1)
   rwa [Int.toNat_natCast] at h9
  have g2:wr.cell? ⟨c.lb,j,none⟩ = some (.bool q1):=hp.klb.cell (by rw [bvl_get,hnj2];rfl)
  have hsz:=HB.out.size
  clear hp k2 hq1 hd HF hnj2
  cases q1 with
  | false =>
   have HF9:=Lib.hid (show ((rngI (c.n:Int)).take (j + 1)).filterMap (blkR D N rk) = l from by rw [HFS.out,if_neg (by simp),List.append_nil])
   go_wp2
   go_roundw
   case rel=>exact ⟨j + 1,n,_,_,_,l,rfl,rfl,rfl,by go_num,by omega,by omega,HL,HO,HF9,HB⟩
   case measure=>simp [intOf];omega
  | true =>
   by_cases hdn:d < 0
   ·have HF9:=Lib.hid (show ((rngI (c.n:Int)).take (j + 1)).filterMap (blkR D N rk) = l ++ [⟨(j:Int),rk,3,-1⟩] from by rw [HFS.out,if_pos ⟨rfl,hdn⟩])
    go_wp2_with (first | (at_builtin;refine wpList_pushN wr [.int .i64 (j:Int),.int .i64 rk,.int .i64 3,.int .i64 (-1)] rfl (.tmp 27) (.tmp 31) 36 rfl w2.heap.size 63 (.agg #[.int .i64 0,.int .i64 0,.int .i64 0,.int .i64 0]) 4 32 Try.underlying36 rm_info rfl (by decide) rfl (.slice OA n oc) n _ rfl HO.out rfl (fun u hu=>by simp at hu;rcases hu with rfl | rfl | rfl | rfl <;> rfl) (by omega) (by omega) hsz ?_;intro v' w' ho' hg' hb1) | fail)
    have HO7:=Lib.hid (show w'.ownsRow w2.heap.size 63 4 v' (n + 1) ((l ++ [(⟨(j:Int),rk,3,-1⟩:Rm)]).flatMap rmc) by rw [List.flatMap_append];exact ho')
    have HB7:=Lib.hid (HB.out.trans hb1)
    go_roundw
    case rel=>exact ⟨j + 1,n + 1,_,_,_,_,rfl,rfl,rfl,by go_num,by omega,by omega,Lib.hid (by rw [List.length_append,HL.out];rfl),HO7,HF9,HB7⟩
    case measure=>simp [intOf];omega
   ·have HF9:=Lib.hid (show ((rngI (c.n:Int)).take (j + 1)).filterMap (blkR D N rk) = l from by rw [HFS.out,if_neg (fun h=>hdn h.2),List.append_nil])
    go_wp2
    go_roundw
    case rel=>exact ⟨j + 1,n,_,_,_,l,rfl,rfl,rfl,by go_num,by omega,by omega,HL,HO,HF9,HB⟩
    case measure=>simp [intOf];omega
end Go.Proofs.Ytdnmpndnpfklcaa

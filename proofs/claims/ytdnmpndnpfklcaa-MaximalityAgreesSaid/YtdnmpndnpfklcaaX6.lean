/- Walk of (*synthesis.problem).supervisor. -/
import Derived.Test.YtdnmpndnpfklcaaX5
namespace Go.Proofs.Ytdnmpndnpfklcaa
open Go.RowKit Go Go.Maps
def RetSu (a:Aut) (w:World) (e:Ending) (w':World):Prop:=∃ (x:AV) (Ov:Option Addr) (on oc:Nat),e = .returned (.tuple #[.agg (avc x).toArray,.slice Ov on oc])∧AutQ w' w.heap.size x∧x.a = a∧Below w.heap.size w w'
theorem SvM.start {w wt w8:World} {ab:Nat} {VA:Option Addr} {na vc:Nat} (hB:Below w.heap.size w wt) (kA:Blk wt ab 32 [.slice VA na vc,.int .i64 0,.slice none 0 0,.slice none 0 0]) (hab:w.heap.size ≤ ab)
  (hT:TabI Try.prog 3 3 (Value.int .i64) w8 wt.heap.size 1 (numI [0])) (hg8:(wt.alloc (.map #[] 0)).grownBy w8 (some wt.heap.size)) :
  SvM w wt (w8.alloc (.cells #[.int .i64 0] 3)) ab VA na vc wt.heap.size 1 (.slice (some ⟨w8.heap.size,0,none⟩) 1 1) (.slice none 0 0) (.slice none 0 0) ⟨[0],[]⟩ []:=by
 have e1:(wt.alloc (.map #[] 0)).heap.size = wt.heap.size + 1:=by simp
 have b1:=box_below wt (.map #[] 0)
 have b8:Below wt.heap.size wt w8:=b1.grown hg8 b1.size (fun j hj=>by injection hj with hj;omega)
 have b9:=b8.alloc b8.size (.cells #[.int .i64 0] 3)
 have s8:=hg8.size
 exact ⟨hB.trans (b9.mono hB.size),grown_below b9 (some ab),kA.below b9 kA.lt,hT.alloc _,Nat.le_refl _,own_lit w8 [.int .i64 0] wt.heap.size 3 (by omega) (by simp),World.ownsRow_nil _ _ _ _,World.ownsRow_nil _ _ _ _,(fun g e h=>by cases h),hab,kA.lt⟩
set_option maxRecDepth 100000 in
set_option maxHeartbeats 12800000 in
theorem syn_supervisor (x:AV) (u:IV) (pb o lb n:Nat) (N:List Bool) (w:World) (hx:x.ok w w.heap.size) (hw:WF x.a) (hn:x.a.st = (n:Int)) (hkp:Blk w pb 157 (syc x u o lb n)) (hkl:Blk w lb 4 (bvl N)) (hnl:N.length = n) :
  Calls Try.prog 96 #[.pointer (some ⟨pb,0,none⟩)] w (RetSu (rsA x.a (onF N)) w):=by
 obtain ⟨A,na,ca,M,nm,cm,E,ne,ce,a⟩:=x
 dsimp only at hw hn hkp ⊢
 have hn4:n ≤ 4096:=by have:=hw.st1;omega
 have HX:=Lib.hid (fun (W:World) (hb:Below w.heap.size w W)=>(AutR.below hx hb).more hb.size)
 have HKP:=Lib.hid (fun (W:World) (hb:Below w.heap.size w W)=>hkp.below hb hkp.lt)
 have HKL:=Lib.hid (fun (W:World) (hb:Below w.heap.size w W)=>hkl.below hb hkl.lt)
 have HLA:=Lib.hid (show a.al.length = na from hx.la)
 have hna:na ≤ 32:=by have h1:=hw.al_le;have h2:a.al.length = na:=hx.la;omega
 have HLE:=Lib.hid (show a.ed.length = ne from hx.le)
 have HMM:=Lib.hid (show a.ma.length = nm∧nm ≤ cm∧cm ≤ 9223372036854775807 from ⟨hx.lm,hx.mc,hx.cM⟩)
 have HER:=Lib.hid (show ∀ y ∈ a.ed,(0 ≤ y.f∧y.f < (n:Int))∧(0 ≤ y.t∧y.t < (n:Int))∧(0 ≤ y.e∧y.e < 32) from fun y hy=>by have:=hw.ev_rng hy;omega)
 have hel:ne ≤ 1000000:=by have h1:=hw.ed_le;have h2:a.ed.length = ne:=hx.le;omega
 have HWF:=Lib.hid hw
 have HST:=Lib.hid hn
 have HNL:=Lib.hid hnl
 have hb1:=box_below w (.cells #[.slice none 0 0,.int .i64 0,.slice none 0 0,.slice none 0 0] 32)
 have k1:=Blk.new w 32 [.slice none 0 0,.int .i64 0,.slice none 0 0,.slice none 0 0]
 obtain ⟨w1,hw1⟩:∃ w1,w1 = w.alloc (.cells #[.slice none 0 0,.int .i64 0,.slice none 0 0,.slice none 0 0] 32):=⟨_,rfl⟩
 have k1':Blk w1 w.heap.size 32 [.slice none 0 0,.int .i64 0,.slice none 0 0,.slice none 0 0]:=by rw [hw1];exact k1
 rw [← hw1] at hb1
 have HB1:=Lib.hid hb1
 have HKR:=Lib.hid (fun (W:World) (hb:Below w1.heap.size w1 W)=>k1'.below hb k1'.lt)
 have HW1:=Lib.hid hw1
 have a0:=(HKP.out w1 hb1).cell (j:=0) rfl
 have HKZ:=Lib.hid (fun (W:World) (hb:Below w1.heap.size w1 W)=>hb1.trans (hb.mono hb1.size))
 have HLT:=Lib.hid (And.intro hkp.lt hkl.lt)
 have HS1:=Lib.hid (show w.heap.size < w1.heap.size from k1'.lt)
 clear hx hw hn hkp hkl hnl hb1 k1 k1' hw1
 go_enter Try.func96,Try.ntmps96
 go_upto_region 1 with fail
 rw [← HW1.out]
 clear HW1
 go_wp2_with fail
 refine (slices_Clone_n A ca na a.al w1 HLA.out (HX.out w1 HB1.out).ra (by omega)).mono ?_
 rintro e w5 ⟨v,rfl,ho,hb⟩
 obtain ⟨VA,vc,rfl⟩:=own_shape ho
 rw [HLA.out] at ho ⊢
 clear a0
 go_upto_region 2 with fail
 have hbx:=box_below w5 (.cells #[.slice VA na vc,.int .i64 0,.slice none 0 0,.slice none 0 0] 32)
 have HKA:=Lib.hid (Blk.new w5 32 [.slice VA na vc,.int .i64 0,.slice none 0 0,.slice none 0 0])
 have HB6:=Lib.hid (hb.trans (hbx.mono hb.size))
 have HOA:=Lib.hid (own_below ho hbx)
 have HAB:=Lib.hid (show w1.heap.size ≤ w5.heap.size from hb.size)
 obtain ⟨ab,hab⟩:∃ b,w5.heap.size = b:=⟨_,rfl⟩
 rw [hab] at HKA HAB ⊢
 clear hab hbx ho hb
 generalize w5.alloc (.cells #[.slice VA na vc,.int .i64 0,.slice none 0 0,.slice none 0 0] 32) = w6 at HKA HB6 HOA ⊢
 have HBW:=Lib.hid (HKZ.out w6 HB6.out)
 have kR9:=HKR.out w6 HB6.out
 have kA9:=HKA.out
 have hB9:=HBW.out
 have c1:=(HKP.out w6 HBW.out).cell (j:=1) rfl
 have HEMPTY:=Lib.hid (show ∀ V,V.ownsRow w1.heap.size 3 1 (.slice VA na vc) na (iv a.al) → Below w.heap.size w V → hasB (onF N) 0 = false → RetSu (rsA a (onF N)) w (.returned (.tuple #[.agg #[.slice VA na vc,.int .i64 0,.slice none 0 0,.slice none 0 0],.slice none 0 0])) V from fun V ho9 hV h0 =>
  ⟨⟨VA,na,vc,none,0,0,none,0,0,⟨a.al,0,[],[]⟩⟩,none,0,0,rfl,⟨QRow.of_own (own_base ho9 (Nat.le_of_lt HS1.out)),⟨rfl,.inl ⟨rfl,rfl⟩⟩,rfl,World.ownsRow_nil _ _ _ _⟩,(rsA_no h0).symm,hV⟩)
 by_cases hz:n = 0
 ·have hz':((n:Int) == 0) = true:=by simp [hz]
  have HNO:=Lib.hid (show hasB (onF N) 0 = false from by
   rw [Bool.eq_false_iff]
   intro h
   have:=(onF_mem.1 (hasB_mem.1 h)).1
   rw [HNL.out,hz] at this
   omega)
  have HZ:=Lib.hid hz
  clear hz
  have f0:=kR9.free 0
  have f1:=kR9.free 1
  have f2:=kR9.free 2
  have f3:=kR9.free 3
  have e0:=kR9.cell (j:=0) rfl
  have e1:=kR9.cell (j:=1) rfl
  have e2:=kR9.cell (j:=2) rfl
  have e3:=kR9.cell (j:=3) rfl
  have l9:=kR9.lt
  have o0:=kA9.cell (j:=0) rfl
  have o1:=kA9.cell (j:=1) rfl
  have o2:=kA9.cell (j:=2) rfl
  have o3:=kA9.cell (j:=3) rfl
  go_wp2
  have hb4:=(((kR9.set (j:=0) (by simp) (.slice VA na vc)).set (j:=1) (by simp) (.int .i64 0)).set (j:=2) (by simp) (.slice none 0 0)).set (j:=3) (by simp) (.slice none 0 0)
  have z0:=hb4.cell (j:=0) rfl
  have z1:=hb4.cell (j:=1) rfl
  have z2:=hb4.cell (j:=2) rfl
  have z3:=hb4.cell (j:=3) rfl
  have hq:∀ k:Nat,w.heap.size ≤ (⟨w.heap.size,k,none⟩:Addr).block:=fun k=>Nat.le_refl _
  have F:=(((hB9.setCell (p:=⟨w.heap.size,0,none⟩) (hq 0) (.slice VA na vc)).setCell (p:=⟨w.heap.size,1,none⟩) (hq 1) (.int .i64 0)).setCell (p:=⟨w.heap.size,2,none⟩) (hq 2) (.slice none 0 0)).setCell (p:=⟨w.heap.size,3,none⟩) (hq 3) (.slice none 0 0)
  refine bodyPost_ret (v:=.tuple #[.agg #[.slice VA na vc,.int .i64 0,(.slice none 0 0),(.slice none 0 0)],(.slice none 0 0)]) (by simp [results,Try.results96,go_sem,z0,z1,z2,z3]) rfl ?_
  have hg:=(((grown_setCell w6 w.heap.size 0 (.slice VA na vc)).trans (grown_setCell _ _ 1 (.int .i64 0))).trans (grown_setCell _ _ 2 (.slice none 0 0))).trans (grown_setCell _ _ 3 (.slice none 0 0))
  exact HEMPTY.out _ (HOA.out.kept hg (.inr (fun e=>by have h1:=(HOA.out.lt _ e).1;have h2:=HS1.out;omega))) F HNO.out
 have hz':((n:Int) == 0) = false:=by simpa using hz
 obtain ⟨q0,hq0⟩:∃ q,fl N 0 = q:=⟨_,rfl⟩
 have hn1:0 < n:=by omega
 have hn2:(0:Int) < (n:Int):=by omega
 have c6:=(HKP.out w6 HBW.out).cell (j:=6) rfl
 have d0:w6.cell? ⟨lb,0,none⟩ = some (.bool q0):=(HKL.out w6 HBW.out).cell (by
  have h:=fl_get hq0 (Int.le_refl 0) (by rw [HNL.out];exact hn2)
  rw [bvl_get]
  rw [show ((0:Int).toNat) = 0 from rfl] at h
  rw [h];rfl)
 have HQ0:=Lib.hid (show hasB (onF N) 0 = q0 from by rw [hasB_onF (Int.le_refl 0) (by rw [HNL.out];exact hn2)];exact hq0)
 clear hz hq0
 cases q0 with
 | false =>
  have f0:=kR9.free 0
  have f1:=kR9.free 1
  have f2:=kR9.free 2
  have f3:=kR9.free 3
  have e0:=kR9.cell (j:=0) rfl
  have e1:=kR9.cell (j:=1) rfl
  have e2:=kR9.cell (j:=2) rfl
  have e3:=kR9.cell (j:=3) rfl
  have l9:=kR9.lt
  have o0:=kA9.cell (j:=0) rfl
  have o1:=kA9.cell (j:=1) rfl
  have o2:=kA9.cell (j:=2) rfl
  have o3:=kA9.cell (j:=3) rfl
  go_wp2
  have hb4:=(((kR9.set (j:=0) (by simp) (.slice VA na vc)).set (j:=1) (by simp) (.int .i64 0)).set (j:=2) (by simp) (.slice none 0 0)).set (j:=3) (by simp) (.slice none 0 0)
  have z0:=hb4.cell (j:=0) rfl
  have z1:=hb4.cell (j:=1) rfl
  have z2:=hb4.cell (j:=2) rfl
  have z3:=hb4.cell (j:=3) rfl
  have hq:∀ k:Nat,w.heap.size ≤ (⟨w.heap.size,k,none⟩:Addr).block:=fun k=>Nat.le_refl _
  have F:=(((hB9.setCell (p:=⟨w.heap.size,0,none⟩) (hq 0) (.slice VA na vc)).setCell (p:=⟨w.heap.size,1,none⟩) (hq 1) (.int .i64 0)).setCell (p:=⟨w.heap.size,2,none⟩) (hq 2) (.slice none 0 0)).setCell (p:=⟨w.heap.size,3,none⟩) (hq 3) (.slice none 0 0)
  refine bodyPost_ret (v:=.tuple #[.agg #[.slice VA na vc,.int .i64 0,(.slice none 0 0),(.slice none 0 0)],(.slice none 0 0)]) (by simp [results,Try.results96,go_sem,z0,z1,z2,z3]) rfl ?_
  have hg:=(((grown_setCell w6 w.heap.size 0 (.slice VA na vc)).trans (grown_setCell _ _ 1 (.int .i64 0))).trans (grown_setCell _ _ 2 (.slice none 0 0))).trans (grown_setCell _ _ 3 (.slice none 0 0))
  exact HEMPTY.out _ (HOA.out.kept hg (.inr (fun e=>by have h1:=(HOA.out.lt _ e).1;have h2:=HS1.out;omega))) F HQ0.out
 | true =>
  clear HEMPTY kR9 kA9 hB9
  have hm2:∀ W:World,(Instr.makeSlice 177 (.int .i64 (n:Int)) (.int .i64 (n:Int))).run Try.prog W = .ok (.slice (some ⟨W.heap.size,0,none⟩) n n) (W.alloc (.cells (madeCells #[.slice none 0 0] n) 30)):=fun W=>run_make_row' 177 30 (.slice none 0 0) 24 Try.underlying177 esl_info rfl .i64 .i64 n (by omega) (by omega) W
  go_upto_region 5 with fail
  clear c1 c6 d0 hm2
  have HP0:=Lib.hid (EtM.start w6 n)
  obtain ⟨tb,htb⟩:∃ b,w6.heap.size = b:=⟨_,rfl⟩
  have HTB:=Lib.hid htb
  rw [htb] at HP0 ⊢
  generalize w6.alloc (.cells (madeCells #[.slice none 0 0] n) 30) = w7 at HP0 ⊢
  have HB6b:=Lib.hid (fun (W:World) (hb:Below tb w6 W)=>(show Below w.heap.size w W from HBW.out.trans (Below.mono (by rw [← HTB.out] at hb;exact hb) HBW.out.size)))
  have c3:=(HKP.out w7 (HB6b.out w7 HP0.out.bel)).cell (j:=3) rfl
  clear htb
  have HP1:=Lib.hid (show EtM tb w6 w7 tb n (leL N (a.ed.take 0)) (fun _=>none) from HP0.out)
  clear HP0
  go_wp2
  clear c3
  go_loopw [7,50] (fun s7 s50 wr=>∃ (k:Nat) (v7:Value) (g:Int → Option Hd),s7 = v7∧s50 = .int .i64 k∧k ≤ ne∧Hid (EtM tb w6 wr tb n (leL N (a.ed.take k)) g)) (fun _ s50 _=>ne - (intOf s50).toNat)
  case atStart=>exact ⟨0,_,_,rfl,rfl,Nat.zero_le _,HP1⟩
  case round =>
   clear HP1
   obtain ⟨k,v7,g,rfl,rfl,hk,HI⟩:=hrel
   obtain ⟨wa,rfl⟩:∃ q,q = wr:=⟨_,rfl⟩
   by_cases hlt:k < ne
   case pos =>
    obtain ⟨ad,x,rfl,hab,hx,g0,g1,g2⟩:=(HX.out wa (HB6b.out wa HI.out.bel)).re.at_ (k:=k) (by rw [HLE.out];exact hlt)
    have r1:wa.cell? ⟨(ad.add (k * 3)).block,(ad.add (k * 3)).off + 1,none⟩ = some (.int .i64 x.e):=st_cells (j:=0) g1
    have r2:wa.cell? ⟨(ad.add (k * 3)).block,(ad.add (k * 3)).off + 2,none⟩ = some (.int .i64 x.t):=st_cells (j:=1) g2
    have b1:(k:Int) < (ne:Int):=by omega
    obtain ⟨⟨f0,f1⟩,⟨t0,t1⟩,_⟩:=HER.out x (List.mem_of_getElem? hx)
    have HTK:=Lib.hid (leL_snoc (N:=N) hx)
    have hbx:=box_below wa (.cells #[.int .i64 x.f,.int .i64 x.e,.int .i64 x.t] 67)
    have ke:Blk (wa.alloc (.cells #[.int .i64 x.f,.int .i64 x.e,.int .i64 x.t] 67)) wa.heap.size 67 [.int .i64 x.f,.int .i64 x.e,.int .i64 x.t]:=Blk.new _ _ [_,_,_]
    have HI5:=Lib.hid (HI.out.quiet hbx)
    have HLO:=Lib.hid (show tb ≠ wa.heap.size by have:=HI.out.tab.lt;omega)
    have HNB:=Lib.hid (fun (gq:Nat) (e:(hvl (g x.f)).ownBlock = some gq)=>((HI.out.row x.f).lt gq e).2)
    have hpl:(fromL (leL N (a.ed.take k)) x.f).length ≤ 1000000:=Nat.le_trans (List.length_filter_le _ _) (Nat.le_trans (List.length_filter_le _ _) (by rw [List.length_take];omega))
    obtain ⟨q1,hq1⟩:∃ q,fl N x.t = q:=⟨_,rfl⟩
    have HQ1:=Lib.hid hq1
    rw [hq1] at HTK
    clear hx hab hbx HI hq1
    go_upto_region 8 with fail
    clear g0 g1 g2 r1 r2
    generalize wa.heap.size = bx at ke HLO HNB ⊢
    generalize wa.alloc (.cells #[.int .i64 x.f,.int .i64 x.e,.int .i64 x.t] 67) = w8 at ke HI5 ⊢
    have HKE:=Lib.hid (fun (W:World) (hb:Below w8.heap.size w8 W)=>Blk.c3 (ke.below hb ke.lt))
    have HBX:=Lib.hid (fun (W:World) (hb:Below w8.heap.size w8 W)=>HB6b.out W (HI5.out.quiet hb).bel)
    have HD1:=Lib.hid (fun (W:World) (hb:Below w8.heap.size w8 W)=>(show W.cell? ⟨lb,x.t.toNat,none⟩ = some (.bool q1) from (HKL.out W (HBX.out W hb)).cell (by rw [bvl_get,fl_get HQ1.out t0 (by rw [HNL.out];exact t1)];rfl)))
    have t2:¬ x.t < 0:=by omega
    have f2:¬ x.f < 0:=by omega
    refine wp_region_U (fun W=>Below w8.heap.size w8 W) (fun _=>True) 99 (by kernel_rfl) ?_
    change anyU _ _ _ _ _ _ _ 8 _ _ _
    have hB0:True:=trivial
    have hA0:=below_dr w8
    have HI6:=Lib.hid (HI5.out.quiet hA0)
    generalize w8.drew = wd at hA0 HI6 ⊢
    (refine uA 0 ?_ rfl hA0 hB0 (fun W hA=>?_) ?_;rotate_left;(· (go_simp;try with_reducible rfl));refine uA 1 ?_ rfl hA0 hB0 (fun W hA=>?_) ?_;rotate_left;(· (go_simp;try with_reducible rfl));refine uA 2 ?_ rfl hA0 hB0 (fun W hA=>?_) ?_;rotate_left;(· (go_simp;try with_reducible rfl));(try simp only [Act.put,List.setIfInBounds_toArray,List.set_cons_zero,List.set_cons_succ]))
    (refine uA 3 ?_ rfl hA0 hB0 (fun W hA=>?_) ?_;rotate_left;(· (have a0:=(HKP.out W (HBX.out W hA)).cell (j:=6) rfl;go_simp;try with_reducible rfl));(try simp only [Act.put,List.setIfInBounds_toArray,List.set_cons_zero,List.set_cons_succ]))
    (refine uA 4 ?_ rfl hA0 hB0 (fun W hA=>?_) ?_;rotate_left;(· (go_simp;try with_reducible rfl));(try simp only [Act.put,List.setIfInBounds_toArray,List.set_cons_zero,List.set_cons_succ]))
    (refine uA 5 ?_ rfl hA0 hB0 (fun W hA=>?_) ?_;rotate_left;(· (obtain ⟨a0,a1,a2⟩:=HKE.out W hA;go_simp;try with_reducible rfl));(try simp only [Act.put,List.setIfInBounds_toArray,List.set_cons_zero,List.set_cons_succ]))
    (refine uA 6 ?_ rfl hA0 hB0 (fun W hA=>?_) ?_;rotate_left;(· (go_simp;try with_reducible rfl));(try simp only [Act.put,List.setIfInBounds_toArray,List.set_cons_zero,List.set_cons_succ]))
    (refine uA 7 ?_ rfl hA0 hB0 (fun W hA=>?_) ?_;rotate_left;(· (have a0:=HD1.out W hA;go_simp;try with_reducible rfl));(try simp only [Act.put,List.setIfInBounds_toArray,List.set_cons_zero,List.set_cons_succ]))
    refine anyU_done (by kernel_rfl) ?_ _
    cases q1 with
    | false =>
     have HI9:=Lib.hid (show EtM tb w6 wd tb n (leL N (a.ed.take (k + 1))) g from by rw [HTK.out,if_neg (by simp),List.append_nil];exact HI6.out)
     clear hA0 hB0 HI6 HKE HBX HD1 ke
     go_wp2
     go_roundw
     case rel=>exact ⟨k + 1,_,_,rfl,by go_num,by omega,HI9⟩
     case measure=>simp [intOf];omega
    | true =>
     have HTK2:=Lib.hid (show leL N (a.ed.take (k + 1)) = leL N (a.ed.take k) ++ [x] from by rw [HTK.out,if_pos rfl])
     have k5:=ke.below hA0 ke.lt
     clear hA0 hB0 HI5 HKE HBX HD1 ke HTK
     go_upto_region 9 with fail
     refine wp_region_U (fun W=>W.cell? ⟨bx,0,none⟩ = some (.int .i64 x.f)∧W.cell? ⟨bx,1,none⟩ = some (.int .i64 x.e)∧W.cell? ⟨bx,2,none⟩ = some (.int .i64 x.t)) (fun W=>W.cell? ⟨tb,x.f.toNat,none⟩ = some (hvl (g x.f))) 12 (by kernel_rfl) ?_
     change anyU _ _ _ _ _ _ _ 13 _ _ _
     have HI6:=Lib.hid (HI6.out.quiet (below_dr wd))
     have k6:=k5.below (below_dr wd) k5.lt
     clear k5
     generalize wd.drew = wd at HI6 k6 ⊢
     have hA0:wd.cell? ⟨bx,0,none⟩ = some (.int .i64 x.f)∧wd.cell? ⟨bx,1,none⟩ = some (.int .i64 x.e)∧wd.cell? ⟨bx,2,none⟩ = some (.int .i64 x.t):=⟨k6.cell (j:=0) rfl,k6.cell (j:=1) rfl,k6.cell (j:=2) rfl⟩
     have hB0:=HI6.out.cell f0 f1
     (refine uA 0 ?_ rfl hA0 hB0 (fun W hA=>?_) ?_;rotate_left;(· (go_simp;try with_reducible rfl));refine uA 1 ?_ rfl hA0 hB0 (fun W hA=>?_) ?_;rotate_left;(· (go_simp;try with_reducible rfl));(try simp only [Act.put,List.setIfInBounds_toArray,List.set_cons_zero,List.set_cons_succ]))
     (refine uA 2 ?_ rfl hA0 hB0 (fun W hA=>?_) ?_;rotate_left;(· (obtain ⟨a0,a1,a2⟩:=hA;go_simp;try with_reducible rfl));(try simp only [Act.put,List.setIfInBounds_toArray,List.set_cons_zero,List.set_cons_succ]))
     (refine uA 3 ?_ rfl hA0 hB0 (fun W hA=>?_) ?_;rotate_left;(· (go_simp;try with_reducible rfl));refine uA 4 ?_ rfl hA0 hB0 (fun W hA=>?_) ?_;rotate_left;(· (go_simp;try with_reducible rfl));(try simp only [Act.put,List.setIfInBounds_toArray,List.set_cons_zero,List.set_cons_succ]))
     (refine uA 5 ?_ rfl hA0 hB0 (fun W hA=>?_) ?_;rotate_left;(· (obtain ⟨a0,a1,a2⟩:=hA;go_simp;try with_reducible rfl));(try simp only [Act.put,List.setIfInBounds_toArray,List.set_cons_zero,List.set_cons_succ]))
     (refine uA 6 ?_ rfl hA0 hB0 (fun W hA=>?_) ?_;rotate_left;(· (go_simp;try with_reducible rfl));(try simp only [Act.put,List.setIfInBounds_toArray,List.set_cons_zero,List.set_cons_succ]))
     (refine uB 7 ?_ rfl hA0 hB0 (fun W hA hB=>?_) ?_;rotate_left;(· (go_simp;try with_reducible rfl));(try simp only [Act.put,List.setIfInBounds_toArray,List.set_cons_zero,List.set_cons_succ]))
     (refine uA 8 ?_ rfl hA0 hB0 (fun W hA=>?_) ?_;rotate_left;(· (obtain ⟨a0,a1,a2⟩:=hA;go_simp;try with_reducible rfl));(try simp only [Act.put,List.setIfInBounds_toArray,List.set_cons_zero,List.set_cons_succ]))
     refine uOne (i:=9) rfl (by kernel_rfl) (fun K hK=>?_)
     go_simp
     have hbx7:=box_below wd (.cells #[.int .i64 x.f,.int .i64 x.e,.int .i64 x.t] 67)
     have HI7:=Lib.hid (HI6.out.quiet hbx7)
     have k7:=k6.below hbx7 k6.lt
     have kn:Blk (wd.alloc (.cells #[.int .i64 x.f,.int .i64 x.e,.int .i64 x.t] 67)) wd.heap.size 67 [.int .i64 x.f,.int .i64 x.e,.int .i64 x.t]:=Blk.new _ _ [_,_,_]
     clear hbx7 k6 HI6 hA0 hB0
     generalize wd.heap.size = qb at kn ⊢
     generalize wd.alloc (.cells #[.int .i64 x.f,.int .i64 x.e,.int .i64 x.t] 67) = w9 at HI7 k7 kn ⊢
     have hA0:w9.cell? ⟨bx,0,none⟩ = some (.int .i64 x.f)∧w9.cell? ⟨bx,1,none⟩ = some (.int .i64 x.e)∧w9.cell? ⟨bx,2,none⟩ = some (.int .i64 x.t):=⟨k7.cell (j:=0) rfl,k7.cell (j:=1) rfl,k7.cell (j:=2) rfl⟩
     have hB0:=HI7.out.cell f0 f1
     (refine hK _ _ ⟨hA0,fun _=>hB0⟩ ?_;clear hK K;(try simp only [Act.put,List.setIfInBounds_toArray,List.set_cons_zero,List.set_cons_succ]))
     refine uOne (i:=10) rfl (by kernel_rfl) (fun K hK=>?_)
     obtain ⟨i0,hi0,hz0,hz1,hz2⟩:=info_parts edge_info
     refine step_append_lies w9 rfl (.tmp 69) (.tmp 71) 30 rfl tb 67 i0 (.agg #[.int .i64 0,.int .i64 0,.int .i64 0]) 3 24 Try.underlying30 hi0 hz0 hz1 hz2 rfl (by decide) (hvl (g x.f)) _ _ rfl (HI7.out.row x.f) ⟨qb,0,none⟩ 1 1 [.int .i64 x.f,.int .i64 x.e,.int .i64 x.t] rfl rfl (fun j u hu=>by rw [add_lit0];exact kn.cell hu) (fun u hu=>by simp at hu;rcases hu with rfl | rfl | rfl <;> rfl) (by decide) (by unfold maxLen;omega) (by omega) HI7.out.siz _ rfl ?_
     intro gb c8 w10 ho8 hg8 hgb8 _
     have k8:=k7.kept hg8 (fun e=>absurd (HNB.out bx e.symm) (Nat.lt_irrefl _))
     obtain ⟨p1,p2⟩:=HI7.out.step f0 f1 ho8 hg8 (hgb8.imp id (fun e=>by omega))
     rw [← HTK2.out] at p1
     have k9:=k8.kept (grown_setCell w10 tb x.f.toNat (.slice (some ⟨gb,0,none⟩) ((fromL (leL N (a.ed.take k)) x.f).length + 1) c8)) (fun e=>HLO.out (by injection e with e;exact e.symm))
     have HI9:=Lib.hid p1
     clear hA0 hB0
     have hA0:w10.cell? ⟨bx,0,none⟩ = some (.int .i64 x.f)∧w10.cell? ⟨bx,1,none⟩ = some (.int .i64 x.e)∧w10.cell? ⟨bx,2,none⟩ = some (.int .i64 x.t):=⟨k8.cell (j:=0) rfl,k8.cell (j:=1) rfl,k8.cell (j:=2) rfl⟩
     have hA9:=And.intro (k9.cell (j:=0) rfl) (And.intro (k9.cell (j:=1) rfl) (k9.cell (j:=2) rfl))
     have hB0:w10.cell? ⟨tb,x.f.toNat,none⟩ = some (hvl (g x.f)):=p2.cell (by
      rw [List.getElem?_map,List.getElem?_range (by omega)]
      show some (hvl (g ((x.f.toNat:Nat):Int))) = _
      rw [show ((x.f.toNat:Nat):Int) = x.f by omega])
     have g2:w10.frozen? ⟨tb,x.f.toNat,none⟩ = false:=p2.free _
     have g3:tb < w10.heap.size:=p2.lt
     clear ho8 hg8 hgb8 k7 kn HI7 p1 p2 k8 k9
     (refine hK _ _ ⟨hA0,fun _=>hB0⟩ ?_;clear hK K;(try simp only [Act.put,List.setIfInBounds_toArray,List.set_cons_zero,List.set_cons_succ]))
     refine uOne (i:=11) rfl (by kernel_rfl) (fun K hK=>?_)
     go_simp
     (refine hK _ _ ⟨hA0,fun _=>hB0⟩ ?_;clear hK K;(try simp only [Act.put,List.setIfInBounds_toArray,List.set_cons_zero,List.set_cons_succ]))
     refine uOne (i:=12) rfl (by kernel_rfl) (fun K hK=>?_)
     go_simp
     (refine hK _ _ ⟨hA9,fun h=>absurd (h.symm.trans (by kernel_rfl:_ = true)) Bool.false_ne_true⟩ ?_;clear hK K;(try simp only [Act.put,List.setIfInBounds_toArray,List.set_cons_zero,List.set_cons_succ]))
     refine anyU_done (by kernel_rfl) ?_ _
     clear hA0 hA9 hB0 g2 g3
     generalize w10.setCell ⟨tb,x.f.toNat,none⟩ (.slice (some ⟨gb,0,none⟩) ((fromL (leL N (a.ed.take k)) x.f).length + 1) c8) = w11 at HI9 ⊢
     go_wp2
     go_roundw
     case rel=>exact ⟨k + 1,_,_,rfl,by go_num,by omega,HI9⟩
     case measure=>simp [intOf];omega
   obtain rfl:k = ne:=by omega
   have b1:¬ (k:Int) < (k:Int):=by omega
   rw [List.take_of_length_le (by rw [HLE.out];exact Nat.le_refl _)] at HI
   have HBT:=Lib.hid (HB6b.out wa HI.out.bel)
   have HKT:=Lib.hid (HKA.out.below HI.out.bel (by rw [← HTB.out];exact HKA.out.lt))
   have HOT:=Lib.hid (own_below HOA.out (by rw [HTB.out];exact HI.out.bel))
   have HTT:=Lib.hid (fun (W:World) (hg:wa.grownBy W (some ab)) (t:Int) (h0:0 ≤ t) (h1:t < (n:Int))=>(show W.cell? ⟨tb,t.toNat,none⟩ = some (hvl (g t))∧∀ (RA:Option Addr) (m c:Nat),hvl (g t) = .slice RA m c → m = (fromL (leL N a.ed) t).length∧RdX W W.heap.size RA (fromL (leL N a.ed) t) from by
    refine ⟨(HI.out.tab.kept hg (fun e=>by injection e with e;exact blk_apart HI.out.tab HKT.out (by decide) e)).cell (by
     rw [List.getElem?_map,List.getElem?_range (by omega)]
     show some (hvl (g ((t.toNat:Nat):Int))) = _
     rw [show ((t.toNat:Nat):Int) = t by omega]),fun RA m c e=>?_⟩
    have hr:=(HI.out.row t).kept hg (own_ne_blk (HI.out.row t) HKT.out (by decide))
    rw [e] at hr
    obtain ⟨A',c',e'⟩:=own_shape hr
    injection e' with e1 e2 e3
    rw [e2] at hr
    exact ⟨e2,RdR.of_own (by omega) (fun _ _=>rfl) hr⟩))
   have HAW:=Lib.hid (show w.heap.size ≤ ab from Nat.le_trans (Nat.le_of_lt HS1.out) HAB.out)
   have hmm:=@run_makeMap Try.prog
   have HT0:=Lib.hid (TabI.made wa Try.prog 3 3 (Value.int .i64))
   have HKZ0:=Lib.hid (intKey 0 (by decide))
   have HKRT:=Lib.hid (HKR.out wa (HB6.out.trans (Below.mono (by rw [HTB.out];exact HI.out.bel) HB6.out.size)))
   clear HI HB6b HKA HOA HB6
   go_upto_region 12 with (first
    | (refine wpList_tab_insert (by rfl) (.tmp 75) (.const (.int .i64 0)) (.const (.int .i64 0)) 178 (by rfl) intLaw Try.underlying178 Try.underlying3 (by rfl) HT0.out (by omega) 0 (by rfl) HKZ0.out 0 (by rfl) (by decide) (numI [0]) (numI_new (ts:=[]) (t:=0) (by simp [idx])) (fun d hd=>(numI_old (ts:=[]) (t:=0) d hd).trans (by simp [numI,idx])) ?_;intro w8 hT8 hg8;have HT8:=Lib.hid hT8;have HG8:=Lib.hid hg8;clear hT8 hg8)
    | fail)
   clear hmm HT0 HKZ0
   go_upto_region 13 with fail
   have HS0:=Lib.hid (SvM.start HBT.out HKT.out HAW.out HT8.out HG8.out)
   generalize w8.heap.size = bo at HS0 ⊢
   generalize w8.alloc (.cells #[.int .i64 0] 3) = w9 at HS0 ⊢
   have HKR2:=Lib.hid (show ∀ s ∈ onF N,0 ≤ s∧s < a.st from fun s hs=>by have h1:=(onF_mem.1 hs).1;rw [HNL.out] at h1;have:=HST.out;omega)
   obtain ⟨S0,hS0,_,hRES⟩:=rs_run (a:=a) (K:=onF N) HWF.out HQ0.out HKR2.out
   have HRES:=Lib.hid hRES
   have HW0:=Lib.hid (RsW.start hn1)
   have HI0:=Lib.hid (show BInv 4096 (stA (kpA a (onF N))) a.al 0 0 ⟨[0],[]⟩ from BInv.begin (by omega))
   have HR0:=Lib.hid (show bsR 4096 (stA (kpA a (onF N))) a.al (4097 - 0) 0 ⟨[0],[]⟩ = some S0 from hS0)
   have HRR:=Lib.hid (fun (i:Nat) (s:Bs Int) (t:Int) (h:BInv 4096 (stA (kpA a (onF N))) a.al 0 i s) (ht:s.ts[i]? = some t)=>rs_round (a:=a) (K:=onF N) HWF.out HQ0.out HKR2.out h ht)
   clear hS0 hRES HT8 HG8
   go_wp2
   go_loopw [9,10,12,13,14] (fun s9 s10 s12 s13 s14 wr=>∃ (i q:Nat) (OA:Option Addr) (oc:Nat) (v12 v13 v14 Mv Ev:Value) (s:Bs Int),s9 = .slice OA q oc∧s10 = .int .i64 i∧s12 = v12∧s13 = v13∧s14 = v14∧i ≤ q∧q ≤ n∧Hid (s.ts.length = q)∧Hid (SvM w wa wr ab VA na vc wa.heap.size q (.slice OA q oc) Mv Ev s (mksN (mkA (kpA a (onF N))) s.ts i))∧Hid (RsW n i 0 s)∧Hid (BInv 4096 (stA (kpA a (onF N))) a.al 0 i s)∧Hid (bsR 4096 (stA (kpA a (onF N))) a.al (4097 - i) i s = some S0)) (fun _ s10 _ _ _ _=>4097 - (intOf s10).toNat)
   case atStart=>exact ⟨0,1,_,1,_,_,_,_,_,⟨[0],[]⟩,rfl,rfl,rfl,rfl,rfl,Nat.zero_le _,hn1,Lib.hid rfl,HS0,HW0,HI0,HR0⟩
   case round =>
    clear HS0 HW0 HI0 HR0
    obtain ⟨i,q,OA,oc,v12,v13,v14,Mv,Ev,s,rfl,rfl,rfl,rfl,rfl,hi,hqn,HL,HM,HSW,HBI,HBR⟩:=hrel
    obtain ⟨wb,rfl⟩:∃ z,z = wr:=⟨_,rfl⟩
    by_cases hlt:i < q
    case neg =>
     obtain rfl:i = q:=by omega
     have b2:¬ (i:Int) < (i:Int):=by omega
     have HFIN:=Lib.hid (show S0 = s from by
      have h:=HBR.out
      rw [bsR_end (by have:=HL.out;omega)] at h
      injection h with h
      exact h.symm)
     obtain ⟨mk,hmk⟩:∃ mk,mksN (mkA (kpA a (onF N))) s.ts i = mk:=⟨_,rfl⟩
     rw [hmk] at HM
     have HMK:=Lib.hid hmk
     obtain ⟨MA,mc,rfl⟩:=own_shape HM.out.mrk
     obtain ⟨EA,ec,rfl⟩:=own_shape HM.out.edg
     obtain ⟨km,hkm⟩:∃ k,mk.length = k:=⟨_,rfl⟩
     obtain ⟨ke,hke⟩:∃ k,s.es.length = k:=⟨_,rfl⟩
     have HKM:=Lib.hid (And.intro hkm hke)
     have hka:=HM.out.ka
     rw [hkm,hke] at hka
     have e1:=hka.cell (j:=1) rfl
     have f1:=hka.free 1
     have l1:=hka.lt
     have hgs:=grown_setCell wb ab 1 (.int .i64 (i:Int))
     have hor:∀ {e:TypeId} {sz m:Nat} {v:Value} {xs:List Value},wb.ownsRow wa.heap.size e sz v m xs → 32 ≠ e → (wb.setCell ⟨ab,1,none⟩ (.int .i64 (i:Int))).ownsRow wa.heap.size e sz v m xs:=fun ho he=>ho.kept hgs (own_ne_blk ho hka (Ne.symm he))
     have hmr:=hor HM.out.mrk (by decide)
     have her:=hor HM.out.edg (by decide)
     rw [hkm] at hmr
     rw [hke] at her
     have HMR:=Lib.hid hmr
     have HEW:=Lib.hid her
     have HVR:=Lib.hid (show (wb.setCell ⟨ab,1,none⟩ (.int .i64 (i:Int))).ownsRow w1.heap.size 3 1 (.slice VA na vc) na (iv a.al) from by
      have h1:=HOT.out.kept HM.out.gr (own_ne_blk HOT.out HKT.out (by decide))
      exact h1.kept hgs (own_ne_blk h1 hka (by decide)))
     have HKA9:=Lib.hid (hka.set (j:=1) (by simp) (.int .i64 (i:Int)))
     have HKR9:=Lib.hid (show Blk (wb.setCell ⟨ab,1,none⟩ (.int .i64 (i:Int))) w.heap.size 32 [.slice none 0 0,.int .i64 0,.slice none 0 0,.slice none 0 0] from by
      have hne:w.heap.size ≠ ab:=by have h1:=HS1.out;have h2:=HAB.out;omega
      have h1:=HKRT.out.kept HM.out.gr (fun e=>hne (by injection e))
      exact h1.kept hgs (fun e=>hne (by injection e)))
     have HB9:=Lib.hid (HM.out.bel.setCell (p:=⟨ab,1,none⟩) HAW.out (.int .i64 (i:Int)))
     clear hmk hkm hke hka hgs hor hmr her
     go_upto_region 29 with fail
     clear e1 f1 l1
     generalize wb.setCell ⟨ab,1,none⟩ (.int .i64 (i:Int)) = wz at HMR HEW HVR HKA9 HKR9 HB9 ⊢
     have kR9:=HKR9.out
     have kA9:=HKA9.out
     have hB9:=HB9.out
     have f0:=kR9.free 0
     have f1:=kR9.free 1
     have f2:=kR9.free 2
     have f3:=kR9.free 3
     have e0:=kR9.cell (j:=0) rfl
     have e1:=kR9.cell (j:=1) rfl
     have e2:=kR9.cell (j:=2) rfl
     have e3:=kR9.cell (j:=3) rfl
     have l9:=kR9.lt
     have o0:=kA9.cell (j:=0) rfl
     have o1:=kA9.cell (j:=1) rfl
     have o2:=kA9.cell (j:=2) rfl
     have o3:=kA9.cell (j:=3) rfl
     go_wp2
     have hb4:=(((kR9.set (j:=0) (by simp) (.slice VA na vc)).set (j:=1) (by simp) (.int .i64 (i:Int))).set (j:=2) (by simp) (.slice MA km mc)).set (j:=3) (by simp) (.slice EA ke ec)
     have z0:=hb4.cell (j:=0) rfl
     have z1:=hb4.cell (j:=1) rfl
     have z2:=hb4.cell (j:=2) rfl
     have z3:=hb4.cell (j:=3) rfl
     have hq:∀ k:Nat,w.heap.size ≤ (⟨w.heap.size,k,none⟩:Addr).block:=fun k=>Nat.le_refl _
     have F:=(((hB9.setCell (p:=⟨w.heap.size,0,none⟩) (hq 0) (.slice VA na vc)).setCell (p:=⟨w.heap.size,1,none⟩) (hq 1) (.int .i64 (i:Int))).setCell (p:=⟨w.heap.size,2,none⟩) (hq 2) (.slice MA km mc)).setCell (p:=⟨w.heap.size,3,none⟩) (hq 3) (.slice EA ke ec)
     refine bodyPost_ret (v:=.tuple #[.agg #[.slice VA na vc,.int .i64 (i:Int),(.slice MA km mc),(.slice EA ke ec)],(.slice OA i oc)]) (by simp [results,Try.results96,go_sem,z0,z1,z2,z3]) rfl ?_
     have hg:=(((grown_setCell wz w.heap.size 0 (.slice VA na vc)).trans (grown_setCell _ _ 1 (.int .i64 (i:Int)))).trans (grown_setCell _ _ 2 (.slice MA km mc))).trans (grown_setCell _ _ 3 (.slice EA ke ec))
     have hsz1:=HS1.out
     have hszt:w.heap.size < wa.heap.size:=HKRT.out.lt
     refine ⟨⟨VA,na,vc,MA,km,mc,EA,ke,ec,⟨a.al,(i:Int),mk,s.es⟩⟩,OA,i,oc,rfl,⟨QRow.of_own (own_base (own_kept_low HVR.out hg hsz1) (Nat.le_of_lt hsz1)),QRow.of_own (own_base (own_kept_low HMR.out hg hszt) (Nat.le_of_lt hszt)),HKM.out.2,own_base (own_kept_low HEW.out hg hszt) (Nat.le_of_lt hszt)⟩,?_,F⟩
     rw [HRES.out,HFIN.out]
     unfold autOf
     rw [HL.out,HMK.out]
    obtain ⟨t,ht⟩:∃ t,s.ts[i]? = some t:=⟨_,List.getElem?_eq_getElem (by have:=HL.out;omega)⟩
    obtain ⟨oa,oc',hoe,hob,ho2⟩:=RdI.own_at' HL.out (by have h:=HM.out.ord;rw [HL.out] at h;exact h) ht
    injection hoe with h1 h2 h3
    subst h1
    clear h2 h3
    have hrg:=HSW.out.rng t (List.mem_of_getElem? ht)
    have b2:(i:Int) < (q:Int):=by omega
    have t1:¬ t < 0:=by omega
    have t2:t < (n:Int):=hrg.2
    obtain ⟨hBI2,htK,hbf⟩:=HRR.out i s _ HBI.out ht
    have HBI2:=Lib.hid hBI2
    have HBR2:=Lib.hid (show bsR 4096 (stA (kpA a (onF N))) a.al (4097 - (i + 1)) (i + 1) ((outE a t).foldl (rsE (onF N) i) s) = some S0 from by
     have h:=HBR.out
     rw [show 4097 - i = (4097 - (i + 1)) + 1 by omega,bsR_go ht hbf] at h
     exact h)
    obtain ⟨mq,hmq⟩:∃ z,hasB a.ma t = z:=⟨_,rfl⟩
    have HMQ:=Lib.hid hmq
    have HMK:=Lib.hid (show ∀ ts2:List Int,s.ts <+: ts2 → mksN (mkA (kpA a (onF N))) ts2 (i + 1) = mksN (mkA (kpA a (onF N))) s.ts i ++ (if mq = true then [(i:Int)] else []) from fun ts2 hp=>by
     have e:mkA (kpA a (onF N)) t = mq:=by
      rw [← hmq,Bool.eq_iff_iff]
      unfold mkA kpA
      rw [hasB_mem,hasB_mem,List.mem_filter]
      exact ⟨fun h=>h.1,fun h=>⟨h,hasB_mem.2 htK⟩⟩
     rw [mksN_pre hp (i:=i + 1) (by have:=HL.out;omega),mksN,ht]
     show mksN _ s.ts i ++ (if mkA (kpA a (onF N)) t = true then _ else _) = _
     rw [e])
    obtain ⟨hct,hrt⟩:=HTT.out wb HM.out.gr t hrg.1 hrg.2
    obtain ⟨RA,nl,rc,hRA⟩:∃ RA nl rc,hvl (g t) = .slice RA nl rc:=by
     cases hgt:g t with
     | none=>exact ⟨_,_,_,rfl⟩
     | some z=>exact ⟨_,_,_,rfl⟩
    rw [hRA] at hct
    obtain ⟨hnl,_⟩:=hrt RA nl rc hRA
    have HRX:=Lib.hid (fun (W:World) (hg:wa.grownBy W (some ab))=>((HTT.out W hg t hrg.1 hrg.2).2 RA nl rc hRA).2)
    rw [leL_from] at hnl HRX
    have HNLL:=Lib.hid hnl
    have hnl32:nl ≤ 32:=by
     rw [hnl]
     exact Nat.le_trans (List.length_filter_le _ _) (out_len HWF.out t)
    have HT:=Lib.hid ht
    have HPRE:=Lib.hid (List.prefix_refl s.ts)
    have HF0:=Lib.hid (show ((((outE a t).filter fun x=>fl N x.t).take 0).foldl (rsE (onF N) i) s) = s from rfl)
    have HTR:=Lib.hid hrg
    clear hBI2 hbf htK hmq hrt hRA hnl hob hrg ht
    go_upto_region 17 with fail
    clear ho2 hct
    go_loopw [9,12,13,14,92] (fun s9 s12 s13 s14 s92 wr=>∃ (e q2:Nat) (OA2:Option Addr) (oc2:Nat) (v12 v13 v14 Ev2:Value) (s2:Bs Int),s9 = .slice OA2 q2 oc2∧s12 = v12∧s13 = v13∧s14 = v14∧s92 = .int .i64 e∧e ≤ nl∧q2 ≤ n∧Hid (s2.ts.length = q2)∧Hid (SvM w wa wr ab VA na vc wa.heap.size q2 (.slice OA2 q2 oc2) Mv Ev2 s2 (mksN (mkA (kpA a (onF N))) s.ts i))∧Hid (RsW n i e s2)∧Hid ((((outE a t).filter fun x=>fl N x.t).take e).foldl (rsE (onF N) i) s = s2)∧Hid (s.ts <+: s2.ts)) (fun _ _ _ _ s92 _=>nl - (intOf s92).toNat)
    case atStart=>exact ⟨0,q,some oa,oc,_,_,_,_,s,rfl,rfl,rfl,rfl,rfl,Nat.zero_le _,hqn,HL,HM,HSW,HF0,HPRE⟩
    case round =>
     clear HM HL HSW HF0 HPRE
     obtain ⟨e,q2,OA2,oc2,v12,v13,v14,Ev2,s2,rfl,rfl,rfl,rfl,rfl,he,hq2,HL2,HM,HSW,HF,HPRE⟩:=hrel
     obtain ⟨we,rfl⟩:∃ z,z = wr:=⟨_,rfl⟩
     by_cases hle:e < nl
     case neg =>
      obtain rfl:e = nl:=by omega
      have b3:¬ (e:Int) < (e:Int):=by omega
      have hS2F:s2 = (outE a t).foldl (rsE (onF N) i) s:=by
       have h:=HF.out
       rw [List.take_of_length_le (by rw [← HNLL.out];exact Nat.le_refl _),row_left] at h
       exact h.symm
      have HBI3:=Lib.hid (show BInv 4096 (stA (kpA a (onF N))) a.al 0 (i + 1) s2 from by rw [hS2F];exact HBI2.out)
      have HBR3:=Lib.hid (show bsR 4096 (stA (kpA a (onF N))) a.al (4097 - (i + 1)) (i + 1) s2 = some S0 from by rw [hS2F];exact HBR2.out)
      have HSW3:=Lib.hid (HSW.out.next hnl32)
      have HMK3:=Lib.hid (HMK.out s2.ts HPRE.out)
      have ht2:s2.ts[i]? = some t:=by
       obtain ⟨r,hr⟩:=HPRE.out
       rw [← hr,List.getElem?_append_left (List.getElem?_eq_some_iff.1 HT.out).1]
       exact HT.out
      have hiq2:i < q2:=by
       have h:=(List.getElem?_eq_some_iff.1 ht2).1
       rw [HL2.out] at h
       exact h
      obtain ⟨oa2,oc',hoe,hob,ho2⟩:=RdI.own_at' HL2.out (by have h:=HM.out.ord;rw [HL2.out] at h;exact h) ht2
      injection hoe with h1 h2 h3
      subst h1
      clear h2 h3 hob
      have b4:(i:Int) < (q2:Int):=by omega
      have HOC:=Lib.hid (fun (W:World) (hb:Below we.heap.size we W)=>(hb.cell (World.block_lt_of_cell? _ _ ho2)).trans ho2)
      have HPM:=Lib.hid (fun (W:World) (hb:Below we.heap.size we W)=>(HKP.out W (HM.out.bel.trans (hb.mono HM.out.bel.size))).cell (j:=2) rfl)
      have HCC:=Lib.hid (fun (W:World) (hb:Below we.heap.size we W)=>slices_Contains M cm nm a.ma t mq W HMM.out.1 HMQ.out (HX.out W (HM.out.bel.trans (hb.mono HM.out.bel.size))).rm HMM.out.2.1 HMM.out.2.2)
      clear ho2 hS2F ht2 HF HSW
      go_upto_region 26 with fail
      refine wp_region_U (fun W=>Below we.heap.size we W) (fun _=>True) 99 (by kernel_rfl) ?_
      change anyU _ _ _ _ _ _ _ 10 _ _ _
      have hB0:True:=trivial
      have hA0:=below_dr we
      have HMZ:=Lib.hid (HM.out.quiet hA0)
      generalize we.drew = wz at hA0 HMZ ⊢
      (refine uA 0 ?_ rfl hA0 hB0 (fun W hA=>?_) ?_;rotate_left;(· (go_simp;try with_reducible rfl));refine uA 1 ?_ rfl hA0 hB0 (fun W hA=>?_) ?_;rotate_left;(· (go_simp;try with_reducible rfl));refine uA 2 ?_ rfl hA0 hB0 (fun W hA=>?_) ?_;rotate_left;(· (go_simp;try with_reducible rfl));(try simp only [Act.put,List.setIfInBounds_toArray,List.set_cons_zero,List.set_cons_succ]))
      (refine uA 3 ?_ rfl hA0 hB0 (fun W hA=>?_) ?_;rotate_left;(· (go_simp;try with_reducible rfl));(try simp only [Act.put,List.setIfInBounds_toArray,List.set_cons_zero,List.set_cons_succ]))
      (refine uA 4 ?_ rfl hA0 hB0 (fun W hA=>?_) ?_;rotate_left;(· (have a0:=HPM.out W hA;go_simp;try with_reducible rfl));(try simp only [Act.put,List.setIfInBounds_toArray,List.set_cons_zero,List.set_cons_succ]))
      (refine uA 5 ?_ rfl hA0 hB0 (fun W hA=>?_) ?_;rotate_left;(· (go_simp;try with_reducible rfl));refine uA 6 ?_ rfl hA0 hB0 (fun W hA=>?_) ?_;rotate_left;(· (go_simp;try with_reducible rfl));refine uA 7 ?_ rfl hA0 hB0 (fun W hA=>?_) ?_;rotate_left;(· (go_simp;try with_reducible rfl));(try simp only [Act.put,List.setIfInBounds_toArray,List.set_cons_zero,List.set_cons_succ]))
      (refine uA 8 ?_ rfl hA0 hB0 (fun W hA=>?_) ?_;rotate_left;(· (have a0:=HOC.out W hA;go_simp;try with_reducible rfl));(try simp only [Act.put,List.setIfInBounds_toArray,List.set_cons_zero,List.set_cons_succ]))
      refine uOne (i:=9) rfl (by kernel_rfl) (fun K hK=>?_)
      go_simp
      go_at_call 114
      refine (HCC.out wz hA0).mono ?_
      rintro e w9 ⟨rfl,rfl⟩
      go_simp
      (refine hK _ _ ⟨hA0,fun _=>hB0⟩ ?_;clear hK K;(try simp only [Act.put,List.setIfInBounds_toArray,List.set_cons_zero,List.set_cons_succ]))
      refine anyU_done (by kernel_rfl) ?_ _
      clear hA0 hB0 HOC HPM HCC HM
      cases mq with
      | false =>
       have HM9:=Lib.hid (show SvM w wa wz ab VA na vc wa.heap.size q2 (.slice (some oa2) q2 oc2) Mv Ev2 s2 (mksN (mkA (kpA a (onF N))) s2.ts (i + 1)) from by rw [HMK3.out,if_neg (by simp),List.append_nil];exact HMZ.out)
       go_wp2
       go_roundw
       case rel=>exact ⟨i + 1,q2,some oa2,oc2,_,_,_,Mv,Ev2,s2,rfl,by go_num,rfl,rfl,rfl,by omega,hq2,HL2,HM9,HSW3,HBI3,HBR3⟩
       case measure=>simp [intOf];omega
      | true =>
       obtain ⟨mk,hmk⟩:∃ mk,mksN (mkA (kpA a (onF N))) s.ts i = mk:=⟨_,rfl⟩
       have hml:mk.length ≤ 4096:=by rw [← hmk];exact Nat.le_trans (mksN_len _ _ _) (by omega)
       rw [hmk] at HMZ HMK3
       clear hmk
       obtain ⟨MA,mc,rfl⟩:=own_shape HMZ.out.mrk
       have z2:=HMZ.out.ka.cell (j:=2) rfl
       have hsz:=HMZ.out.siz
       have HP9:=Lib.hid (fun (W8:World) (MA8:Option Addr) (mc8:Nat) (ho:W8.ownsRow wa.heap.size 3 1 (.slice MA8 (mk.length + 1) mc8) (mk.length + 1) (iv mk ++ [.int .i64 (i:Int)])) (hg8:wz.grownBy W8 (Value.slice MA mk.length mc).ownBlock) (hv:(Value.slice MA8 (mk.length + 1) mc8).ownBlock = (Value.slice MA mk.length mc).ownBlock ∨ ∃ g,(Value.slice MA8 (mk.length + 1) mc8).ownBlock = some g∧wz.heap.size ≤ g)=>HMZ.out.mark (y:=(i:Int)) ho hg8 hv)
       go_wp2_with (first
        | (at_builtin;refine wpList_pushA wz [.int .i64 (i:Int)] (by rfl) (.tmp 138) (.tmp 140) 29 (by rfl) wa.heap.size 3 (.int .i64 0) 1 8 Try.underlying29 int_info (by rfl) (by decide) (by rfl) (.slice MA mk.length mc) mk.length _ (by rfl) HMZ.out.mrk (by rfl) (fun z hz=>by simp at hz;subst hz;rfl) (by omega) (by omega) hsz ?_;intro A8 c8 w8 ho8 hg8 hl8;obtain ⟨hM8,kA8⟩:=HP9.out w8 A8 c8 ho8 hg8 hl8;have HM8:=Lib.hid hM8;have e8:=kA8.cell (j:=2) rfl;have f8:=kA8.free 2;have l8:=kA8.lt;clear ho8 hg8 hl8 hM8 kA8)
        | fail)
       have HM9:=Lib.hid (show SvM w wa (w8.setCell ⟨ab,2,none⟩ (.slice A8 (mk.length + 1) c8)) ab VA na vc wa.heap.size q2 (.slice (some oa2) q2 oc2) (.slice A8 (mk.length + 1) c8) Ev2 s2 (mksN (mkA (kpA a (onF N))) s2.ts (i + 1)) from by rw [HMK3.out,if_pos rfl];exact HM8.out)
       go_roundw
       case rel=>exact ⟨i + 1,q2,some oa2,oc2,_,_,_,_,Ev2,s2,rfl,by go_num,rfl,rfl,rfl,by omega,hq2,HL2,HM9,HSW3,HBI3,HBR3⟩
       case measure=>simp [intOf];omega
     obtain ⟨ad,x,rfl,hab,hx,g0,g1,g2⟩:=(HRX.out we HM.out.gr).at_ (k:=e) (by rw [← HNLL.out];exact hle)
     have r1:we.cell? ⟨(ad.add (e * 3)).block,(ad.add (e * 3)).off + 1,none⟩ = some (.int .i64 x.e):=st_cells (j:=0) g1
     have r2:we.cell? ⟨(ad.add (e * 3)).block,(ad.add (e * 3)).off + 2,none⟩ = some (.int .i64 x.t):=st_cells (j:=1) g2
     have b3:(e:Int) < (nl:Int):=by omega
     have hxm:=List.mem_filter.1 (List.mem_of_getElem? hx)
     obtain ⟨⟨f0,f1⟩,⟨t0,t3⟩,x0,x1⟩:=HER.out x (outE_mem.1 hxm.1).1
     have hxk:hasB (onF N) x.t = true:=by rw [hasB_onF t0 (by rw [HNL.out];exact t3)];simpa using hxm.2
     have HXK:=Lib.hid hxk
     have HFS:=Lib.hid (show ((((outE a t).filter fun x=>fl N x.t).take (e + 1)).foldl (rsE (onF N) i) s) = rsE (onF N) i s2 x from by rw [take_snoc' hx,List.foldl_append,HF.out];rfl)
     have HSN:=Lib.hid (HSW.out.step (K:=onF N) (x:=x) t0 t3)
     have HKY:=Lib.hid (intKey x.t (WalkArith.wf_i64 (by omega)))
     have hbx:=box_below we (.cells #[.int .i64 x.f,.int .i64 x.e,.int .i64 x.t] 67)
     have ke:Blk (we.alloc (.cells #[.int .i64 x.f,.int .i64 x.e,.int .i64 x.t] 67)) we.heap.size 67 [.int .i64 x.f,.int .i64 x.e,.int .i64 x.t]:=Blk.new _ _ [_,_,_]
     have HM5:=Lib.hid (HM.out.quiet hbx)
     have HNX:=Lib.hid (show wa.heap.size < we.heap.size from HM.out.num.lt)
     have hes:s2.es.length ≤ 200000:=by have:=HSW.out.es;omega
     clear hx hab hxm hxk hbx HM HF
     go_upto_region 19 with fail
     clear g0 g1 g2 r1 r2
     generalize we.heap.size = bx at ke HNX ⊢
     generalize we.alloc (.cells #[.int .i64 x.f,.int .i64 x.e,.int .i64 x.t] 67) = w5 at ke HM5 ⊢
     have HKE:=Lib.hid ke
     have c0:=ke.cell (j:=0) rfl
     have c1:=ke.cell (j:=1) rfl
     have c2:=ke.cell (j:=2) rfl
     clear ke
     by_cases hix:idx s2.ts x.t < 0
     case neg =>
      have HXE:=Lib.hid (rsE_old (i:=i) HXK.out hix)
      obtain ⟨iv0,hiv⟩:∃ z,idx s2.ts x.t = z:=⟨_,rfl⟩
      have HNU:=Lib.hid (show numI s2.ts x.t = some iv0 from by unfold numI;rw [if_neg hix,hiv])
      rw [hiv] at HXE
      have HF2:=Lib.hid (HFS.out.trans HXE.out)
      have HSN2:=Lib.hid (show RsW n i (e + 1) ⟨s2.ts,s2.es ++ [⟨(i:Int),x.e,iv0⟩]⟩ from by have h:=HSN.out;rw [HXE.out] at h;exact h)
      clear hix hiv
      go_upto_region 24 with (first
       | (at_lookup;refine wpList_tab_hit (by rfl) (.tmp 97) (.tmp 99) 178 (by rfl) intLaw Try.underlying178 Try.underlying3 (by rfl) (by rfl) HM5.out.num x.t (by rfl) HKY.out iv0 HNU.out ?_)
       | fail)
      obtain ⟨EA,ec,rfl⟩:=own_shape HM5.out.edg
      have z3:=HM5.out.ka.cell (j:=3) rfl
      have hsz:=HM5.out.siz
      have HP9:=Lib.hid (fun (W8:World) (EA8:Option Addr) (ec8:Nat) (ho:W8.ownsRow wa.heap.size 67 3 (.slice EA8 (s2.es.length + 1) ec8) (s2.es.length + 1) (s2.es.flatMap edc ++ [.int .i64 (i:Int),.int .i64 x.e,.int .i64 iv0])) (hg8:w5.grownBy W8 (Value.slice EA s2.es.length ec).ownBlock)=>HM5.out.edge (y:=⟨(i:Int),x.e,iv0⟩) ho hg8)
      go_wp2_with (first
       | (at_builtin;refine wpList_pushA w5 [.int .i64 (i:Int),.int .i64 x.e,.int .i64 iv0] (by rfl) (.tmp 117) (.tmp 123) 30 (by rfl) wa.heap.size 67 (.agg #[.int .i64 0,.int .i64 0,.int .i64 0]) 3 24 Try.underlying30 edge_info (by rfl) (by decide) (by rfl) (.slice EA s2.es.length ec) s2.es.length _ (by rfl) HM5.out.edg (by rfl) (fun z hz=>by simp at hz;rcases hz with rfl | rfl | rfl <;> rfl) (by omega) (by omega) hsz ?_;intro A8 c8 w8 ho8 hg8 _;obtain ⟨hM8,kA8⟩:=HP9.out w8 A8 c8 ho8 hg8;have HM8:=Lib.hid hM8;have e8:=kA8.cell (j:=3) rfl;have f8:=kA8.free 3;have l8:=kA8.lt;clear ho8 hg8 hM8 kA8)
       | fail)
      go_roundw
      case rel=>exact ⟨e + 1,q2,OA2,oc2,_,_,_,_,⟨s2.ts,s2.es ++ [⟨(i:Int),x.e,iv0⟩]⟩,rfl,rfl,rfl,rfl,by go_num,by omega,hq2,HL2,HM8,HSN2,HF2,HPRE⟩
      case measure=>simp [intOf];omega
     have HXE:=Lib.hid (rsE_new (i:=i) HXK.out hix)
     rw [HL2.out] at HXE
     have HNU:=Lib.hid (show numI s2.ts x.t = none from by unfold numI;rw [if_pos hix])
     have HF2:=Lib.hid (HFS.out.trans HXE.out)
     have HSN2:=Lib.hid (show RsW n i (e + 1) ⟨s2.ts ++ [x.t],s2.es ++ [⟨(i:Int),x.e,(q2:Int)⟩]⟩ from by have h:=HSN.out;rw [HXE.out] at h;exact h)
     have HIX:=Lib.hid hix
     have hq3:q2 + 1 ≤ n:=by
      have h:=HSN2.out.len
      rw [List.length_append,HL2.out] at h
      exact h
     have HL3:=Lib.hid (show (s2.ts ++ [x.t]).length = q2 + 1 from by rw [List.length_append,HL2.out];rfl)
     have HPR3:=Lib.hid (show s.ts <+: s2.ts ++ [x.t] from HPRE.out.trans (List.prefix_append _ _))
     clear hix
     go_upto_region 22 with (first
      | (at_lookup;refine wpList_tab_miss (by rfl) (.tmp 97) (.tmp 99) 178 (by rfl) intLaw Try.underlying178 Try.underlying3 (by rfl) (by rfl) HM5.out.num x.t (by rfl) HKY.out HNU.out ?_)
      | fail)
     go_upto_region 23 with (first
      | (at_mapUpdate;refine wpList_tab_put (by rfl) (.tmp 107) (.tmp 109) (.tmp 110) 178 (by rfl) intLaw Try.underlying178 Try.underlying3 (by rfl) HM5.out.num (by omega) x.t (by rfl) HKY.out (q2:Int) (by rfl) (WalkArith.wf_i64 (by omega)) (numI (s2.ts ++ [x.t])) (by rw [← HL2.out];exact numI_new HIX.out) numI_old ?_;intro w6 hT6 hg6;have HT6:=Lib.hid hT6;have HG6:=Lib.hid hg6;clear hT6 hg6)
      | fail)
     clear c0 c1 c2
     have k6:=HKE.out.kept HG6.out (fun e=>by injection e with e;have:=HNX.out;omega)
     have HK6:=Lib.hid k6
     have c2:=k6.cell (j:=2) rfl
     have hsz6:wa.heap.size ≤ w6.heap.size:=Nat.le_trans HM5.out.siz HG6.out.size
     have HO6:=Lib.hid (show w6.ownsRow wa.heap.size 3 1 (.slice OA2 q2 oc2) q2 (iv s2.ts) from by
      have h:=HM5.out.ord.kept HG6.out (.inr (fun e=>tab_ne_own' HM5.out.num HM5.out.ord e.symm))
      rw [HL2.out] at h
      exact h)
     clear k6
     go_upto_region 24 with (first
      | (at_builtin;refine wpList_pushA w6 [.int .i64 x.t] (by rfl) (.tmp 111) (.tmp 114) 29 (by rfl) wa.heap.size 3 (.int .i64 0) 1 8 Try.underlying29 int_info (by rfl) (by decide) (by rfl) (.slice OA2 q2 oc2) q2 _ (by rfl) HO6.out (by rfl) (fun z hz=>by simp at hz;subst hz;rfl) (by omega) (by omega) hsz6 ?_;intro OA3 oc3 w7 ho7 hg7 hl7;have HO7:=Lib.hid ho7;have HG7:=Lib.hid hg7;have HV7:=Lib.hid hl7;clear ho7 hg7 hl7)
      | fail)
     clear c2
     have k7:=HK6.out.kept HG7.out (blk_ne_own HO6.out HK6.out (by decide))
     have c1:=k7.cell (j:=1) rfl
     have HM7:=Lib.hid (HM5.out.new HT6.out HG6.out (by rw [HL2.out];exact HO7.out) HG7.out HV7.out)
     clear k7
     obtain ⟨EA,ec,rfl⟩:=own_shape HM7.out.edg
     have z3:=HM7.out.ka.cell (j:=3) rfl
     have hsz:=HM7.out.siz
     have HP9:=Lib.hid (fun (W8:World) (EA8:Option Addr) (ec8:Nat) (ho:W8.ownsRow wa.heap.size 67 3 (.slice EA8 (s2.es.length + 1) ec8) (s2.es.length + 1) (s2.es.flatMap edc ++ [.int .i64 (i:Int),.int .i64 x.e,.int .i64 (q2:Int)])) (hg8:w7.grownBy W8 (Value.slice EA s2.es.length ec).ownBlock)=>HM7.out.edge (y:=⟨(i:Int),x.e,(q2:Int)⟩) ho hg8)
     go_wp2_with (first
      | (at_builtin;refine wpList_pushA w7 [.int .i64 (i:Int),.int .i64 x.e,.int .i64 (q2:Int)] (by rfl) (.tmp 117) (.tmp 123) 30 (by rfl) wa.heap.size 67 (.agg #[.int .i64 0,.int .i64 0,.int .i64 0]) 3 24 Try.underlying30 edge_info (by rfl) (by decide) (by rfl) (.slice EA s2.es.length ec) s2.es.length _ (by rfl) HM7.out.edg (by rfl) (fun z hz=>by simp at hz;rcases hz with rfl | rfl | rfl <;> rfl) (by omega) (by omega) hsz ?_;intro A8 c8 w8 ho8 hg8 _;obtain ⟨hM8,kA8⟩:=HP9.out w8 A8 c8 ho8 hg8;have HM8:=Lib.hid hM8;have e8:=kA8.cell (j:=3) rfl;have f8:=kA8.free 3;have l8:=kA8.lt;clear ho8 hg8 hM8 kA8)
      | fail)
     go_roundw
     case rel=>exact ⟨e + 1,q2 + 1,OA3,oc3,_,_,_,_,⟨s2.ts ++ [x.t],s2.es ++ [⟨(i:Int),x.e,(q2:Int)⟩]⟩,rfl,rfl,rfl,rfl,by go_num,by omega,hq3,HL3,HM8,HSN2,HF2,HPR3⟩
     case measure=>simp [intOf];omega
end Go.Proofs.Ytdnmpndnpfklcaa

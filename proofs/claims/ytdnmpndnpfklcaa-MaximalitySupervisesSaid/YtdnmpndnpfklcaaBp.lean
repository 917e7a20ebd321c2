/- The law's round. -/
import Derived.Test.YtdnmpndnpfklcaaXw
import Derived.Test.YtdnmpndnpfklcaaXe
import Derived.Deep.Cut
import Derived.Deep.CutRange
namespace Go.Proofs.Ytdnmpndnpfklcaa
open Go.RowKit Go Go.Maps
def ldX (p:Mx) (l:List Int) (rk s:Int):Option Rm:=(ldEL p l s).map fun e=>⟨s,rk,2,e⟩
def blX (p:Mx) (n:Nat) (l:List Int) (rk s:Int):Option Rm:=if dstF p.a (inF n l) s < 0 then some ⟨s,rk,3,-1⟩ else none
def rndW (p:Mx) (n:Nat) (l:List Int) (rk:Int):List Rm:=if rk = 1 then l.filterMap (foR p) else if l.filterMap (ldX p l rk) = [] then l.filterMap (blX p n l rk) else l.filterMap (ldX p l rk)
theorem fm_snoc {α β:Type} {f:α → Option β} {l:List α} {k:Nat} {x:α} (h:l[k]? = some x):(l.take (k + 1)).filterMap f = (l.take k).filterMap f ++ (f x).toList:=by
 rw [take_snoc' h,List.filterMap_append]
 cases hx:f x <;> simp [hx]
theorem fm_len {α β:Type} (f:α → Option β) (l:List α) (k:Nat):((l.take k).filterMap f).length ≤ k:=Nat.le_trans (List.length_filterMap_le _ _) (List.length_take_le _ _)
def RetRs (R:List Rm) (w:World) (e:Ending) (w':World):Prop:=∃ (A:Option Addr) (c:Nat),e = .returned (.slice A R.length c)∧w'.ownsRow w.heap.size 63 4 (.slice A R.length c) R.length (R.flatMap rmc)∧Below w.heap.size w w'
set_option maxRecDepth 100000 in
set_option maxHeartbeats 6400000 in
theorem law_round (z:PB) (n:Nat) (L:Option Addr) (nl cl:Nat) (l:List Int) (rk:Int) (w:World) (h:z.ok w w.heap.size) (hm:z.m.ok) (hn:z.x.a.st = (n:Int)) (hl:l.length = nl) (hL:RdI w w.heap.size L l) (hc1:nl ≤ cl) (hc2:cl ≤ 9223372036854775807) (hli:Inc l) (hlr:∀ t ∈ l,0 ≤ t∧t < (n:Int)) :
  Calls Try.prog 46 #[.agg (pbc z).toArray,.slice L nl cl,.int .i64 rk] w (RetRs (rndW z.m n l rk) w):=by
 have hn4:n ≤ 4096:=by have h1:=hm.wf.st1;have e:z.m.a.st = z.x.a.st:=rfl;omega
 have hnl:nl ≤ 4096:=by have h1:=inc_len (n:=n) hli hlr;omega
 have hel:z.x.ne ≤ 1000000:=by have h1:=hm.wf.ed_le;have h2:z.m.a.ed.length = z.x.ne:=h.x.le;omega
 have hb1:=box_below w (.cells (pbc z).toArray 34)
 have kx:=Blk.new w 34 (pbc z)
 obtain ⟨w1,hw1⟩:∃ w1,w1 = w.alloc (.cells (pbc z).toArray 34):=⟨_,rfl⟩
 rw [← hw1] at hb1 kx
 have HZ:=Lib.hid (fun (W:World) (hb:Below w1.heap.size w1 W)=>(h.below (hb1.trans (hb.mono hb1.size))).more (hb1.trans (hb.mono hb1.size)).size)
 have HLX:=Lib.hid (fun (W:World) (hb:Below w1.heap.size w1 W)=>(hL.below (hb1.trans (hb.mono hb1.size))).more (hb1.trans (hb.mono hb1.size)).size)
 have HK:=Lib.hid (fun (W:World) (hb:Below w1.heap.size w1 W)=>Blk.c6 (kx.below hb kx.lt))
 have HB:=Lib.hid (fun (W:World) (hb:Below w1.heap.size w1 W)=>hb1.trans (hb.mono hb1.size))
 have HBS:=Lib.hid (show w.heap.size ≤ w1.heap.size from hb1.size)
 have HW1:=Lib.hid (show w.alloc (.cells (pbc z).toArray 34) = w1 from hw1.symm)
 have HHS:=Lib.hid (fun (s:Int) (W:World) (hb:Below w1.heap.size w1 W)=>law_has z.f.A z.f.c z.f.n z.f.l s (hasB z.f.l s) W (HZ.out W hb).f.la (HZ.out W hb).f.ra (by have h1:=(HZ.out W hb).f.ac;have h2:=(HZ.out W hb).f.cA;omega) rfl)
 have HLD:=Lib.hid (fun (s:Int) (W:World) (hb:Below w1.heap.size w1 W)=>law_leads z s L cl nl l W (HZ.out W hb) hel hl (HLX.out W hb) (by omega))
 have HDS:=Lib.hid (fun (s:Nat) (W:World) (hb:Below w1.heap.size w1 W) (hs:(s:Int) ∈ l)=>law_distance z n s L cl nl l W (HZ.out W hb) hm hn (by have:=hlr _ hs;omega) hl (HLX.out W hb) hc1 hc2 hli hlr hs)
 have HPV:=Lib.hid (show pbc z = [.slice z.x.A z.x.na z.x.ca,.int .i64 z.x.a.st,.slice z.x.M z.x.nm z.x.cm,.slice z.x.E z.x.ne z.x.ce,.slice z.u.A z.u.n z.u.c,.slice z.f.A z.f.n z.f.c] from rfl)
 have HL:=Lib.hid hl
 have HLR:=Lib.hid hlr
 obtain ⟨P,hP⟩:∃ q,z.m = q:=⟨_,rfl⟩
 have HPA:=Lib.hid (show P.a = z.x.a∧P.f = z.f.l by rw [← hP];exact ⟨rfl,rfl⟩)
 rw [hP] at HLD
 rw [HPV.out] at HLD HDS HW1 ⊢
 rw [hn] at HLD HDS HW1 HK ⊢
 rw [hP]
 have HRK:=Lib.hid (show RdI w1 w1.heap.size L l from HLX.out w1 (Below.refl _ _))
 clear hP hb1 kx hw1 h hm hn hL hl hli hlr hel
 go_enter Try.func46,Try.ntmps46
 go_upto_region 1 with fail
 rw [HW1.out]
 go_wp2
 go_loopw [7,8] (fun s7 s8 wr=>∃ (k m c:Nat) (A:Option Addr),s7 = .slice A m c∧s8 = .int .i64 k∧k ≤ nl∧m ≤ k∧Hid (rk ≠ 1 → k = 0)∧Hid (wr.ownsRow w1.heap.size 63 4 (.slice A m c) m (((l.take k).filterMap (foR P)).flatMap rmc))∧Hid (((l.take k).filterMap (foR P)).length = m)∧Hid (Below w1.heap.size w1 wr)) (fun _ s8 _=>nl - (intOf s8).toNat)
 case atStart=>exact ⟨0,0,0,none,rfl,rfl,Nat.zero_le _,Nat.le_refl _,Lib.hid (fun _=>rfl),Lib.hid (World.ownsRow_nil _ _ _ _),Lib.hid rfl,Lib.hid (Below.refl _ _)⟩
 case round =>
  obtain ⟨k,m,c,A,rfl,rfl,hk,hmk,HK0,HO,HM,HBR⟩:=hrel
  go_upto_region 3 with fail
  go_cut [20] from 13 to 37 (fun s20 wx=>∃ q:Bool,s20 = .bool q∧Hid (q = true ↔ k < nl∧rk = 1)∧wx = wr)
  case first =>
   by_cases hlt:k < nl
   ·have b1:(k:Int) < (nl:Int):=by omega
    by_cases hr:rk = 1
    ·have hr':(rk == 1) = true:=by simpa using hr
     go_wp2_with fail
     go_meet
     case rel=>exact ⟨_,rfl,Lib.hid ⟨fun _=>⟨hlt,hr⟩,fun _=>by first | rfl | simpa using hr⟩,rfl⟩
    ·have hr':(rk == 1) = false:=by simpa using hr
     go_wp2_with fail
     go_meet
     case rel=>exact ⟨_,rfl,Lib.hid ⟨fun h9=>absurd h9 (by simp),fun h9=>absurd h9.2 hr⟩,rfl⟩
   ·have b1:¬ (k:Int) < (nl:Int):=by omega
    go_wp2_with fail
    go_meet
    case rel=>exact ⟨_,rfl,Lib.hid ⟨fun h9=>absurd h9 (by simp),fun h9=>absurd h9.1 hlt⟩,rfl⟩
  case rest =>
   obtain ⟨q,rfl,HQ,rfl⟩:=hcut
   cases q with
   | false =>
    have hq:¬ (k < nl∧rk = 1):=fun h9=>absurd (HQ.out.2 h9) (by simp)
    by_cases hr:rk = 1
    ·have hk9:k = nl:=by
      by_cases h8:k < nl
      ·exact absurd ⟨h8,hr⟩ hq
      ·omega
     have HTA:=Lib.hid (show l.take k = l by rw [hk9];exact List.take_of_length_le (by rw [HL.out];exact Nat.le_refl _))
     have hr':(rk == 1) = true:=by simpa using hr
     have HR1:=Lib.hid hr
     clear hq hk9 HQ hr
     go_wp2
     go_ret
     have e:rndW P n l rk = l.filterMap (foR P):=by unfold rndW;rw [if_pos HR1.out]
     have hl9:=HM.out
     rw [HTA.out] at hl9
     rw [e]
     refine ⟨A,c,by rw [hl9];rfl,?_,HB.out _ HBR.out⟩
     rw [hl9]
     have ho9:=HO.out
     rw [HTA.out] at ho9
     exact own_base ho9 HBS.out
    ·obtain rfl:=HK0.out hr
     obtain rfl:m = 0:=by omega
     have hr':(rk == 1) = false:=by simpa using hr
     have HR1:=Lib.hid hr
     obtain ⟨AL,hAL⟩:∃ q,l.filterMap (ldX P l rk) = q:=⟨_,rfl⟩
     have HAL:=Lib.hid hAL
     clear hq HQ hr HM hAL
     have HO0:=Lib.hid (show wc.ownsRow w1.heap.size 63 4 (.slice A 0 c) 0 (((l.take 0).filterMap (ldX P l rk)).flatMap rmc) from HO.out)
     go_wp2
     go_loopw [7,9,10,11] (fun s7 s9 s10 s11 wy=>∃ (k m c:Nat) (A:Option Addr) (v10 v11:Value),s7 = .slice A m c∧s9 = .int .i64 k∧s10 = v10∧s11 = v11∧k ≤ nl∧m ≤ k∧Hid (wy.ownsRow w1.heap.size 63 4 (.slice A m c) m (((l.take k).filterMap (ldX P l rk)).flatMap rmc))∧Hid (((l.take k).filterMap (ldX P l rk)).length = m)∧Hid (Below w1.heap.size w1 wy)) (fun _ s9 _ _ _=>nl - (intOf s9).toNat)
     case atStart=>exact ⟨0,0,c,A,_,_,rfl,rfl,rfl,rfl,Nat.zero_le _,Nat.le_refl _,HO0,Lib.hid rfl,HBR⟩
     case round =>
      clear HO0 HO HBR hk hmk HK0
      obtain ⟨k,m,c,A,v10,v11,rfl,rfl,rfl,rfl,hk,hmk,HO,HM,HBR⟩:=hrel
      by_cases hlt:k < nl
      case pos =>
       obtain ⟨x,hx⟩:∃ x,l[k]? = some x:=⟨_,List.getElem?_eq_getElem (by rw [HL.out];exact hlt)⟩
       obtain ⟨ad,hA,_,hcell⟩:=HRK.out k (.int .i64 x) (by rw [iv_get,hx];rfl)
       subst hA
       have HAD:=Lib.hid (fun (W:World) (hb:Below w1.heap.size w1 W)=>(hb.cell (World.block_lt_of_cell? _ _ hcell)).trans hcell)
       have HS:=Lib.hid (fm_snoc (f:=ldX P l rk) hx)
       have b1:(k:Int) < (nl:Int):=by omega
       have HLD1:=Lib.hid (HLD.out x)
       obtain ⟨o,ho⟩:∃ o,ldEL P l x = o:=⟨_,rfl⟩
       have HXE:=Lib.hid (show ldX P l rk x = o.map fun e=>⟨x,rk,2,e⟩ by unfold ldX;rw [ho])
       rw [ho] at HLD1
       rw [HXE.out] at HS
       clear hx hcell ho
       cases o with
       | none =>
        have HLV:=Lib.hid (show ldV (none:Option Int) = .tuple #[.int .i64 (-1),.bool false] from rfl)
        have HS2:=Lib.hid (show (l.take (k + 1)).filterMap (ldX P l rk) = (l.take k).filterMap (ldX P l rk) from by rw [HS.out];exact List.append_nil _)
        clear HS
        go_upto_region 12 with fail
        refine wp_region_U (fun W=>Below wr.heap.size wr W) (fun _=>True) 99 (by kernel_rfl) ?_
        change anyU _ _ _ _ _ _ _ 12 _ _ _
        have hB0:True:=trivial
        have hA0:=below_dr wr
        generalize wr.drew = wd at hA0 ⊢
        (refine uA 0 ?_ rfl hA0 hB0 (fun W hA=>?_) ?_;rotate_left;(· (obtain ⟨⟨a0,a1,a2,a3,a4⟩,a5⟩:=HK.out W (HBR.out.trans (hA.mono HBR.out.size));go_simp;try with_reducible rfl));(try simp only [Act.put,List.setIfInBounds_toArray,List.set_cons_zero,List.set_cons_succ]))
        (refine uA 1 ?_ rfl hA0 hB0 (fun W hA=>?_) ?_;rotate_left;(· (go_simp;try with_reducible rfl));refine uA 2 ?_ rfl hA0 hB0 (fun W hA=>?_) ?_;rotate_left;(· (go_simp;try with_reducible rfl));(try simp only [Act.put,List.setIfInBounds_toArray,List.set_cons_zero,List.set_cons_succ]))
        (refine uA 3 ?_ rfl hA0 hB0 (fun W hA=>?_) ?_;rotate_left;(· (go_simp;try with_reducible rfl));(try simp only [Act.put,List.setIfInBounds_toArray,List.set_cons_zero,List.set_cons_succ]))
        (refine uA 4 ?_ rfl hA0 hB0 (fun W hA=>?_) ?_;rotate_left;(· (have a0:=HAD.out W (HBR.out.trans (hA.mono HBR.out.size));go_simp;try with_reducible rfl));(try simp only [Act.put,List.setIfInBounds_toArray,List.set_cons_zero,List.set_cons_succ]))
        (refine uA 5 ?_ rfl hA0 hB0 (fun W hA=>?_) ?_;rotate_left;(· (go_simp;try with_reducible rfl));(try simp only [Act.put,List.setIfInBounds_toArray,List.set_cons_zero,List.set_cons_succ]))
        refine uOne (i:=6) rfl (by kernel_rfl) (fun K hK=>?_)
        go_simp
        go_at_call 60
        refine (HLD1.out wd (HBR.out.trans (hA0.mono HBR.out.size))).mono ?_
        rintro e we ⟨rfl,hbe⟩
        have hA1:=hA0.trans (hbe.mono hA0.size)
        rw [HLV.out]
        (refine hK _ _ ⟨hA1,fun _=>hB0⟩ ?_;clear hK K;(try simp only [Act.put,List.setIfInBounds_toArray,List.set_cons_zero,List.set_cons_succ]))
        clear hA0
        have hA0:=hA1
        clear hA1 hbe
        (refine uA 7 ?_ rfl hA0 hB0 (fun W hA=>?_) ?_;rotate_left;(· (go_simp;try with_reducible rfl));refine uA 8 ?_ rfl hA0 hB0 (fun W hA=>?_) ?_;rotate_left;(· (go_simp;try with_reducible rfl));refine uA 9 ?_ rfl hA0 hB0 (fun W hA=>?_) ?_;rotate_left;(· (go_simp;try with_reducible rfl));(try simp only [Act.put,List.setIfInBounds_toArray,List.set_cons_zero,List.set_cons_succ]))
        refine uOne (i:=10) rfl (by kernel_rfl) (fun K hK=>?_)
        go_simp
        (refine hK _ _ ⟨hA0,fun _=>hB0⟩ ?_;clear hK K;(try simp only [Act.put,List.setIfInBounds_toArray,List.set_cons_zero,List.set_cons_succ]))
        refine uOne (i:=11) rfl (by kernel_rfl) (fun K hK=>?_)
        go_simp
        (refine hK _ _ ⟨hA0,fun _=>hB0⟩ ?_;clear hK K;(try simp only [Act.put,List.setIfInBounds_toArray,List.set_cons_zero,List.set_cons_succ]))
        refine anyU_done (by kernel_rfl) ?_ _
        have HB6:=Lib.hid (HBR.out.trans (hA0.mono HBR.out.size))
        have HO6:=Lib.hid (own_below HO.out hA0)
        clear hA0
        go_wp2
        go_roundw
        case rel=>exact ⟨k + 1,m,c,A,_,_,rfl,by go_num,rfl,rfl,by omega,by omega,Lib.hid (by rw [HS2.out];exact HO6.out),Lib.hid (by rw [HS2.out];exact HM.out),HB6⟩
        case measure=>simp [intOf];omega
       | some ev =>
        have HLV:=Lib.hid (show ldV (some ev) = .tuple #[.int .i64 ev,.bool true] from rfl)
        have HS2:=Lib.hid (show (l.take (k + 1)).filterMap (ldX P l rk) = (l.take k).filterMap (ldX P l rk) ++ [⟨x,rk,2,ev⟩] from HS.out)
        clear HS
        go_upto_region 12 with fail
        refine wp_region_U (fun W=>Below wr.heap.size wr W) (fun _=>True) 99 (by kernel_rfl) ?_
        change anyU _ _ _ _ _ _ _ 12 _ _ _
        have hB0:True:=trivial
        have hA0:=below_dr wr
        generalize wr.drew = wd at hA0 ⊢
        (refine uA 0 ?_ rfl hA0 hB0 (fun W hA=>?_) ?_;rotate_left;(· (obtain ⟨⟨a0,a1,a2,a3,a4⟩,a5⟩:=HK.out W (HBR.out.trans (hA.mono HBR.out.size));go_simp;try with_reducible rfl));(try simp only [Act.put,List.setIfInBounds_toArray,List.set_cons_zero,List.set_cons_succ]))
        (refine uA 1 ?_ rfl hA0 hB0 (fun W hA=>?_) ?_;rotate_left;(· (go_simp;try with_reducible rfl));refine uA 2 ?_ rfl hA0 hB0 (fun W hA=>?_) ?_;rotate_left;(· (go_simp;try with_reducible rfl));(try simp only [Act.put,List.setIfInBounds_toArray,List.set_cons_zero,List.set_cons_succ]))
        (refine uA 3 ?_ rfl hA0 hB0 (fun W hA=>?_) ?_;rotate_left;(· (go_simp;try with_reducible rfl));(try simp only [Act.put,List.setIfInBounds_toArray,List.set_cons_zero,List.set_cons_succ]))
        (refine uA 4 ?_ rfl hA0 hB0 (fun W hA=>?_) ?_;rotate_left;(· (have a0:=HAD.out W (HBR.out.trans (hA.mono HBR.out.size));go_simp;try with_reducible rfl));(try simp only [Act.put,List.setIfInBounds_toArray,List.set_cons_zero,List.set_cons_succ]))
        (refine uA 5 ?_ rfl hA0 hB0 (fun W hA=>?_) ?_;rotate_left;(· (go_simp;try with_reducible rfl));(try simp only [Act.put,List.setIfInBounds_toArray,List.set_cons_zero,List.set_cons_succ]))
        refine uOne (i:=6) rfl (by kernel_rfl) (fun K hK=>?_)
        go_simp
        go_at_call 60
        refine (HLD1.out wd (HBR.out.trans (hA0.mono HBR.out.size))).mono ?_
        rintro e we ⟨rfl,hbe⟩
        have hA1:=hA0.trans (hbe.mono hA0.size)
        rw [HLV.out]
        (refine hK _ _ ⟨hA1,fun _=>hB0⟩ ?_;clear hK K;(try simp only [Act.put,List.setIfInBounds_toArray,List.set_cons_zero,List.set_cons_succ]))
        clear hA0
        have hA0:=hA1
        clear hA1 hbe
        (refine uA 7 ?_ rfl hA0 hB0 (fun W hA=>?_) ?_;rotate_left;(· (go_simp;try with_reducible rfl));refine uA 8 ?_ rfl hA0 hB0 (fun W hA=>?_) ?_;rotate_left;(· (go_simp;try with_reducible rfl));refine uA 9 ?_ rfl hA0 hB0 (fun W hA=>?_) ?_;rotate_left;(· (go_simp;try with_reducible rfl));(try simp only [Act.put,List.setIfInBounds_toArray,List.set_cons_zero,List.set_cons_succ]))
        refine uOne (i:=10) rfl (by kernel_rfl) (fun K hK=>?_)
        go_simp
        (refine hK _ _ ⟨hA0,fun _=>hB0⟩ ?_;clear hK K;(try simp only [Act.put,List.setIfInBounds_toArray,List.set_cons_zero,List.set_cons_succ]))
        refine uOne (i:=11) rfl (by kernel_rfl) (fun K hK=>?_)
        go_simp
        (refine hK _ _ ⟨hA0,fun _=>hB0⟩ ?_;clear hK K;(try simp only [Act.put,List.setIfInBounds_toArray,List.set_cons_zero,List.set_cons_succ]))
        refine anyU_done (by kernel_rfl) ?_ _
        have HB6:=Lib.hid (HBR.out.trans (hA0.mono HBR.out.size))
        have HO6:=Lib.hid (own_below HO.out hA0)
        clear hA0
        go_upto_region 14 with fail
        have a9:=HAD.out we HB6.out
        have hsz:=HB6.out.size
        go_wp2_with (first | (at_builtin;refine wpList_pushN we [.int .i64 x,.int .i64 rk,.int .i64 2,.int .i64 ev] rfl (.tmp 58) (.tmp 66) 36 rfl w1.heap.size 63 (.agg #[.int .i64 0,.int .i64 0,.int .i64 0,.int .i64 0]) 4 32 Try.underlying36 rm_info rfl (by decide) rfl (.slice A m c) m _ rfl HO6.out rfl (fun u hu=>by simp at hu;rcases hu with rfl | rfl | rfl | rfl <;> rfl) (by omega) (by omega) hsz ?_;intro v' w' ho' hg' hb1;obtain ⟨A',c',rfl⟩:=own_shape ho') | fail)
        have HO7:=Lib.hid (show w'.ownsRow w1.heap.size 63 4 (.slice A' (m + 1) c') (m + 1) (((l.take (k + 1)).filterMap (ldX P l rk)).flatMap rmc) by rw [HS2.out,List.flatMap_append];exact ho')
        have HB7:=Lib.hid (HB6.out.trans hb1)
        go_roundw
        case rel=>exact ⟨k + 1,m + 1,c',A',_,_,rfl,by go_num,rfl,rfl,by omega,by omega,HO7,Lib.hid (by rw [HS2.out,List.length_append,HM.out];rfl),HB7⟩
        case measure=>simp [intOf];omega
      obtain rfl:k = nl:=by omega
      have b1:¬ (k:Int) < (k:Int):=by omega
      have HTA:=Lib.hid (show l.take k = l from List.take_of_length_le (by rw [HL.out];exact Nat.le_refl _))
      rw [HTA.out,HAL.out] at HO HM
      have HF0:=Lib.hid (show (if AL = [] then (l.take 0).filterMap (blX P n l rk) else AL) = AL from by
       by_cases h9:AL = []
       ·rw [if_pos h9,h9];rfl
       ·rw [if_neg h9])
      rw [← HF0.out] at HO HM
      go_wp2
      go_loopw [7,12] (fun s7 s12 wz=>∃ (k2 m c:Nat) (A:Option Addr),s7 = .slice A m c∧s12 = .int .i64 k2∧k2 ≤ k∧m ≤ k∧Hid (AL ≠ [] → k2 = 0)∧Hid (wz.ownsRow w1.heap.size 63 4 (.slice A m c) m ((if AL = [] then (l.take k2).filterMap (blX P n l rk) else AL).flatMap rmc))∧Hid ((if AL = [] then (l.take k2).filterMap (blX P n l rk) else AL).length = m)∧Hid (Below w1.heap.size w1 wz)) (fun _ s12 _=>k - (intOf s12).toNat)
      case atStart=>exact ⟨0,m,c,A,rfl,rfl,Nat.zero_le _,hmk,Lib.hid (fun _=>rfl),HO,HM,HBR⟩
      case round =>
       clear HO HM HBR hk hmk HF0
       obtain ⟨k2,m,c,A,rfl,rfl,hk,hmk,HK2,HO,HM,HBR⟩:=hrel
       go_upto_region 16 with fail
       go_cut [83] from 68 to 102 (fun s83 wx=>∃ q:Bool,s83 = .bool q∧Hid (q = true ↔ k2 < k∧AL = [])∧wx = wr)
       case first =>
        by_cases hlt:k2 < k
        ·have b2:(k2:Int) < (k:Int):=by omega
         by_cases hm0:m = 0
         ·subst hm0
          have HE:=Lib.hid (show AL = [] from by
           have h9:=List.eq_nil_of_length_eq_zero HM.out
           by_cases h8:AL = []
           ·exact h8
           ·rw [if_neg h8] at h9;exact h9)
          go_wp2_with fail
          go_meet
          case rel=>exact ⟨_,rfl,Lib.hid ⟨fun _=>⟨hlt,HE.out⟩,fun _=>rfl⟩,rfl⟩
         ·obtain ⟨ad,r,hA,hr0,g0,g1,g2,g3⟩:=rm_reads (RdR.of_own (f:=rmc) (by omega) (fun _ _=>rfl) HO.out) (j:=0) (by rw [HM.out];omega)
          subst hA
          have hmb:(m == 0) = false:=by simpa using hm0
          have hmi:¬ (m:Int) = 0:=by omega
          have hmp:(0:Int) < (m:Int):=by omega
          have hmq:0 < m:=by omega
          have hmd:decide (m = 0) = false:=decide_eq_false hm0
          have hmd2:decide ((m:Int) = 0) = false:=decide_eq_false hmi
          have hmd3:((m:Int) == 0) = false:=by simpa using hm0
          obtain ⟨hmc1,hmc2⟩:=own_cap' HO.out
          obtain ⟨rr,hrr⟩:∃ q,r.r = q:=⟨_,rfl⟩
          rw [hrr] at g2
          have g2x:wr.cell? ⟨ad.block,ad.off + 2,none⟩ = some (.int .i64 rr):=g2
          have HR3:=Lib.hid (show rr = 3 ↔ AL = [] from by
           rw [← hrr]
           have h9:=List.mem_of_getElem? hr0
           by_cases h8:AL = []
           ·rw [if_pos h8] at h9
            obtain ⟨s,_,h7⟩:=List.mem_filterMap.1 h9
            unfold blX at h7
            split at h7
            ·injection h7 with h7;rw [← h7];exact ⟨fun _=>h8,fun _=>rfl⟩
            ·cases h7
           ·rw [if_neg h8,← HAL.out] at h9
            obtain ⟨s,_,h7⟩:=List.mem_filterMap.1 h9
            unfold ldX at h7
            obtain ⟨ev,_,h6⟩:=Option.map_eq_some_iff.1 h7
            rw [← h6]
            exact ⟨fun h5=>absurd (show (2:Int) = 3 from h5) (by decide),fun h5=>absurd h5 h8⟩)
          clear hrr hr0
          by_cases h3:rr = 3
          ·subst h3
           go_wp2_with fail
           go_meet
           case rel=>exact ⟨_,rfl,Lib.hid ⟨fun _=>⟨hlt,HR3.out.1 (by first | rfl | trivial)⟩,fun _=>rfl⟩,rfl⟩
          ·have h3b:(rr == 3) = false:=by simpa using h3
           have HH3:=Lib.hid h3
           clear h3
           go_wp2_with fail
           go_meet
           case rel=>exact ⟨_,rfl,Lib.hid ⟨fun h9=>absurd h9 (by simp),fun h9=>absurd (HR3.out.2 h9.2) HH3.out⟩,rfl⟩
        ·have b2:¬ (k2:Int) < (k:Int):=by omega
         go_wp2_with fail
         go_meet
         case rel=>exact ⟨_,rfl,Lib.hid ⟨fun h9=>absurd h9 (by simp),fun h9=>absurd h9.1 hlt⟩,rfl⟩
       case rest =>
        obtain ⟨q,rfl,HQ,rfl⟩:=hcut
        cases q with
        | false =>
         have hq:¬ (k2 < k∧AL = []):=fun h9=>absurd (HQ.out.2 h9) (by simp)
         have HRN:=Lib.hid (show rndW P n l rk = (if AL = [] then (l.take k2).filterMap (blX P n l rk) else AL) from by
          unfold rndW
          rw [if_neg HR1.out,HAL.out]
          by_cases h8:AL = []
          ·have h7:k2 = k:=by
            by_cases h6:k2 < k
            ·exact absurd ⟨h6,h8⟩ hq
            ·omega
           rw [if_pos h8,if_pos h8,h7,HTA.out]
          ·rw [if_neg h8,if_neg h8])
         clear hq HQ
         go_wp2
         go_ret
         rw [HRN.out]
         refine ⟨A,c,by rw [HM.out];rfl,?_,HB.out _ HBR.out⟩
         rw [HM.out]
         exact own_base HO.out HBS.out
        | true =>
         obtain ⟨hlt,hAe⟩:=HQ.out.1 rfl
         have HAE:=Lib.hid hAe
         clear HQ hAe
         obtain ⟨x,hx⟩:∃ x,l[k2]? = some x:=⟨_,List.getElem?_eq_getElem (by rw [HL.out];exact hlt)⟩
         obtain ⟨ad,hA,_,hcell⟩:=HRK.out k2 (.int .i64 x) (by rw [iv_get,hx];rfl)
         subst hA
         have HAD:=Lib.hid (fun (W:World) (hb:Below w1.heap.size w1 W)=>(hb.cell (World.block_lt_of_cell? _ _ hcell)).trans hcell)
         have hxr:=HLR.out x (List.mem_of_getElem? hx)
         obtain ⟨xn,rfl⟩:∃ j:Nat,x = (j:Int):=⟨x.toNat,by omega⟩
         have HS:=Lib.hid (fm_snoc (f:=blX P n l rk) hx)
         have b2:(k2:Int) < (k:Int):=by omega
         have HDX:=Lib.hid (fun (W:World) (hb:Below w1.heap.size w1 W)=>HDS.out xn W hb (List.mem_of_getElem? hx))
         obtain ⟨d,hd⟩:∃ d,dstF z.x.a (inF n l) (xn:Int) = d:=⟨_,rfl⟩
         have HXE:=Lib.hid (show blX P n l rk (xn:Int) = if d < 0 then some ⟨(xn:Int),rk,3,-1⟩ else none by unfold blX;rw [HPA.out.1,hd])
         rw [hd] at HDX
         rw [HXE.out] at HS
         clear hx hcell hd hxr
         go_upto_region 18 with fail
         refine wp_region_U (fun W=>Below wc.heap.size wc W) (fun _=>True) 99 (by kernel_rfl) ?_
         change anyU _ _ _ _ _ _ _ 8 _ _ _
         have hB0:True:=trivial
         have hA0:=below_dr wc
         generalize wc.drew = wd at hA0 ⊢
         (refine uA 0 ?_ rfl hA0 hB0 (fun W hA=>?_) ?_;rotate_left;(· (obtain ⟨⟨a0,a1,a2,a3,a4⟩,a5⟩:=HK.out W (HBR.out.trans (hA.mono HBR.out.size));go_simp;try with_reducible rfl));(try simp only [Act.put,List.setIfInBounds_toArray,List.set_cons_zero,List.set_cons_succ]))
         (refine uA 1 ?_ rfl hA0 hB0 (fun W hA=>?_) ?_;rotate_left;(· (go_simp;try with_reducible rfl));refine uA 2 ?_ rfl hA0 hB0 (fun W hA=>?_) ?_;rotate_left;(· (go_simp;try with_reducible rfl));(try simp only [Act.put,List.setIfInBounds_toArray,List.set_cons_zero,List.set_cons_succ]))
         (refine uA 3 ?_ rfl hA0 hB0 (fun W hA=>?_) ?_;rotate_left;(· (go_simp;try with_reducible rfl));(try simp only [Act.put,List.setIfInBounds_toArray,List.set_cons_zero,List.set_cons_succ]))
         (refine uA 4 ?_ rfl hA0 hB0 (fun W hA=>?_) ?_;rotate_left;(· (have a0:=HAD.out W (HBR.out.trans (hA.mono HBR.out.size));go_simp;try with_reducible rfl));(try simp only [Act.put,List.setIfInBounds_toArray,List.set_cons_zero,List.set_cons_succ]))
         (refine uA 5 ?_ rfl hA0 hB0 (fun W hA=>?_) ?_;rotate_left;(· (go_simp;try with_reducible rfl));(try simp only [Act.put,List.setIfInBounds_toArray,List.set_cons_zero,List.set_cons_succ]))
         refine uOne (i:=6) rfl (by kernel_rfl) (fun K hK=>?_)
         go_simp
         go_at_call 47
         refine (HDX.out wd (HBR.out.trans (hA0.mono HBR.out.size))).mono ?_
         rintro e we ⟨rfl,hbe⟩
         have hA1:=hA0.trans (hbe.mono hA0.size)
         (refine hK _ _ ⟨hA1,fun _=>hB0⟩ ?_;clear hK K;(try simp only [Act.put,List.setIfInBounds_toArray,List.set_cons_zero,List.set_cons_succ]))
         clear hA0
         have hA0:=hA1
         clear hA1 hbe
         (refine uA 7 ?_ rfl hA0 hB0 (fun W hA=>?_) ?_;rotate_left;(· (go_simp;try with_reducible rfl));(try simp only [Act.put,List.setIfInBounds_toArray,List.set_cons_zero,List.set_cons_succ]))
         refine anyU_done (by kernel_rfl) ?_ _
         have HB6:=Lib.hid (HBR.out.trans (hA0.mono HBR.out.size))
         have HO6:=Lib.hid (own_below HO.out hA0)
         clear hA0
         rw [if_pos HAE.out] at HM HO6
         by_cases hdn:d < 0
         case neg =>
          have HS2:=Lib.hid (show (l.take (k2 + 1)).filterMap (blX P n l rk) = (l.take k2).filterMap (blX P n l rk) from by rw [HS.out,if_neg hdn];exact List.append_nil _)
          clear HS
          go_wp2
          go_roundw
          case rel=>exact ⟨k2 + 1,m,c,A,rfl,by go_num,by omega,by omega,Lib.hid (fun h9=>absurd HAE.out h9),Lib.hid (by rw [if_pos HAE.out,HS2.out];exact HO6.out),Lib.hid (by rw [if_pos HAE.out,HS2.out];exact HM.out),HB6⟩
          case measure=>simp [intOf];omega
         have HS2:=Lib.hid (show (l.take (k2 + 1)).filterMap (blX P n l rk) = (l.take k2).filterMap (blX P n l rk) ++ [⟨(xn:Int),rk,3,-1⟩] from by rw [HS.out,if_pos hdn];rfl)
         clear HS
         have hmk9:m ≤ k2:=by have h9:=fm_len (blX P n l rk) l k2;rw [HM.out] at h9;exact h9
         go_upto_region 19 with fail
         have a9:=HAD.out we HB6.out
         have hsz:=HB6.out.size
         go_wp2_with (first | (at_builtin;refine wpList_pushN we [.int .i64 (xn:Int),.int .i64 rk,.int .i64 3,.int .i64 (-1)] rfl (.tmp 94) (.tmp 101) 36 rfl w1.heap.size 63 (.agg #[.int .i64 0,.int .i64 0,.int .i64 0,.int .i64 0]) 4 32 Try.underlying36 rm_info rfl (by decide) rfl (.slice A m c) m _ rfl HO6.out rfl (fun u hu=>by simp at hu;rcases hu with rfl | rfl | rfl | rfl <;> rfl) (by omega) (by omega) hsz ?_;intro v' w' ho' hg' hb1;obtain ⟨A',c',rfl⟩:=own_shape ho') | fail)
         have HO7:=Lib.hid (show w'.ownsRow w1.heap.size 63 4 (.slice A' (m + 1) c') (m + 1) ((if AL = [] then (l.take (k2 + 1)).filterMap (blX P n l rk) else AL).flatMap rmc) by rw [if_pos HAE.out,HS2.out,List.flatMap_append];exact ho')
         have HB7:=Lib.hid (HB6.out.trans hb1)
         go_roundw
         case rel=>exact ⟨k2 + 1,m + 1,c',A',rfl,by go_num,by omega,by omega,Lib.hid (fun h9=>absurd HAE.out h9),HO7,Lib.hid (by rw [if_pos HAE.out,HS2.out,List.length_append,HM.out];rfl),HB7⟩
         case measure=>simp [intOf];omega
   | true =>
    obtain ⟨hlt,hr⟩:=HQ.out.1 rfl
    subst hr
    clear HQ
    obtain ⟨x,hx⟩:∃ x,l[k]? = some x:=⟨_,List.getElem?_eq_getElem (by rw [HL.out];exact hlt)⟩
    obtain ⟨ad,hA,_,hcell⟩:=HRK.out k (.int .i64 x) (by rw [iv_get,hx];rfl)
    subst hA
    have HAD:=Lib.hid (fun (W:World) (hb:Below w1.heap.size w1 W)=>(hb.cell (World.block_lt_of_cell? _ _ hcell)).trans hcell)
    have HS:=Lib.hid (fm_snoc (f:=foR P) hx)
    have b1:(k:Int) < (nl:Int):=by omega
    have HHX:=Lib.hid (HHS.out x)
    obtain ⟨q2,hq2⟩:∃ q,hasB z.f.l x = q:=⟨_,rfl⟩
    have HXE:=Lib.hid (show foR P x = if q2 = true then some ⟨x,1,1,-1⟩ else none by unfold foR;rw [HPA.out.2,hq2])
    rw [hq2] at HHX
    rw [HXE.out] at HS
    clear hx hcell hq2
    go_upto_region 5 with fail
    refine wp_region_U (fun W=>Below wc.heap.size wc W) (fun _=>True) 99 (by kernel_rfl) ?_
    change anyU _ _ _ _ _ _ _ 7 _ _ _
    have hB0:True:=trivial
    have hA0:=below_dr wc
    generalize wc.drew = wd at hA0 ⊢
    (refine uA 0 ?_ rfl hA0 hB0 (fun W hA=>?_) ?_;rotate_left;(· (go_simp;try with_reducible rfl));(try simp only [Act.put,List.setIfInBounds_toArray,List.set_cons_zero,List.set_cons_succ]))
    (refine uA 1 ?_ rfl hA0 hB0 (fun W hA=>?_) ?_;rotate_left;(· (obtain ⟨_,a5⟩:=HK.out W (HBR.out.trans (hA.mono HBR.out.size));go_simp;try with_reducible rfl));(try simp only [Act.put,List.setIfInBounds_toArray,List.set_cons_zero,List.set_cons_succ]))
    (refine uA 2 ?_ rfl hA0 hB0 (fun W hA=>?_) ?_;rotate_left;(· (go_simp;try with_reducible rfl));refine uA 3 ?_ rfl hA0 hB0 (fun W hA=>?_) ?_;rotate_left;(· (go_simp;try with_reducible rfl));(try simp only [Act.put,List.setIfInBounds_toArray,List.set_cons_zero,List.set_cons_succ]))
    (refine uA 4 ?_ rfl hA0 hB0 (fun W hA=>?_) ?_;rotate_left;(· (go_simp;try with_reducible rfl));(try simp only [Act.put,List.setIfInBounds_toArray,List.set_cons_zero,List.set_cons_succ]))
    (refine uA 5 ?_ rfl hA0 hB0 (fun W hA=>?_) ?_;rotate_left;(· (have a0:=HAD.out W (HBR.out.trans (hA.mono HBR.out.size));go_simp;try with_reducible rfl));(try simp only [Act.put,List.setIfInBounds_toArray,List.set_cons_zero,List.set_cons_succ]))
    refine uOne (i:=6) rfl (by kernel_rfl) (fun K hK=>?_)
    go_simp
    go_at_call 21
    refine (HHX.out wd (HBR.out.trans (hA0.mono HBR.out.size))).mono ?_
    rintro e we ⟨rfl,rfl⟩
    (refine hK _ _ ⟨hA0,fun _=>hB0⟩ ?_;clear hK K;(try simp only [Act.put,List.setIfInBounds_toArray,List.set_cons_zero,List.set_cons_succ]))
    refine anyU_done (by kernel_rfl) ?_ _
    have HB6:=Lib.hid (HBR.out.trans (hA0.mono HBR.out.size))
    have HO6:=Lib.hid (own_below HO.out hA0)
    clear hA0
    cases q2 with
    | false =>
     have HS2:=Lib.hid (show (l.take (k + 1)).filterMap (foR P) = (l.take k).filterMap (foR P) from by rw [HS.out];exact List.append_nil _)
     clear HS
     go_wp2
     go_roundw
     case rel=>exact ⟨k + 1,m,c,A,rfl,by go_num,by omega,by omega,Lib.hid (fun h9=>absurd rfl h9),Lib.hid (by rw [HS2.out];exact HO6.out),Lib.hid (by rw [HS2.out];exact HM.out),HB6⟩
     case measure=>simp [intOf];omega
    | true =>
     have HS2:=Lib.hid (show (l.take (k + 1)).filterMap (foR P) = (l.take k).filterMap (foR P) ++ [⟨x,1,1,-1⟩] from HS.out)
     clear HS
     go_upto_region 6 with fail
     have a9:=HAD.out wd HB6.out
     have hsz:=HB6.out.size
     go_wp2_with (first | (at_builtin;refine wpList_pushN wd [.int .i64 x,.int .i64 1,.int .i64 1,.int .i64 (-1)] rfl (.tmp 30) (.tmp 36) 36 rfl w1.heap.size 63 (.agg #[.int .i64 0,.int .i64 0,.int .i64 0,.int .i64 0]) 4 32 Try.underlying36 rm_info rfl (by decide) rfl (.slice A m c) m _ rfl HO6.out rfl (fun u hu=>by simp at hu;rcases hu with rfl | rfl | rfl | rfl <;> rfl) (by omega) (by omega) hsz ?_;intro v' w' ho' hg' hb1;obtain ⟨A',c',rfl⟩:=own_shape ho') | fail)
     have HO7:=Lib.hid (show w'.ownsRow w1.heap.size 63 4 (.slice A' (m + 1) c') (m + 1) (((l.take (k + 1)).filterMap (foR P)).flatMap rmc) by rw [HS2.out,List.flatMap_append];exact ho')
     have HB7:=Lib.hid (HB6.out.trans hb1)
     go_roundw
     case rel=>exact ⟨k + 1,m + 1,c',A',rfl,by go_num,by omega,by omega,Lib.hid (fun h9=>absurd rfl h9),HO7,Lib.hid (by rw [HS2.out,List.length_append,HM.out];rfl),HB7⟩
     case measure=>simp [intOf];omega
end Go.Proofs.Ytdnmpndnpfklcaa

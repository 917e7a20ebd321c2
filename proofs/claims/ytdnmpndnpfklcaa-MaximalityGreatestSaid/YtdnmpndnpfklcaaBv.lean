/- Walk of the law MaximalityGreatest. -/
import Derived.Test.YtdnmpndnpfklcaaBs
import Derived.Test.YtdnmpndnpfklcaaBu
namespace Go.Proofs.Ytdnmpndnpfklcaa
open Go.RowKit Go Go.Maps
set_option maxRecDepth 100000 in
set_option maxHeartbeats 6400000 in
theorem greatest_walk (g:Sm4) (u f:Int) (w:World) (h0:g.ok∧(0 ≤ u∧u ≤ 255)∧0 ≤ f∧f ≤ 255) :
    Calls Try.prog 7 #[.agg (sp4 g u f).toArray] w fun e w'=>e = .returned (.bool true)∧Below w.heap.size w w':=by
  obtain ⟨hg,hu,hf⟩:=h0
  have hlen:(sp4 g u f).length = 28:=by unfold sp4;rw [List.length_append,smc_len hg];rfl
  have hb1:=box_below w (.cells (sp4 g u f).toArray 27)
  have kx:=Blk.new w 27 (sp4 g u f)
  obtain ⟨w1,hw1⟩:∃ w1,w1 = w.alloc (.cells (sp4 g u f).toArray 27):=⟨_,rfl⟩
  rw [← hw1] at hb1 kx
  have HKN:=Lib.hid (law_Known28 w1)
  have HG:=Lib.hid hg
  have HU:=Lib.hid hu
  have HF:=Lib.hid hf
  have HLN:=Lib.hid hlen
  have HB1:=Lib.hid hb1
  have HKX:=Lib.hid kx
  have HW1:=Lib.hid hw1
  clear hg hu hf hlen hb1 kx hw1
  go_enter Try.func7,Try.ntmps7
  go_upto_region 1 with fail
  rw [← HW1.out]
  go_wp2_with fail
  refine HKN.out.mono ?_
  rintro e w2 ⟨rfl,hb2⟩
  have HB2:=Lib.hid (HB1.out.trans (hb2.mono HB1.out.size))
  have HK2:=Lib.hid (HKX.out.below hb2 HKX.out.lt)
  clear HKN hb2 HKX HB1 HW1
  have hrg:w2.rangeAt w.heap.size 0 (sp4 g u f):=fun j v hj=>by rw [Nat.zero_add];exact HK2.out.cell hj
  go_wp2_with (first | (refine wpList_load_mid rfl 27 (.tmp 1) rfl w.heap.size 0 rfl (sp4 g u f) _ hrg Try.underlying27 rfl (by rw [HLN.out];kernel_rfl) ?_) | fail)
  refine (law_Make28 g u f w2 HG.out HU.out HF.out).mono ?_
  rintro e w3 ⟨z1,rfl,hz1,hm1,hb3⟩
  have HM1:=Lib.hid hm1
  have HB3:=Lib.hid (HB2.out.trans (hb3.mono HB2.out.size))
  have HK3:=Lib.hid (HK2.out.below hb3 HK2.out.lt)
  clear hrg hb3 HB2 HK2 hm1
  have HPB:=Lib.hid (show ∀ z:PB,pbc z = [.slice z.x.A z.x.na z.x.ca,.int .i64 z.x.a.st,.slice z.x.M z.x.nm z.x.cm,.slice z.x.E z.x.ne z.x.ce,.slice z.u.A z.u.n z.u.c,.slice z.f.A z.f.n z.f.c] from fun z=>rfl)
  rw [HPB.out z1]
  have hbx:=box_below w3 (.cells #[.slice z1.x.A z1.x.na z1.x.ca,.int .i64 z1.x.a.st,.slice z1.x.M z1.x.nm z1.x.cm,.slice z1.x.E z1.x.ne z1.x.ce,.slice z1.u.A z1.u.n z1.u.c,.slice z1.f.A z1.f.n z1.f.c] 34)
  have k7:=Blk.new w3 34 [.slice z1.x.A z1.x.na z1.x.ca,.int .i64 z1.x.a.st,.slice z1.x.M z1.x.nm z1.x.cm,.slice z1.x.E z1.x.ne z1.x.ce,.slice z1.u.A z1.u.n z1.u.c,.slice z1.f.A z1.f.n z1.f.c]
  have HZ4:=Lib.hid ((hz1.below hbx).more hbx.size)
  have HB4:=Lib.hid (HB3.out.trans (hbx.mono HB3.out.size))
  clear hz1 HB3 HK3
  go_upto_region 4 with fail
  obtain ⟨b7,hb7⟩:∃ b,w3.heap.size = b:=⟨_,rfl⟩
  rw [hb7] at k7 ⊢
  clear hb7 hbx
  generalize w3.alloc (.cells #[.slice z1.x.A z1.x.na z1.x.ca,.int .i64 z1.x.a.st,.slice z1.x.M z1.x.nm z1.x.cm,.slice z1.x.E z1.x.ne z1.x.ce,.slice z1.u.A z1.u.n z1.u.c,.slice z1.f.A z1.f.n z1.f.c] 34) = w4 at k7 HZ4 HB4 ⊢
  have HZ:=Lib.hid (fun (W:World) (hb:Below w4.heap.size w4 W)=>(HZ4.out.below hb).more hb.size)
  have HP:=Lib.hid (fun (W:World) (hb:Below w4.heap.size w4 W)=>Blk.c6 (k7.below hb k7.lt))
  clear k7
  have HOK:=Lib.hid (show z1.m.ok by rw [HM1.out];exact prb4_ok g u f)
  have HPR:=Lib.hid (fun (W:World) (hb:Below w4.heap.size w4 W)=>max_Prove z1 W (HZ.out W hb) HOK.out)
  obtain ⟨n,hn,hn1,hn6⟩:∃ n:Nat,z1.x.a.st = (n:Int)∧1 ≤ n∧n ≤ 6:=⟨g.n,by have e:z1.m.a.st = z1.x.a.st:=rfl;rw [← e,HM1.out];rfl,g.n_le⟩
  have HN:=Lib.hid hn
  have HEL:=Lib.hid (show z1.x.ne ≤ 1000000 by have h1:=HOK.out.wf.ed_le;have h2:z1.m.a.ed.length = z1.x.ne:=(HZ.out w4 (Below.refl _ _)).x.le;omega)
  have HADM:=Lib.hid (fun (S:Option Addr) (cs ns:Nat) (set:List Int) (W:World) (hb:Below w4.heap.size w4 W) (hsl:set.length = ns) (hS:RdI W W.heap.size S set) (hs1:ns ≤ cs) (hs2:cs ≤ 9223372036854775807) (hsi:Inc set) (hsr:∀ t ∈ set,0 ≤ t∧t < (n:Int))=>law_admissible z1 n S cs ns set W (HZ.out W hb) HOK.out hn HEL.out hsl hS hs1 hs2 hsi hsr)
  have HPAD:=Lib.hid (fun (S:Option Addr) (cs ns:Nat) (set:List Int) (W:World) (hb:Below w4.heap.size w4 W) (hsl:set.length = ns) (hS:RdI W W.heap.size S set) (hs1:ns ≤ cs) (hs2:cs ≤ 9223372036854775807) (hsi:Inc set) (hsr:∀ t ∈ set,0 ≤ t∧t < (n:Int))=>max_Admissible z1 n S cs ns set W (HZ.out W hb) HOK.out hn hsl hS hs1 hs2 (setErr_fit hsi hsr) hsr)
  rw [HPB.out z1] at HPR HADM HPAD
  rw [hn] at HPR HADM HPAD HP ⊢
  clear hn
  obtain ⟨⟨a0,a1,a2,a3,a4⟩,a5⟩:=HP.out w4 (Below.refl _ _)
  go_wp2_with fail
  refine (HPR.out w4 (Below.refl _ _)).mono ?_
  rintro e w8 ⟨C,rfl,hC,hCe,hb8⟩
  have HCE:=Lib.hid hCe
  have HCV:=Lib.hid (show cvc C = [.slice C.k.A C.k.n C.k.c,.slice C.d.A C.d.n C.d.c,.slice C.R C.rn C.rc] from rfl)
  rw [HCV.out]
  clear a0 a1 a2 a3 a4 a5 hCe HPR
  have hbx:=box_below w8 (.cells #[.slice C.k.A C.k.n C.k.c,.slice C.d.A C.d.n C.d.c,.slice C.R C.rn C.rc] 38)
  have k9:=Blk.new w8 38 [.slice C.k.A C.k.n C.k.c,.slice C.d.A C.d.n C.d.c,.slice C.R C.rn C.rc]
  have hc9:=(hC.below hbx).more hbx.size
  have HB49:=Lib.hid (hb8.trans (hbx.mono hb8.size))
  go_upto_region 5 with fail
  obtain ⟨b9,hb9⟩:∃ b,w8.heap.size = b:=⟨_,rfl⟩
  rw [hb9] at k9 ⊢
  clear hb9 hbx hC hb8
  generalize w8.alloc (.cells #[.slice C.k.A C.k.n C.k.c,.slice C.d.A C.d.n C.d.c,.slice C.R C.rn C.rc] 38) = w9 at k9 hc9 HB49 ⊢
  have HCO:=Lib.hid (fun (W:World) (hb:Below w9.heap.size w9 W)=>(hc9.below hb).more hb.size)
  have HCK:=Lib.hid (fun (W:World) (hb:Below w9.heap.size w9 W)=>Blk.c3 (k9.below hb k9.lt))
  have H49:=Lib.hid (fun (W:World) (hb:Below w9.heap.size w9 W)=>HB49.out.trans (hb.mono HB49.out.size))
  clear k9 hc9
  have HCF:=Lib.hid (show FOk z1.m.a.st C.ce∧VOk z1.m C.ce by rw [HCE.out];exact prvC_ok HOK.out)
  have HST:=Lib.hid (show z1.m.a.st = (n:Int) from HN.out)
  have hcr:∀ t ∈ C.k.l,0 ≤ t∧t < (n:Int):=fun t ht=>by rw [← HST.out];exact HCF.out.1.krng t ht
  have HKA:=Lib.hid (HADM.out C.k.A C.k.c C.k.n C.k.l w9 HB49.out (HCO.out w9 (Below.refl _ _)).k.la (HCO.out w9 (Below.refl _ _)).k.ra (HCO.out w9 (Below.refl _ _)).k.ac (HCO.out w9 (Below.refl _ _)).k.cA HCF.out.1.kinc hcr)
  clear hcr
  obtain ⟨⟨a0,a1,a2,a3,a4⟩,a5⟩:=HP.out w9 HB49.out
  obtain ⟨c0,c1,c2⟩:=HCK.out w9 (Below.refl _ _)
  go_wp2_with fail
  refine HKA.out.mono ?_
  rintro e wa ⟨q,rfl,hq,hba⟩
  obtain rfl:q = true:=hq.2 (kept_adS HOK.out HST.out HCF.out)
  have HBA:=Lib.hid hba
  clear a0 a1 a2 a3 a4 a5 c0 c1 c2 HKA hq hba
  go_wp2
  go_loopw [6,7,8,9,10] (fun s6 s7 s8 s9 s10 wr=>∃ (b:Nat) (v7 v8 v9 v10:Value),s6 = .int .i64 b∧s7 = v7∧s8 = v8∧s9 = v9∧s10 = v10∧b ≤ 2 ^ n∧Hid (Below w9.heap.size w9 wr)) (fun s6 _ _ _ _ _=>2 ^ n - (intOf s6).toNat)
  case atStart=>exact ⟨0,_,_,_,_,rfl,rfl,rfl,rfl,rfl,Nat.zero_le _,HBA⟩
  case round =>
    obtain ⟨b,v7,v8,v9,v10,rfl,rfl,rfl,rfl,rfl,hb,HBR⟩:=hrel
    have hpw:2 ^ n ≤ 64:=Nat.pow_le_pow_right (by omega) hn6
    obtain ⟨⟨a0,a1,a2,a3,a4⟩,a5⟩:=HP.out wr (H49.out wr HBR.out)
    go_upto_region 8 with fail
    go_cut [34] from 29 (fun s34 wx=>∃ q:Bool,s34 = .bool q∧Hid (q = true ↔ b < 2 ^ n)∧wx = wr)
    case first =>
      have hn9:n = 1 ∨ n = 2 ∨ n = 3 ∨ n = 4 ∨ n = 5 ∨ n = 6:=by omega
      rcases hn9 with rfl | rfl | rfl | rfl | rfl | rfl
      all_goals
        go_wp2_with fail
        go_meet
        case rel=>exact ⟨_,rfl,Lib.hid ⟨fun h9=>by have h8:=of_decide_eq_true h9;omega,fun h9=>decide_eq_true (by omega)⟩,rfl⟩
    case rest =>
      obtain ⟨q,rfl,HQ,rfl⟩:=hcut
      obtain ⟨wo,rfl⟩:∃ wo,wo = wc:=⟨_,rfl⟩
      clear a0 a1 a2 a3 a4 a5
      cases q with
      | false =>
        go_wp2
        go_ret
        exact ⟨rfl,HB4.out.trans ((H49.out _ HBR.out).mono HB4.out.size)⟩
      | true =>
        have hlt:=HQ.out.1 rfl
        obtain ⟨⟨a0,a1,a2,a3,a4⟩,a5⟩:=HP.out wo (H49.out wo HBR.out)
        have hwr:IntKind.u8.wrap (b:Int) = (b:Int):=IntWalk.u8_in _ (by omega)
        obtain ⟨set,hset⟩:∃ q,setB (b:Int) n = q:=⟨_,rfl⟩
        obtain ⟨m,hm⟩:∃ q,set.length = q:=⟨_,rfl⟩
        have HBI:=Lib.hid (law_Bits (b:Int) n wo (by omega) (by omega))
        have HSI:=Lib.hid (show Inc set from hset ▸ setB_inc _ _)
        have HSN:=Lib.hid (show ∀ t ∈ set,0 ≤ t∧t < (n:Int) from fun t ht=>by
          rw [← hset] at ht
          obtain ⟨i,h1,rfl,_⟩:=setB_mem.1 ht
          omega)
        rw [hset] at HBI
        have hm4:m ≤ 4096:=by have h9:=inc_len (n:=n) HSI.out HSN.out;omega
        have HML:=Lib.hid hm
        clear hset hm
        go_wp2_with fail
        refine HBI.out.mono ?_
        rintro e wb ⟨v,rfl,ho,hbb⟩
        rw [HML.out] at ho
        obtain ⟨SA,sc,rfl⟩:=own_shape ho
        have hcp:=own_cap' ho
        have HBB:=Lib.hid (HBR.out.trans (hbb.mono HBR.out.size))
        have HSR:=Lib.hid (fun (W:World) (hb:Below wb.heap.size wb W)=>rdI_own HML.out (own_below ho hb))
        obtain ⟨q1,hq1⟩:∃ q,adB z1.m n set = q:=⟨_,rfl⟩
        have HPQ:=Lib.hid (HPAD.out SA sc m set wb (H49.out wb HBB.out) HML.out (HSR.out wb (Below.refl _ _)) hcp.1 hcp.2 HSI.out HSN.out)
        have HAQ:=Lib.hid (fun (W:World) (hb:Below wb.heap.size wb W)=>HADM.out SA sc m set W (H49.out W (HBB.out.trans (hb.mono HBB.out.size))) HML.out (HSR.out W hb) hcp.1 hcp.2 HSI.out HSN.out)
        have HSC:=Lib.hid hcp
        have HGR:=Lib.hid (fun (h:q1 = true) (s:Int) (hs:s ∈ set)=>adB_great HOK.out HST.out HSN.out HCF.out (hq1.trans h) hs)
        have HEQ:=Lib.hid (show q1 = true ↔ ∀ s ∈ set,AdS z1.m n set s by rw [← hq1];exact adB_eq HOK.out HST.out HSN.out)
        rw [hq1] at HPQ
        clear a0 a1 a2 a3 a4 a5 HBI ho hbb hcp hq1
        obtain ⟨⟨a0,a1,a2,a3,a4⟩,a5⟩:=HP.out wb (H49.out wb HBB.out)
        go_wp2_with fail
        refine HPQ.out.mono ?_
        rintro e wc2 ⟨rfl,hbc⟩
        have HBC:=Lib.hid hbc
        clear a0 a1 a2 a3 a4 a5 HPQ hbc
        obtain ⟨⟨a0,a1,a2,a3,a4⟩,a5⟩:=HP.out wc2 (H49.out wc2 (HBB.out.trans (HBC.out.mono HBB.out.size)))
        go_wp2_with fail
        refine (HAQ.out wc2 HBC.out).mono ?_
        rintro e wd2 ⟨q2,rfl,hq2,hbd⟩
        obtain rfl:q2 = q1:=Bool.eq_iff_iff.2 (hq2.trans HEQ.out.symm)
        have HBD:=Lib.hid (HBC.out.trans (hbd.mono HBC.out.size))
        have H9D:=Lib.hid (HBB.out.trans (HBD.out.mono HBB.out.size))
        clear a0 a1 a2 a3 a4 a5 HAQ hq2 hbd HBC
        cases q2 with
        | false =>
          go_wp2
          go_loopw [10] (fun s10 wr=>s10 = .int .i64 0∧Hid (Below w9.heap.size w9 wr)) (fun s10 _=>1 - (intOf s10).toNat)
          case atStart=>exact ⟨rfl,H9D⟩
          case round =>
            obtain ⟨rfl,HBS⟩:=hrel
            by_cases hm0:0 < m
            · have b2:(0:Int) < (m:Int):=by omega
              go_wp2
              go_roundw
              case rel=>exact ⟨b + 1,_,_,_,_,by go_num,rfl,rfl,rfl,rfl,by omega,HBS⟩
              case measure=>simp [intOf];omega
            · have b2:¬ (0:Int) < (m:Int):=by omega
              go_wp2
              go_roundw
              case rel=>exact ⟨b + 1,_,_,_,_,by go_num,rfl,rfl,rfl,rfl,by omega,HBS⟩
              case measure=>simp [intOf];omega
        | true =>
          go_wp2
          go_loopw [10] (fun s10 wr=>∃ i:Nat,s10 = .int .i64 i∧i ≤ m∧Hid (Below wb.heap.size wb wr)) (fun s10 _=>m - (intOf s10).toNat)
          case atStart=>exact ⟨0,rfl,Nat.zero_le _,HBD⟩
          case round =>
            obtain ⟨i,rfl,hi,HBS⟩:=hrel
            have HBT:=Lib.hid (HBB.out.trans (HBS.out.mono HBB.out.size))
            by_cases hlm:i < m
            case neg =>
              obtain rfl:i = m:=by omega
              have b2:¬ (i:Int) < (i:Int):=by omega
              go_wp2
              go_roundw
              case rel=>exact ⟨b + 1,_,_,_,_,by go_num,rfl,rfl,rfl,rfl,by omega,HBT⟩
              case measure=>simp [intOf];omega
            have b2:(i:Int) < (m:Int):=by omega
            obtain ⟨x,hx⟩:∃ x,set[i]? = some x:=⟨_,List.getElem?_eq_getElem (by rw [HML.out];exact hlm)⟩
            obtain ⟨ad,hA,_,hcell⟩:=(HSR.out wr HBS.out) i (.int .i64 x) (by rw [iv_get,hx];rfl)
            subst hA
            obtain ⟨hcp1,hcp2⟩:=HSC.out
            have HAD:=Lib.hid (fun (W:World) (hb:Below wr.heap.size wr W)=>(hb.cell (World.block_lt_of_cell? _ _ hcell)).trans hcell)
            have HHS:=Lib.hid (fun (W:World) (hb:Below w9.heap.size w9 W)=>law_has C.k.A C.k.c C.k.n C.k.l x true W (HCO.out W hb).k.la (HCO.out W hb).k.ra (by have h1:=(HCO.out W hb).k.ac;have h2:=(HCO.out W hb).k.cA;omega) (hasB_mem.2 (HGR.out (by trivial) x (List.mem_of_getElem? hx))))
            clear hx hcell
            go_upto_region 17 with fail
            refine wp_region_U (fun W=>Below wr.heap.size wr W) (fun _=>True) 99 (by kernel_rfl) ?_
            change anyU _ _ _ _ _ _ _ 8 _ _ _
            have hB0:True:=trivial
            have hA0:=below_dr wr
            generalize wr.drew = wd at hA0 ⊢
            (refine uA 0 ?_ rfl hA0 hB0 (fun W hA=>?_) ?_;rotate_left;(· (go_simp;try with_reducible rfl));(try simp only [Act.put,List.setIfInBounds_toArray,List.set_cons_zero,List.set_cons_succ]))
            (refine uA 1 ?_ rfl hA0 hB0 (fun W hA=>?_) ?_;rotate_left;(· (obtain ⟨a0,a1,a2⟩:=HCK.out W (HBT.out.trans (hA.mono HBT.out.size));go_simp;try with_reducible rfl));(try simp only [Act.put,List.setIfInBounds_toArray,List.set_cons_zero,List.set_cons_succ]))
            (refine uA 2 ?_ rfl hA0 hB0 (fun W hA=>?_) ?_;rotate_left;(· (go_simp;try with_reducible rfl));refine uA 3 ?_ rfl hA0 hB0 (fun W hA=>?_) ?_;rotate_left;(· (go_simp;try with_reducible rfl));(try simp only [Act.put,List.setIfInBounds_toArray,List.set_cons_zero,List.set_cons_succ]))
            (refine uA 4 ?_ rfl hA0 hB0 (fun W hA=>?_) ?_;rotate_left;(· (go_simp;try with_reducible rfl));(try simp only [Act.put,List.setIfInBounds_toArray,List.set_cons_zero,List.set_cons_succ]))
            (refine uA 5 ?_ rfl hA0 hB0 (fun W hA=>?_) ?_;rotate_left;(· (have a0:=HAD.out W hA;go_simp;try with_reducible rfl));(try simp only [Act.put,List.setIfInBounds_toArray,List.set_cons_zero,List.set_cons_succ]))
            refine uOne (i:=6) rfl (by kernel_rfl) (fun K hK=>?_)
            go_simp
            go_at_call 21
            refine (HHS.out wd (HBT.out.trans (hA0.mono HBT.out.size))).mono ?_
            rintro e w9x ⟨rfl,rfl⟩
            (refine hK _ _ ⟨hA0,fun _=>hB0⟩ ?_;clear hK K;(try simp only [Act.put,List.setIfInBounds_toArray,List.set_cons_zero,List.set_cons_succ]))
            (refine uA 7 ?_ rfl hA0 hB0 (fun W hA=>?_) ?_;rotate_left;(· (go_simp;try with_reducible rfl));(try simp only [Act.put,List.setIfInBounds_toArray,List.set_cons_zero,List.set_cons_succ]))
            refine anyU_done (by kernel_rfl) ?_ _
            have HBN:=Lib.hid (HBS.out.trans (hA0.mono HBS.out.size))
            clear hA0
            go_wp2
            go_roundw
            case rel=>exact ⟨i + 1,by go_num,by omega,HBN⟩
            case measure=>simp [intOf];omega
end Go.Proofs.Ytdnmpndnpfklcaa

/- The law's known of chapter 28. -/
import Derived.Test.YtdnmpndnpfklcaaBc
import Derived.Test.YtdnmpndnpfklcaaXt
import Derived.Test.YtdnmpndnpfklcaaXz
import Derived.Test.YtdnmpndnpfklcaaIv
import Derived.Deep.Cut
import Derived.Deep.CutRange
namespace Go.Proofs.Ytdnmpndnpfklcaa
open Go.RowKit Go Go.Maps
theorem exC_FOk:FOk exP8.a.st exC:=by rw [← exC_eq];exact (prvC_ok exM_ok).1
theorem exC_VOk:VOk exP8 exC:=by rw [← exC_eq];exact (prvC_ok exM_ok).2
theorem own_empty (w:World) (base:Nat) (hb:base ≤ w.heap.size) (e:TypeId) (sz:Nat):(w.alloc (.cells #[] e)).ownsRow base e sz (.slice (some ⟨w.heap.size,0,none⟩) 0 0) 0 [] :=
 ⟨by simp,.inr ⟨w.heap.size,0,#[],rfl,hb,heap_alloc_new w _,Nat.le_refl _,by unfold maxLen;omega,by simp,by simp⟩⟩
theorem exC_rm1:rmOf exC 1 = some ⟨1,2,2,3⟩:=by rfl
set_option maxRecDepth 100000 in
set_option maxHeartbeats 6400000 in
theorem law_known28 (w:World):Calls Try.prog 34 #[] w fun e w'=>e = .returned (.bool true)∧Below w.heap.size w w':=by
 go_enter Try.func34,Try.ntmps34
 go_wp2_with fail
 refine (law_example28 w).mono ?_
 rintro e w1 ⟨z,rfl,hz,hm,hb1⟩
 have HPR:=Lib.hid (max_Prove z w1 hz (by rw [hm];exact exM_ok))
 rw [hm] at HPR
 have HB1:=Lib.hid hb1
 clear hz hb1 hm
 go_wp2_with fail
 refine HPR.out.mono ?_
 rintro e w2 ⟨c,rfl,hc,hce,hb2⟩
 rw [exC_eq] at hce
 obtain ⟨⟨KA,kn,kc,kl⟩,⟨DA,dn,dc,dl⟩,RA,rn,rc,rl⟩:=c
 obtain rfl:kl = [0,3]:=congrArg Ce.kp hce
 obtain rfl:dl = [0,1]:=congrArg Ce.ds hce
 obtain rfl:rl = [⟨1,2,2,3⟩,⟨2,1,1,-1⟩]:=congrArg Ce.rm hce
 obtain rfl:kn = 2:=hc.k.la.symm
 obtain rfl:dn = 2:=hc.d.la.symm
 obtain rfl:rn = 2:=hc.rl.symm
 obtain ⟨C,hC⟩:∃ q:CV,q = ⟨⟨KA,2,kc,[0,3]⟩,⟨DA,2,dc,[0,1]⟩,RA,2,rc,[⟨1,2,2,3⟩,⟨2,1,1,-1⟩]⟩:=⟨_,rfl⟩
 rw [← hC] at hc hce ⊢
 have HCV:=Lib.hid (show cvc C = [.slice KA 2 kc,.slice DA 2 dc,.slice RA 2 rc] by rw [hC];rfl)
 have HKL:=Lib.hid (show C.k = ⟨KA,2,kc,[0,3]⟩ by rw [hC])
 have HDL:=Lib.hid (show C.d = ⟨DA,2,dc,[0,1]⟩ by rw [hC])
 have HRL:=Lib.hid (show C.R = RA∧C.rm = [⟨1,2,2,3⟩,⟨2,1,1,-1⟩] by rw [hC];exact ⟨rfl,rfl⟩)
 have HCE:=Lib.hid hce
 have hrn:C.rn = 2:=by rw [hC]
 rw [HCV.out]
 have HB2:=Lib.hid (HB1.out.trans (hb2.mono HB1.out.size))
 clear HPR hC hce
 go_upto_region 2 with fail
 have hbx:=box_below w2 (.cells #[.slice KA 2 kc,.slice DA 2 dc,.slice RA 2 rc] 38)
 have kc9:=Blk.new w2 38 [.slice KA 2 kc,.slice DA 2 dc,.slice RA 2 rc]
 have HB3:=Lib.hid (HB2.out.trans (hbx.mono HB2.out.size))
 have hcb:=(hc.below hbx).more hbx.size
 obtain ⟨b1,hb1⟩:∃ b,w2.heap.size = b:=⟨_,rfl⟩
 rw [hb1] at kc9 ⊢
 clear hb1 hbx hc hb2
 generalize w2.alloc (.cells #[.slice KA 2 kc,.slice DA 2 dc,.slice RA 2 rc] 38) = w3 at kc9 hcb HB3 ⊢
 have HCO:=Lib.hid (fun (W:World) (hb:Below w3.heap.size w3 W)=>(hcb.below hb).more hb.size)
 have HKC:=Lib.hid (fun (W:World) (hb:Below w3.heap.size w3 W)=>kc9.below hb kc9.lt)
 have HKK:=Lib.hid (show ∀ W,Below w3.heap.size w3 W → RdI W W.heap.size KA [0,3] from fun W hb=>by have h:=(HCO.out W hb).k.ra;rw [HKL.out] at h;exact h)
 have HKD:=Lib.hid (show ∀ W,Below w3.heap.size w3 W → RdI W W.heap.size DA [0,1] from fun W hb=>by have h:=(HCO.out W hb).d.ra;rw [HDL.out] at h;exact h)
 have hkc:2 ≤ kc∧kc ≤ 9223372036854775807:=by have h1:=hcb.k.ac;have h2:=hcb.k.cA;rw [HKL.out] at h1 h2;exact ⟨h1,h2⟩
 have hdc:2 ≤ dc∧dc ≤ 9223372036854775807:=by have h1:=hcb.d.ac;have h2:=hcb.d.cA;rw [HDL.out] at h1 h2;exact ⟨h1,h2⟩
 have hrc:2 ≤ C.rc∧C.rc ≤ 9223372036854775807:=by have h1:=hcb.r1;have h2:=hcb.r2;rw [hrn] at h1;exact ⟨h1,h2⟩
 have hrce:C.rc = rc:=by
  have e:=HCV.out
  unfold cvc at e
  injection e with _ e
  injection e with _ e
  injection e with e _
  injection e with _ _ e
 rw [hrce] at hrc
 have HRN:=Lib.hid hrn;clear hrn
 have HKCC:=Lib.hid hkc;clear hkc
 have HDCC:=Lib.hid hdc;clear hdc
 have HRCC:=Lib.hid hrc;clear hrc
 clear hcb kc9 hrce
 obtain ⟨c0,c1,c2⟩:=Blk.c3 (HKC.out w3 (Below.refl _ _))
 have hx1:=box_below w3 (.cells #[.int .i64 0,.int .i64 3] 3)
 have kk:Blk (w3.alloc (.cells #[.int .i64 0,.int .i64 3] 3)) w3.heap.size 3 (iv [0,3]):=Blk.new _ _ [_,_]
 have HS1:=Lib.hid (law_same_n KA (some ⟨w3.heap.size,0,none⟩) kc 2 2 2 [0,3] [0,3] true _ rfl rfl (by decide) (HKK.out _ hx1) HKCC.out.1 HKCC.out.2 (rdI_blk kk))
 have HX1:=Lib.hid hx1
 clear hx1 kk
 go_wp2_with fail
 refine HS1.out.mono ?_
 rintro e w4 ⟨rfl,hb9⟩
 have HB34:=Lib.hid (HX1.out.trans (hb9.mono HX1.out.size))
 clear HS1 hb9 HX1 c0 c1 c2
 obtain ⟨c0,c1,c2⟩:=Blk.c3 (HKC.out w4 HB34.out)
 have hx1:=box_below w4 (.cells #[.int .i64 0,.int .i64 1] 3)
 have q1:=HB34.out.trans (hx1.mono HB34.out.size)
 have kk:Blk (w4.alloc (.cells #[.int .i64 0,.int .i64 1] 3)) w4.heap.size 3 (iv [0,1]):=Blk.new _ _ [_,_]
 have HS1:=Lib.hid (law_same_n DA (some ⟨w4.heap.size,0,none⟩) dc 2 2 2 [0,1] [0,1] true _ rfl rfl (by decide) (HKD.out _ q1) HDCC.out.1 HDCC.out.2 (rdI_blk kk))
 have HX1:=Lib.hid q1
 clear hx1 kk q1
 go_wp2_with fail
 refine HS1.out.mono ?_
 rintro e w5 ⟨rfl,hb9⟩
 have HB35:=Lib.hid (HX1.out.trans (hb9.mono HX1.out.size))
 clear HS1 hb9 HX1 c0 c1 c2
 obtain ⟨c0,c1,c2⟩:=Blk.c3 (HKC.out w5 HB35.out)
 go_upto_region 4 with fail
 clear c0 c1 c2
 -- the supervisor
 have HEX:=Lib.hid law_example28
 have HSV:=Lib.hid (show ∀ (z:PB) (W:World),z.ok W W.heap.size → z.m = exP8 → Below w3.heap.size w3 W → Calls Try.prog 19 #[.agg (pbc z).toArray,.agg #[.slice KA 2 kc,.slice DA 2 dc,.slice RA 2 rc]] W (RetAQ ⟨[0,1,2,3],2,[0],[⟨0,1,1⟩,⟨1,2,0⟩]⟩ W) from fun z W hz hm hb=>by
  have h:=max_Supervisor z C W hz (by rw [hm];exact exM_ok) (HCO.out W hb) (by rw [HRN.out];omega) (by rw [hm,HCE.out];exact exC_FOk) (by rw [hm,HCE.out];exact exC_VOk)
  rw [HCV.out,HKL.out,show z.x.a = exP8.a from congrArg Mx.a hm,exS] at h
  exact h)
 go_cut [3,4] from 35 to 40 (fun s3 s4 wx=>∃ (b3:Nat) (y:AV),s3 = .pointer (some ⟨b3,0,none⟩)∧s4 = .int .i64 0∧Hid (Blk wx b3 32 (avc y))∧Hid (y.a = ⟨[0,1,2,3],2,[0],[⟨0,1,1⟩,⟨1,2,0⟩]⟩∧y.ne = 2)∧Hid (Below w3.heap.size w3 wx))
 case first =>
  refine wp_region_U (fun W=>W.cell? ⟨b1,0,none⟩ = some (.slice KA 2 kc)∧W.cell? ⟨b1,1,none⟩ = some (.slice DA 2 dc)∧W.cell? ⟨b1,2,none⟩ = some (.slice RA 2 rc)) (fun _=>True) 99 (by kernel_rfl) ?_
  change anyU _ _ _ _ _ _ _ 9 _ _ _
  have hB0:True:=trivial
  have HBD:=Lib.hid (HB35.out.trans ((below_dr w5).mono HB35.out.size))
  generalize w5.drew = wd at HBD ⊢
  have hA0:=Blk.c3 (HKC.out wd HBD.out)
  (refine uA 1 ?_ rfl hA0 hB0 (fun W hA=>?_) ?_;rotate_left;(· (obtain ⟨a0,a1,a2⟩:=hA;go_simp;try with_reducible rfl));(try simp only [Act.put,List.setIfInBounds_toArray,List.set_cons_zero,List.set_cons_succ]))
  refine uTwo (i:=0) (j:=6) rfl rfl (by kernel_rfl) (fun K hK=>?_) (fun K hK=>?_)
  ·skip
   go_simp
   go_at_call 79
   refine (HEX.out wd).mono ?_
   rintro e wa ⟨z,rfl,hz,hm,hba⟩
   have HBA:=Lib.hid (HBD.out.trans (hba.mono HBD.out.size))
   have HBa:=Lib.hid hba
   have HZ:=Lib.hid hz
   have HM:=Lib.hid hm
   have hA1:=Blk.c3 (HKC.out wa HBA.out)
   clear hba hz hm
   (refine hK _ _ ⟨hA1,fun _=>hB0⟩ ?_;clear hK K;(try simp only [Act.put,List.setIfInBounds_toArray,List.set_cons_zero,List.set_cons_succ]))
   clear hA0
   have hA0:=hA1
   clear hA1
   refine uTwo (i:=2) (j:=6) rfl rfl (by kernel_rfl) (fun K hK=>?_) (fun K hK=>?_)
   ·skip
    go_simp
    go_at_call 19
    refine (HSV.out z wa HZ.out HM.out HBA.out).mono ?_
    rintro e wb ⟨y,rfl,hy,hya,hbb⟩
    have HBB:=Lib.hid (HBA.out.trans (hbb.mono HBA.out.size))
    have HBb:=Lib.hid hbb
    have HY:=Lib.hid (show y.a = ⟨[0,1,2,3],2,[0],[⟨0,1,1⟩,⟨1,2,0⟩]⟩∧y.ne = 2 from ⟨hya,by have h:=hy.le;rw [hya] at h;exact h.symm⟩)
    have hA2:=Blk.c3 (HKC.out wb HBB.out)
    have HAG:=Lib.hid (show avc y = [.slice y.A y.na y.ca,.int .i64 y.a.st,.slice y.M y.nm y.cm,.slice y.E y.ne y.ce] from rfl)
    clear hbb hy hya
    rw [HAG.out]
    (refine hK _ _ ⟨hA2,fun _=>hB0⟩ ?_;clear hK K;(try simp only [Act.put,List.setIfInBounds_toArray,List.set_cons_zero,List.set_cons_succ]))
    clear hA0
    have hA0:=hA2
    clear hA2
    (refine uA 3 ?_ rfl hA0 hB0 (fun W hA=>?_) ?_;rotate_left;(· (go_simp;try with_reducible rfl));refine uA 4 ?_ rfl hA0 hB0 (fun W hA=>?_) ?_;rotate_left;(· (go_simp;try with_reducible rfl));refine uA 5 ?_ rfl hA0 hB0 (fun W hA=>?_) ?_;rotate_left;(· (go_simp;try with_reducible rfl));(try simp only [Act.put,List.setIfInBounds_toArray,List.set_cons_zero,List.set_cons_succ]))
    refine uOne (i:=6) rfl (by kernel_rfl) (fun K hK=>?_)
    go_simp
    have hAx:=Blk.c3 (HKC.out _ (HBB.out.alloc HBB.out.size (.cells #[.slice none 0 0,.int .i64 0,.slice none 0 0,.slice none 0 0] 32)))
    (refine hK _ _ ⟨hAx,fun _=>hB0⟩ ?_;clear hK K;(try simp only [Act.put,List.setIfInBounds_toArray,List.set_cons_zero,List.set_cons_succ]))
    have hy:=box_below wb (.cells #[.slice y.A y.na y.ca,.int .i64 y.a.st,.slice y.M y.nm y.cm,.slice y.E y.ne y.ce] 32)
    have HKS:=Lib.hid (Blk.new wb 32 [.slice y.A y.na y.ca,.int .i64 y.a.st,.slice y.M y.nm y.cm,.slice y.E y.ne y.ce])
    have HF:=Lib.hid (HBB.out.trans (hy.mono HBB.out.size))
    have hA3:=Blk.c3 (HKC.out _ HF.out)
    refine uOne (i:=7) rfl (by kernel_rfl) (fun K hK=>?_)
    go_simp
    (refine hK _ _ ⟨hA3,fun _=>hB0⟩ ?_;clear hK K;(try simp only [Act.put,List.setIfInBounds_toArray,List.set_cons_zero,List.set_cons_succ]))
    clear hAx hy
    refine uOne (i:=8) rfl (by kernel_rfl) (fun K hK=>?_)
    go_simp
    (refine hK _ _ ⟨hA3,fun _=>hB0⟩ ?_;clear hK K;(try simp only [Act.put,List.setIfInBounds_toArray,List.set_cons_zero,List.set_cons_succ]))
    refine anyU_done (by kernel_rfl) ?_ _
    clear hA0 hA3
    go_wp2_with fail
    go_meet
    case rel=>exact ⟨wb.heap.size,y,rfl,rfl,HKS,HY,HF⟩
   ·skip
    go_simp
    have hbx:=box_below wa (.cells #[.slice none 0 0,.int .i64 0,.slice none 0 0,.slice none 0 0] 32)
    have HK9:=Lib.hid (Blk.new wa 32 [.slice none 0 0,.int .i64 0,.slice none 0 0,.slice none 0 0])
    have HBX:=Lib.hid (HBA.out.trans (hbx.mono HBA.out.size))
    have HBx:=Lib.hid hbx
    have hAx:=Blk.c3 (HKC.out _ HBX.out)
    clear hbx
    (refine hK _ _ ⟨hAx,fun _=>hB0⟩ ?_;clear hK K;(try simp only [Act.put,List.setIfInBounds_toArray,List.set_cons_zero,List.set_cons_succ]))
    have HL9:=Lib.hid HBA.out.size
    obtain ⟨b3,hb9⟩:∃ b,wa.heap.size = b:=⟨_,rfl⟩
    rw [hb9] at HK9 HL9 ⊢
    clear hb9
    generalize wa.alloc (.cells #[.slice none 0 0,.int .i64 0,.slice none 0 0,.slice none 0 0] 32) = we at HK9 HBX HBx hAx ⊢
    clear hAx
    have hAx:=Blk.c3 (HKC.out we HBX.out)
    refine uOne (i:=2) rfl (by kernel_rfl) (fun K hK=>?_)
    go_simp
    go_at_call 19
    refine (HSV.out z we ((HZ.out.below HBx.out).more HBx.out.size) HM.out HBX.out).mono ?_
    rintro e wb ⟨y,rfl,hy,hya,hbb⟩
    have HBB:=Lib.hid (HBX.out.trans (hbb.mono HBX.out.size))
    have HBb:=Lib.hid hbb
    have HY:=Lib.hid (show y.a = ⟨[0,1,2,3],2,[0],[⟨0,1,1⟩,⟨1,2,0⟩]⟩∧y.ne = 2 from ⟨hya,by have h:=hy.le;rw [hya] at h;exact h.symm⟩)
    have hA2:=Blk.c3 (HKC.out wb HBB.out)
    have HAG:=Lib.hid (show avc y = [.slice y.A y.na y.ca,.int .i64 y.a.st,.slice y.M y.nm y.cm,.slice y.E y.ne y.ce] from rfl)
    clear hbb hy hya
    rw [HAG.out]
    (refine hK _ _ ⟨hA2,fun _=>hB0⟩ ?_;clear hK K;(try simp only [Act.put,List.setIfInBounds_toArray,List.set_cons_zero,List.set_cons_succ]))
    have HK10:=Lib.hid (HK9.out.below HBb.out HK9.out.lt)
    clear hA0
    have hA0:=hA2
    clear hA2
    (refine uA 3 ?_ rfl hA0 hB0 (fun W hA=>?_) ?_;rotate_left;(· (go_simp;try with_reducible rfl));refine uA 4 ?_ rfl hA0 hB0 (fun W hA=>?_) ?_;rotate_left;(· (go_simp;try with_reducible rfl));refine uA 5 ?_ rfl hA0 hB0 (fun W hA=>?_) ?_;rotate_left;(· (go_simp;try with_reducible rfl));(try simp only [Act.put,List.setIfInBounds_toArray,List.set_cons_zero,List.set_cons_succ]))
    refine uOne (i:=7) rfl (by kernel_rfl) (fun K hK=>?_)
    have f0:=HK10.out.free 0
    have f1:=HK10.out.free 1
    have f2:=HK10.out.free 2
    have f3:=HK10.out.free 3
    have e0:=HK10.out.cell (j:=0) rfl
    have e1:=HK10.out.cell (j:=1) rfl
    have e2:=HK10.out.cell (j:=2) rfl
    have e3:=HK10.out.cell (j:=3) rfl
    have l0:=HK10.out.lt
    have HKS:=Lib.hid ((((HK10.out.set (j:=0) (by simp) (.slice y.A y.na y.ca)).set (j:=1) (by simp) (.int .i64 y.a.st)).set (j:=2) (by simp) (.slice y.M y.nm y.cm)).set (j:=3) (by simp) (.slice y.E y.ne y.ce))
    have hq:∀ k:Nat,w3.heap.size ≤ (⟨b3,k,none⟩:Addr).block:=fun k=>by show w3.heap.size ≤ b3;exact HL9.out
    have HF:=Lib.hid ((((HBB.out.setCell (p:=⟨b3,0,none⟩) (hq 0) (.slice y.A y.na y.ca)).setCell (p:=⟨b3,1,none⟩) (hq 1) (.int .i64 y.a.st)).setCell (p:=⟨b3,2,none⟩) (hq 2) (.slice y.M y.nm y.cm)).setCell (p:=⟨b3,3,none⟩) (hq 3) (.slice y.E y.ne y.ce))
    have hA3:=Blk.c3 (HKC.out _ HF.out)
    clear hq
    go_simp
    (refine hK _ _ ⟨hA3,fun _=>hB0⟩ ?_;clear hK K;(try simp only [Act.put,List.setIfInBounds_toArray,List.set_cons_zero,List.set_cons_succ]))
    clear f0 f1 f2 f3 e0 e1 e2 e3 l0
    clear hAx
    refine uOne (i:=8) rfl (by kernel_rfl) (fun K hK=>?_)
    go_simp
    (refine hK _ _ ⟨hA3,fun _=>hB0⟩ ?_;clear hK K;(try simp only [Act.put,List.setIfInBounds_toArray,List.set_cons_zero,List.set_cons_succ]))
    refine anyU_done (by kernel_rfl) ?_ _
    clear hA0 hA3
    go_wp2_with fail
    go_meet
    case rel=>exact ⟨b3,y,rfl,rfl,HKS,HY,HF⟩
  ·skip
   go_simp
   have hbx:=box_below wd (.cells #[.slice none 0 0,.int .i64 0,.slice none 0 0,.slice none 0 0] 32)
   have HK9:=Lib.hid (Blk.new wd 32 [.slice none 0 0,.int .i64 0,.slice none 0 0,.slice none 0 0])
   have HBX:=Lib.hid (HBD.out.trans (hbx.mono HBD.out.size))
   have HBx:=Lib.hid hbx
   have hAx:=Blk.c3 (HKC.out _ HBX.out)
   clear hbx
   (refine hK _ _ ⟨hAx,fun _=>hB0⟩ ?_;clear hK K;(try simp only [Act.put,List.setIfInBounds_toArray,List.set_cons_zero,List.set_cons_succ]))
   have HL9:=Lib.hid HBD.out.size
   obtain ⟨b3,hb9⟩:∃ b,wd.heap.size = b:=⟨_,rfl⟩
   rw [hb9] at HK9 HL9 ⊢
   clear hb9
   generalize wd.alloc (.cells #[.slice none 0 0,.int .i64 0,.slice none 0 0,.slice none 0 0] 32) = we at HK9 HBX HBx hAx ⊢
   clear hAx
   have hAx:=Blk.c3 (HKC.out we HBX.out)
   refine uOne (i:=0) rfl (by kernel_rfl) (fun K hK=>?_)
   go_simp
   go_at_call 79
   refine (HEX.out we).mono ?_
   rintro e wa ⟨z,rfl,hz,hm,hba⟩
   have HBA:=Lib.hid (HBX.out.trans (hba.mono HBX.out.size))
   have HBa:=Lib.hid hba
   have HZ:=Lib.hid hz
   have HM:=Lib.hid hm
   have hA1:=Blk.c3 (HKC.out wa HBA.out)
   clear hba hz hm
   (refine hK _ _ ⟨hA1,fun _=>hB0⟩ ?_;clear hK K;(try simp only [Act.put,List.setIfInBounds_toArray,List.set_cons_zero,List.set_cons_succ]))
   refine uOne (i:=2) rfl (by kernel_rfl) (fun K hK=>?_)
   go_simp
   go_at_call 19
   refine (HSV.out z wa HZ.out HM.out HBA.out).mono ?_
   rintro e wb ⟨y,rfl,hy,hya,hbb⟩
   have HBB:=Lib.hid (HBA.out.trans (hbb.mono HBA.out.size))
   have HBb:=Lib.hid hbb
   have HY:=Lib.hid (show y.a = ⟨[0,1,2,3],2,[0],[⟨0,1,1⟩,⟨1,2,0⟩]⟩∧y.ne = 2 from ⟨hya,by have h:=hy.le;rw [hya] at h;exact h.symm⟩)
   have hA2:=Blk.c3 (HKC.out wb HBB.out)
   have HAG:=Lib.hid (show avc y = [.slice y.A y.na y.ca,.int .i64 y.a.st,.slice y.M y.nm y.cm,.slice y.E y.ne y.ce] from rfl)
   clear hbb hy hya
   rw [HAG.out]
   (refine hK _ _ ⟨hA2,fun _=>hB0⟩ ?_;clear hK K;(try simp only [Act.put,List.setIfInBounds_toArray,List.set_cons_zero,List.set_cons_succ]))
   have HK10:=Lib.hid ((HK9.out.below HBa.out HK9.out.lt).below HBb.out (HK9.out.below HBa.out HK9.out.lt).lt)
   clear hA0
   have hA0:=hA2
   clear hA2 hA1
   (refine uA 3 ?_ rfl hA0 hB0 (fun W hA=>?_) ?_;rotate_left;(· (go_simp;try with_reducible rfl));refine uA 4 ?_ rfl hA0 hB0 (fun W hA=>?_) ?_;rotate_left;(· (go_simp;try with_reducible rfl));refine uA 5 ?_ rfl hA0 hB0 (fun W hA=>?_) ?_;rotate_left;(· (go_simp;try with_reducible rfl));(try simp only [Act.put,List.setIfInBounds_toArray,List.set_cons_zero,List.set_cons_succ]))
   refine uOne (i:=7) rfl (by kernel_rfl) (fun K hK=>?_)
   have f0:=HK10.out.free 0
   have f1:=HK10.out.free 1
   have f2:=HK10.out.free 2
   have f3:=HK10.out.free 3
   have e0:=HK10.out.cell (j:=0) rfl
   have e1:=HK10.out.cell (j:=1) rfl
   have e2:=HK10.out.cell (j:=2) rfl
   have e3:=HK10.out.cell (j:=3) rfl
   have l0:=HK10.out.lt
   have HKS:=Lib.hid ((((HK10.out.set (j:=0) (by simp) (.slice y.A y.na y.ca)).set (j:=1) (by simp) (.int .i64 y.a.st)).set (j:=2) (by simp) (.slice y.M y.nm y.cm)).set (j:=3) (by simp) (.slice y.E y.ne y.ce))
   have hq:∀ k:Nat,w3.heap.size ≤ (⟨b3,k,none⟩:Addr).block:=fun k=>by show w3.heap.size ≤ b3;exact HL9.out
   have HF:=Lib.hid ((((HBB.out.setCell (p:=⟨b3,0,none⟩) (hq 0) (.slice y.A y.na y.ca)).setCell (p:=⟨b3,1,none⟩) (hq 1) (.int .i64 y.a.st)).setCell (p:=⟨b3,2,none⟩) (hq 2) (.slice y.M y.nm y.cm)).setCell (p:=⟨b3,3,none⟩) (hq 3) (.slice y.E y.ne y.ce))
   have hA3:=Blk.c3 (HKC.out _ HF.out)
   clear hq
   go_simp
   (refine hK _ _ ⟨hA3,fun _=>hB0⟩ ?_;clear hK K;(try simp only [Act.put,List.setIfInBounds_toArray,List.set_cons_zero,List.set_cons_succ]))
   clear f0 f1 f2 f3 e0 e1 e2 e3 l0
   clear hAx
   refine uOne (i:=8) rfl (by kernel_rfl) (fun K hK=>?_)
   go_simp
   (refine hK _ _ ⟨hA3,fun _=>hB0⟩ ?_;clear hK K;(try simp only [Act.put,List.setIfInBounds_toArray,List.set_cons_zero,List.set_cons_succ]))
   refine anyU_done (by kernel_rfl) ?_ _
   clear hA0 hA3
   go_wp2_with fail
   go_meet
   case rel=>exact ⟨b3,y,rfl,rfl,HKS,HY,HF⟩
 case rest =>
  obtain ⟨b3,y,rfl,rfl,HK3,HYA,HBC⟩:=hcut
  -- Explain
  have HXP:=Lib.hid (show ∀ (z:PB) (W:World),z.ok W W.heap.size → z.m = exP8 → Below w3.heap.size w3 W → Calls Try.prog 22 #[.agg (pbc z).toArray,.agg #[.slice KA 2 kc,.slice DA 2 dc,.slice RA 2 rc],.int .i64 1] W (fun e W'=>∃ (A:Option Addr) (c:Nat),e = .returned (.tuple #[.slice A 2 c,.int .i64 0])∧W'.ownsRow W.heap.size 63 4 (.slice A 2 c) 2 (([⟨1,2,2,3⟩,⟨2,1,1,-1⟩]:List Rm).flatMap rmc)∧Below W.heap.size W W') from fun z W hz hm hb=>by
   have h:=max_Explain z C 1 W hz (by rw [hm];exact exM_ok) (HCO.out W hb) (by rw [HRN.out];omega) (by rw [hm,HCE.out];exact exC_FOk) (by rw [hm,HCE.out];exact exC_VOk) (by rw [hm];decide)
   rw [HCV.out,hm,HCE.out] at h
   refine h.mono ?_
   rintro e W' (⟨h1,_⟩ | ⟨L,v,h1,_,h2,h3,h4⟩)
   ·rw [exC_rm1] at h1;cases h1
   ·obtain rfl:=h1.unique exE
    obtain ⟨A,c,rfl⟩:=own_shape h3
    exact ⟨A,c,h2,h3,h4⟩)
  go_upto_region 5 with fail
  refine wp_region_U (fun W=>W.cell? ⟨b1,0,none⟩ = some (.slice KA 2 kc)∧W.cell? ⟨b1,1,none⟩ = some (.slice DA 2 dc)∧W.cell? ⟨b1,2,none⟩ = some (.slice RA 2 rc)) (fun _=>True) 99 (by kernel_rfl) ?_
  change anyU _ _ _ _ _ _ _ 8 _ _ _
  have hB0:True:=trivial
  have HBD:=Lib.hid (below_dr wc)
  generalize wc.drew = wd at HBD ⊢
  have HCD:=Lib.hid (HBC.out.trans (HBD.out.mono HBC.out.size))
  have hA0:=Blk.c3 (HKC.out wd HCD.out)
  (refine uA 1 ?_ rfl hA0 hB0 (fun W hA=>?_) ?_;rotate_left;(· (obtain ⟨a0,a1,a2⟩:=hA;go_simp;try with_reducible rfl));(try simp only [Act.put,List.setIfInBounds_toArray,List.set_cons_zero,List.set_cons_succ]))
  refine uOne (i:=0) rfl (by kernel_rfl) (fun K hK=>?_)
  go_simp
  go_at_call 79
  refine (HEX.out wd).mono ?_
  rintro e wa ⟨z,rfl,hz,hm,hba⟩
  have HBA:=Lib.hid (HBD.out.trans (hba.mono HBD.out.size))
  have HCA:=Lib.hid (HBC.out.trans (HBA.out.mono HBC.out.size))
  have HZ:=Lib.hid hz
  have HM:=Lib.hid hm
  have hA1:=Blk.c3 (HKC.out wa HCA.out)
  clear hba hz hm
  (refine hK _ _ ⟨hA1,fun _=>hB0⟩ ?_;clear hK K;(try simp only [Act.put,List.setIfInBounds_toArray,List.set_cons_zero,List.set_cons_succ]))
  refine uOne (i:=2) rfl (by kernel_rfl) (fun K hK=>?_)
  go_simp
  go_at_call 22
  refine (HXP.out z wa HZ.out HM.out HCA.out).mono ?_
  rintro e wb ⟨LA,lc,rfl,hlo,hbb⟩
  have HLO:=Lib.hid hlo
  have HBB:=Lib.hid (HBA.out.trans (hbb.mono HBA.out.size))
  have HCB:=Lib.hid (HBC.out.trans (HBB.out.mono HBC.out.size))
  have hA2:=Blk.c3 (HKC.out wb HCB.out)
  clear hbb hlo
  (refine hK _ _ ⟨hA2,fun _=>hB0⟩ ?_;clear hK K;(try simp only [Act.put,List.setIfInBounds_toArray,List.set_cons_zero,List.set_cons_succ]))
  clear hA0 hA1
  have hA0:=hA2
  clear hA2
  (refine uA 3 ?_ rfl hA0 hB0 (fun W hA=>?_) ?_;rotate_left;(· (go_simp;try with_reducible rfl));refine uA 4 ?_ rfl hA0 hB0 (fun W hA=>?_) ?_;rotate_left;(· (go_simp;try with_reducible rfl));refine uA 5 ?_ rfl hA0 hB0 (fun W hA=>?_) ?_;rotate_left;(· (go_simp;try with_reducible rfl));(try simp only [Act.put,List.setIfInBounds_toArray,List.set_cons_zero,List.set_cons_succ]))
  refine uOne (i:=6) rfl (by kernel_rfl) (fun K hK=>?_)
  go_simp
  (refine hK _ _ ⟨hA0,fun _=>hB0⟩ ?_;clear hK K;(try simp only [Act.put,List.setIfInBounds_toArray,List.set_cons_zero,List.set_cons_succ]))
  refine uOne (i:=7) rfl (by kernel_rfl) (fun K hK=>?_)
  go_simp
  (refine hK _ _ ⟨hA0,fun _=>hB0⟩ ?_;clear hK K;(try simp only [Act.put,List.setIfInBounds_toArray,List.set_cons_zero,List.set_cons_succ]))
  refine anyU_done (by kernel_rfl) ?_ _
  clear hA0 HXP HSV
  have HK3b:=Lib.hid (HK3.out.below HBB.out HK3.out.lt)
  -- the other certificate
  have HE0:=Lib.hid (show Below wb.heap.size wb (((wb.alloc (.cells #[.int .i64 0] 3)).alloc (.cells #[.int .i64 0] 3)).alloc (.cells #[] 63)) from by
   have q1:=box_below wb (.cells #[.int .i64 0] 3)
   have q2:=q1.alloc q1.size (.cells #[.int .i64 0] 3)
   exact q2.alloc q2.size (.cells #[] 63))
  have k1:Blk (((wb.alloc (.cells #[.int .i64 0] 3)).alloc (.cells #[.int .i64 0] 3)).alloc (.cells #[] 63)) wb.heap.size 3 (iv [0]):=(((show Blk (wb.alloc (.cells #[.int .i64 0] 3)) wb.heap.size 3 (iv [0]) from Blk.new _ _ [_]).al _).al _)
  have k2:Blk (((wb.alloc (.cells #[.int .i64 0] 3)).alloc (.cells #[.int .i64 0] 3)).alloc (.cells #[] 63)) (wb.heap.size + 1) 3 (iv [0]):=(show Blk ((wb.alloc (.cells #[.int .i64 0] 3)).alloc (.cells #[.int .i64 0] 3)) (wb.heap.size + 1) 3 (iv [0]) from Blk.at_ _ _ [_] (by simp)).al _
  have ho0:=own_empty ((wb.alloc (.cells #[.int .i64 0] 3)).alloc (.cells #[.int .i64 0] 3)) wb.heap.size (by simp;omega) 63 4
  have hs0:((wb.alloc (.cells #[.int .i64 0] 3)).alloc (.cells #[.int .i64 0] 3)).heap.size = wb.heap.size + 1 + 1:=by simp
  rw [hs0] at ho0
  clear hs0
  obtain ⟨W3,hW3⟩:∃ W,W = ((wb.alloc (.cells #[.int .i64 0] 3)).alloc (.cells #[.int .i64 0] 3)).alloc (.cells #[] 63):=⟨_,rfl⟩
  rw [← hW3] at HE0 k1 k2 ho0
  have HRR:=Lib.hid (show ∀ W,Below w3.heap.size w3 W → RdR 4 rmc W W.heap.size RA [⟨1,2,2,3⟩,⟨2,1,1,-1⟩] from fun W hb=>by have h:=(HCO.out W hb).rr;rw [HRL.out.1,HRL.out.2] at h;exact h)
  have HCE3:=Lib.hid (HCB.out.trans (HE0.out.mono HCB.out.size))
  have hc3:=Blk.c3 (HKC.out W3 HCE3.out)
  rw [hW3] at hc3
  obtain ⟨c0,c1,c2⟩:=hc3
  go_upto_region 6 with fail
  go_wp2_with (first
   | (at_builtin;rw [← hW3];refine wpList_appN rmc 4 (by decide) (fun _=>rfl) W3 rfl (.tmp 49) (.tmp 51) 36 rfl wb.heap.size 63 (.agg #[.int .i64 0,.int .i64 0,.int .i64 0,.int .i64 0]) 32 Try.underlying36 rm_info (by rfl) (.slice (some ⟨wb.heap.size + 1 + 1,0,none⟩) 0 0) 0 [] rfl ho0 _ RA 2 rc [⟨1,2,2,3⟩,⟨2,1,1,-1⟩] rfl rfl (HRR.out W3 HCE3.out) (rmc_one _) (by omega) (by omega) HE0.out.size ?_;intro v4 w4x ho4 hg4;obtain ⟨A4,c4,rfl⟩:=own_shape ho4;have hbz:=box_below w4x (.cells #[.int .i64 3,.int .i64 3,.int .i64 3,.int .i64 (-1)] 63);have ho5:=own_below ho4 hbz;have hlit:=own_lit4 w4x w4x.heap.size (Nat.le_refl _) (.int .i64 3) (.int .i64 3) (.int .i64 3) (.int .i64 (-1)) 63;have HLI:=Lib.hid (show RdR 4 rmc (w4x.alloc (.cells #[.int .i64 3,.int .i64 3,.int .i64 3,.int .i64 (-1)] 63)) (w4x.alloc (.cells #[.int .i64 3,.int .i64 3,.int .i64 3,.int .i64 (-1)] 63)).heap.size (some ⟨w4x.heap.size,0,none⟩) [(⟨3,3,3,-1⟩:Rm)] from RdR.of_own (f:=rmc) (l:=[(⟨3,3,3,-1⟩:Rm)]) (by omega) (fun _ _=>rfl) hlit);have HE4:=Lib.hid (show Below wb.heap.size wb w4x from HE0.out.grown hg4 HE0.out.size (fun j hj=>(ho0.lt j hj).1));have HE5:=Lib.hid (HE4.out.trans (hbz.mono HE4.out.size));have k14:=(k1.kept hg4 (blk_ne_own ho0 k1 (by decide))).below hbz (k1.kept hg4 (blk_ne_own ho0 k1 (by decide))).lt;have k24:=(k2.kept hg4 (blk_ne_own ho0 k2 (by decide))).below hbz (k2.kept hg4 (blk_ne_own ho0 k2 (by decide))).lt)
   | (at_builtin;refine wpList_appN rmc 4 (by decide) (fun _=>rfl) (w4x.alloc (.cells #[.int .i64 3,.int .i64 3,.int .i64 3,.int .i64 (-1)] 63)) rfl (.tmp 52) (.tmp 54) 36 rfl wb.heap.size 63 (.agg #[.int .i64 0,.int .i64 0,.int .i64 0,.int .i64 0]) 32 Try.underlying36 rm_info (by rfl) (.slice A4 (0 + 2) c4) (0 + 2) _ rfl ho5 _ (some ⟨w4x.heap.size,0,none⟩) 1 1 [⟨3,3,3,-1⟩] rfl rfl HLI.out (rmc_one _) (by omega) (by omega) HE5.out.size ?_;intro v6 w6 ho6 hg6;obtain ⟨A6,c6,rfl⟩:=own_shape ho6)
   | fail)
  have hbz:=box_below w6 (.cells #[.slice (some ⟨wb.heap.size,0,none⟩) 1 1,.slice (some ⟨wb.heap.size + 1,0,none⟩) 1 1,.slice A6 3 c6] 38)
  have HE6:=HE5.out.grown hg6 HE5.out.size (fun j hj=>(ho5.lt j hj).1)
  have HE7:=Lib.hid (HE6.trans (hbz.mono HE6.size))
  have j1:=k14.kept hg6 (blk_ne_own ho5 k14 (by decide))
  have j2:=k24.kept hg6 (blk_ne_own ho5 k24 (by decide))
  have K1:=Lib.hid (j1.below hbz j1.lt)
  have K2:=Lib.hid (j2.below hbz j2.lt)
  have HO7:=Lib.hid (own_below ho6 hbz)
  have k7:=Blk.new w6 38 [.slice (some ⟨wb.heap.size,0,none⟩) 1 1,.slice (some ⟨wb.heap.size + 1,0,none⟩) 1 1,.slice A6 3 c6]
  obtain ⟨b7,hb7⟩:∃ b,w6.heap.size = b:=⟨_,rfl⟩
  rw [hb7] at k7
  have HB7e:=hb7
  rw [hb7]
  clear hbz HE6 j1 j2 ho6 hg6 ho5 k14 k24 hb7
  generalize w6.alloc (.cells #[.slice (some ⟨wb.heap.size,0,none⟩) 1 1,.slice (some ⟨wb.heap.size + 1,0,none⟩) 1 1,.slice A6 3 c6] 38) = w7 at HE7 K1 K2 HO7 k7 ⊢
  clear HB7e
  have HD:=Lib.hid (show CV.ok w7 w7.heap.size ⟨⟨some ⟨wb.heap.size,0,none⟩,1,1,[0]⟩,⟨some ⟨wb.heap.size + 1,0,none⟩,1,1,[0]⟩,A6,3,c6,[⟨1,2,2,3⟩,⟨2,1,1,-1⟩,⟨3,3,3,-1⟩]⟩ from
   ⟨⟨rfl,Nat.le_refl _,by dsimp only;omega,rdI_blk K1.out⟩,⟨rfl,Nat.le_refl _,by dsimp only;omega,rdI_blk K2.out⟩,rfl,RdR.of_own (f:=rmc) (by omega) (fun _ _=>rfl) HO7.out,(own_cap' HO7.out).1,(own_cap' HO7.out).2⟩)
  have HC7:=Lib.hid (HCB.out.trans (HE7.out.mono HCB.out.size))
  have HKB:=Lib.hid (HK3b.out.below HE7.out HK3b.out.lt)
  obtain ⟨ad,r,hA,hr,g0,g1,g2,g3⟩:=rm_reads (HRR.out w7 HC7.out) (j:=0) (by decide)
  obtain ⟨bd,t,hB,ht,f0,f1,f2,f3⟩:=rm_reads (RdR.of_own (f:=rmc) (by omega) (fun _ _=>rfl) (own_below HLO.out HE7.out)) (j:=1) (by decide)
  injection hr with hr
  injection ht with ht
  subst hr ht hA hB
  have hbd:bd.add (1 * 4) = ⟨bd.block,bd.off + 4,none⟩:=by simp [Addr.add]
  rw [hbd] at f0 f1 f2 f3
  clear hbd
  obtain ⟨_,_,c2⟩:=Blk.c3 (HKC.out w7 HC7.out)
  obtain ⟨_,y1,_,y3⟩:=Blk.c4 HKB.out
  obtain ⟨d0,d1,d2⟩:=Blk.c3 k7
  rw [HYA.out.1] at y1
  rw [HYA.out.2] at y3
  have HAW:=Lib.hid (show ∀ W,Below w7.heap.size w7 W → ((W.cell? ⟨b1,2,none⟩ = some (.slice (some ad) 2 rc))∧(W.cell? ad = some (.int .i64 1)∧W.cell? ⟨ad.block,ad.off + 1,none⟩ = some (.int .i64 2)∧W.cell? ⟨ad.block,ad.off + 2,none⟩ = some (.int .i64 2)∧W.cell? ⟨ad.block,ad.off + 3,none⟩ = some (.int .i64 3))∧(W.cell? ⟨b3,1,none⟩ = some (.int .i64 2)∧W.cell? ⟨b3,3,none⟩ = some (.slice y.E 2 y.ce))∧(W.cell? ⟨bd.block,bd.off + 4,none⟩ = some (.int .i64 2)∧W.cell? ⟨bd.block,bd.off + 4 + 1,none⟩ = some (.int .i64 1)∧W.cell? ⟨bd.block,bd.off + 4 + 2,none⟩ = some (.int .i64 1)∧W.cell? ⟨bd.block,bd.off + 4 + 3,none⟩ = some (.int .i64 (-1)))∧(W.cell? ⟨b7,0,none⟩ = some (.slice (some ⟨wb.heap.size,0,none⟩) 1 1)∧W.cell? ⟨b7,1,none⟩ = some (.slice (some ⟨wb.heap.size + 1,0,none⟩) 1 1)∧W.cell? ⟨b7,2,none⟩ = some (.slice A6 3 c6))) from fun W hb=>by
   have hh:∀ (p:Addr) v,w7.cell? p = some v → W.cell? p = some v:=fun p v h=>(hb.cell (World.block_lt_of_cell? _ _ h)).trans h
   exact ⟨hh _ _ c2,⟨hh _ _ g0,hh _ _ g1,hh _ _ g2,hh _ _ g3⟩,⟨hh _ _ y1,hh _ _ y3⟩,⟨hh _ _ f0,hh _ _ f1,hh _ _ f2,hh _ _ f3⟩,hh _ _ d0,hh _ _ d1,hh _ _ d2⟩)
  clear c2 y1 y3 d0 d1 d2 g0 g1 g2 g3 f0 f1 f2 f3 k7
  refine wp_region_U (fun W=>(W.cell? ⟨b1,2,none⟩ = some (.slice (some ad) 2 rc))∧(W.cell? ad = some (.int .i64 1)∧W.cell? ⟨ad.block,ad.off + 1,none⟩ = some (.int .i64 2)∧W.cell? ⟨ad.block,ad.off + 2,none⟩ = some (.int .i64 2)∧W.cell? ⟨ad.block,ad.off + 3,none⟩ = some (.int .i64 3))∧(W.cell? ⟨b3,1,none⟩ = some (.int .i64 2)∧W.cell? ⟨b3,3,none⟩ = some (.slice y.E 2 y.ce))∧(W.cell? ⟨bd.block,bd.off + 4,none⟩ = some (.int .i64 2)∧W.cell? ⟨bd.block,bd.off + 4 + 1,none⟩ = some (.int .i64 1)∧W.cell? ⟨bd.block,bd.off + 4 + 2,none⟩ = some (.int .i64 1)∧W.cell? ⟨bd.block,bd.off + 4 + 3,none⟩ = some (.int .i64 (-1)))∧(W.cell? ⟨b7,0,none⟩ = some (.slice (some ⟨wb.heap.size,0,none⟩) 1 1)∧W.cell? ⟨b7,1,none⟩ = some (.slice (some ⟨wb.heap.size + 1,0,none⟩) 1 1)∧W.cell? ⟨b7,2,none⟩ = some (.slice A6 3 c6))) (fun _=>True) 99 (by kernel_rfl) ?_
  change anyU _ _ _ _ _ _ _ 44 _ _ _
  have hB0:True:=trivial
  have HBD7:=Lib.hid (below_dr w7)
  have hA0:=HAW.out _ HBD7.out
  generalize w7.drew = wx at HBD7 hA0 ⊢
  (refine uA 0 ?_ rfl hA0 hB0 (fun W hA=>?_) ?_;rotate_left;(· (go_simp;try with_reducible rfl));(try simp only [Act.put,List.setIfInBounds_toArray,List.set_cons_zero,List.set_cons_succ]))
  (refine uA 1 ?_ rfl hA0 hB0 (fun W hA=>?_) ?_;rotate_left;(· (obtain ⟨a0,_⟩:=hA;go_simp;try with_reducible rfl));(try simp only [Act.put,List.setIfInBounds_toArray,List.set_cons_zero,List.set_cons_succ]))
  (refine uA 2 ?_ rfl hA0 hB0 (fun W hA=>?_) ?_;rotate_left;(· (go_simp;try with_reducible rfl));(try simp only [Act.put,List.setIfInBounds_toArray,List.set_cons_zero,List.set_cons_succ]))
  (refine uA 3 ?_ rfl hA0 hB0 (fun W hA=>?_) ?_;rotate_left;(· (obtain ⟨_,⟨a0,a1,a2,a3⟩,_⟩:=hA;go_simp;try with_reducible rfl));(try simp only [Act.put,List.setIfInBounds_toArray,List.set_cons_zero,List.set_cons_succ]))
  (refine uA 4 ?_ rfl hA0 hB0 (fun W hA=>?_) ?_;rotate_left;(· (go_simp;try with_reducible rfl));refine uA 5 ?_ rfl hA0 hB0 (fun W hA=>?_) ?_;rotate_left;(· (go_simp;try with_reducible rfl));refine uA 6 ?_ rfl hA0 hB0 (fun W hA=>?_) ?_;rotate_left;(· (go_simp;try with_reducible rfl));(try simp only [Act.put,List.setIfInBounds_toArray,List.set_cons_zero,List.set_cons_succ]))
  (refine uA 7 ?_ rfl hA0 hB0 (fun W hA=>?_) ?_;rotate_left;(· (go_simp;try with_reducible rfl));refine uA 8 ?_ rfl hA0 hB0 (fun W hA=>?_) ?_;rotate_left;(· (go_simp;try with_reducible rfl));(try simp only [Act.put,List.setIfInBounds_toArray,List.set_cons_zero,List.set_cons_succ]))
  (refine uA 9 ?_ rfl hA0 hB0 (fun W hA=>?_) ?_;rotate_left;(· (go_simp;try with_reducible rfl));refine uA 10 ?_ rfl hA0 hB0 (fun W hA=>?_) ?_;rotate_left;(· (go_simp;try with_reducible rfl));(try simp only [Act.put,List.setIfInBounds_toArray,List.set_cons_zero,List.set_cons_succ]))
  (refine uA 11 ?_ rfl hA0 hB0 (fun W hA=>?_) ?_;rotate_left;(· (go_simp;try with_reducible rfl));(try simp only [Act.put,List.setIfInBounds_toArray,List.set_cons_zero,List.set_cons_succ]))
  (refine uA 12 ?_ rfl hA0 hB0 (fun W hA=>?_) ?_;rotate_left;(· (obtain ⟨_,_,⟨a0,a1⟩,_⟩:=hA;go_simp;try with_reducible rfl));(try simp only [Act.put,List.setIfInBounds_toArray,List.set_cons_zero,List.set_cons_succ]))
  (refine uA 13 ?_ rfl hA0 hB0 (fun W hA=>?_) ?_;rotate_left;(· (go_simp;try with_reducible rfl));(try simp only [Act.put,List.setIfInBounds_toArray,List.set_cons_zero,List.set_cons_succ]))
  (refine uA 14 ?_ rfl hA0 hB0 (fun W hA=>?_) ?_;rotate_left;(· (go_simp;try with_reducible rfl));refine uA 15 ?_ rfl hA0 hB0 (fun W hA=>?_) ?_;rotate_left;(· (go_simp;try with_reducible rfl));(try simp only [Act.put,List.setIfInBounds_toArray,List.set_cons_zero,List.set_cons_succ]))
  (refine uA 16 ?_ rfl hA0 hB0 (fun W hA=>?_) ?_;rotate_left;(· (go_simp;try with_reducible rfl));(try simp only [Act.put,List.setIfInBounds_toArray,List.set_cons_zero,List.set_cons_succ]))
  (refine uA 17 ?_ rfl hA0 hB0 (fun W hA=>?_) ?_;rotate_left;(· (obtain ⟨_,_,⟨a0,a1⟩,_⟩:=hA;go_simp;try with_reducible rfl));(try simp only [Act.put,List.setIfInBounds_toArray,List.set_cons_zero,List.set_cons_succ]))
  (refine uA 18 ?_ rfl hA0 hB0 (fun W hA=>?_) ?_;rotate_left;(· (go_simp;try with_reducible rfl));(try simp only [Act.put,List.setIfInBounds_toArray,List.set_cons_zero,List.set_cons_succ]))
  (refine uA 19 ?_ rfl hA0 hB0 (fun W hA=>?_) ?_;rotate_left;(· (go_simp;try with_reducible rfl));(try simp only [Act.put,List.setIfInBounds_toArray,List.set_cons_zero,List.set_cons_succ]))
  (refine uA 20 ?_ rfl hA0 hB0 (fun W hA=>?_) ?_;rotate_left;(· (go_simp;try with_reducible rfl));refine uA 21 ?_ rfl hA0 hB0 (fun W hA=>?_) ?_;rotate_left;(· (go_simp;try with_reducible rfl));(try simp only [Act.put,List.setIfInBounds_toArray,List.set_cons_zero,List.set_cons_succ]))
  (refine uA 22 ?_ rfl hA0 hB0 (fun W hA=>?_) ?_;rotate_left;(· (go_simp;try with_reducible rfl));(try simp only [Act.put,List.setIfInBounds_toArray,List.set_cons_zero,List.set_cons_succ]))
  (refine uA 23 ?_ rfl hA0 hB0 (fun W hA=>?_) ?_;rotate_left;(· (go_simp;try with_reducible rfl));(try simp only [Act.put,List.setIfInBounds_toArray,List.set_cons_zero,List.set_cons_succ]))
  (refine uA 24 ?_ rfl hA0 hB0 (fun W hA=>?_) ?_;rotate_left;(· (go_simp;try with_reducible rfl));refine uA 25 ?_ rfl hA0 hB0 (fun W hA=>?_) ?_;rotate_left;(· (go_simp;try with_reducible rfl));(try simp only [Act.put,List.setIfInBounds_toArray,List.set_cons_zero,List.set_cons_succ]))
  (refine uA 26 ?_ rfl hA0 hB0 (fun W hA=>?_) ?_;rotate_left;(· (go_simp;try with_reducible rfl));(try simp only [Act.put,List.setIfInBounds_toArray,List.set_cons_zero,List.set_cons_succ]))
  (refine uA 27 ?_ rfl hA0 hB0 (fun W hA=>?_) ?_;rotate_left;(· (go_simp;try with_reducible rfl));(try simp only [Act.put,List.setIfInBounds_toArray,List.set_cons_zero,List.set_cons_succ]))
  (refine uA 28 ?_ rfl hA0 hB0 (fun W hA=>?_) ?_;rotate_left;(· (go_simp;try with_reducible rfl));(try simp only [Act.put,List.setIfInBounds_toArray,List.set_cons_zero,List.set_cons_succ]))
  (refine uA 29 ?_ rfl hA0 hB0 (fun W hA=>?_) ?_;rotate_left;(· (go_simp;try with_reducible rfl));refine uA 30 ?_ rfl hA0 hB0 (fun W hA=>?_) ?_;rotate_left;(· (go_simp;try with_reducible rfl));(try simp only [Act.put,List.setIfInBounds_toArray,List.set_cons_zero,List.set_cons_succ]))
  (refine uA 31 ?_ rfl hA0 hB0 (fun W hA=>?_) ?_;rotate_left;(· (go_simp;try with_reducible rfl));(try simp only [Act.put,List.setIfInBounds_toArray,List.set_cons_zero,List.set_cons_succ]))
  (refine uA 32 ?_ rfl hA0 hB0 (fun W hA=>?_) ?_;rotate_left;(· (go_simp;try with_reducible rfl));(try simp only [Act.put,List.setIfInBounds_toArray,List.set_cons_zero,List.set_cons_succ]))
  (refine uA 33 ?_ rfl hA0 hB0 (fun W hA=>?_) ?_;rotate_left;(· (obtain ⟨_,_,_,⟨a0,a1,a2,a3⟩,_⟩:=hA;go_simp;try with_reducible rfl));(try simp only [Act.put,List.setIfInBounds_toArray,List.set_cons_zero,List.set_cons_succ]))
  (refine uA 34 ?_ rfl hA0 hB0 (fun W hA=>?_) ?_;rotate_left;(· (go_simp;try with_reducible rfl));(try simp only [Act.put,List.setIfInBounds_toArray,List.set_cons_zero,List.set_cons_succ]))
  (refine uA 35 ?_ rfl hA0 hB0 (fun W hA=>?_) ?_;rotate_left;(· (go_simp;try with_reducible rfl));(try simp only [Act.put,List.setIfInBounds_toArray,List.set_cons_zero,List.set_cons_succ]))
  (refine uA 36 ?_ rfl hA0 hB0 (fun W hA=>?_) ?_;rotate_left;(· (go_simp;try with_reducible rfl));refine uA 37 ?_ rfl hA0 hB0 (fun W hA=>?_) ?_;rotate_left;(· (go_simp;try with_reducible rfl));(try simp only [Act.put,List.setIfInBounds_toArray,List.set_cons_zero,List.set_cons_succ]))
  (refine uA 39 ?_ rfl hA0 hB0 (fun W hA=>?_) ?_;rotate_left;(· (obtain ⟨_,_,_,_,a0,a1,a2⟩:=hA;go_simp;try with_reducible rfl));(try simp only [Act.put,List.setIfInBounds_toArray,List.set_cons_zero,List.set_cons_succ]))
  refine uOne (i:=38) rfl (by kernel_rfl) (fun K hK=>?_)
  go_simp
  go_at_call 79
  refine (HEX.out wx).mono ?_
  rintro e wy ⟨z2,rfl,hz,hm,hba⟩
  have HBA7:=Lib.hid (HBD7.out.trans (hba.mono HBD7.out.size))
  have hA1:=HAW.out _ HBA7.out
  have HVR:=Lib.hid (max_Verify z2 ⟨⟨some ⟨wb.heap.size,0,none⟩,1,1,[0]⟩,⟨some ⟨wb.heap.size + 1,0,none⟩,1,1,[0]⟩,A6,3,c6,[⟨1,2,2,3⟩,⟨2,1,1,-1⟩,⟨3,3,3,-1⟩]⟩ wy hz (by rw [hm];exact exM_ok) ((HD.out.below HBA7.out).more HBA7.out.size) (by dsimp only;omega))
  rw [hm] at HVR
  clear hz hm hba
  (refine hK _ _ ⟨hA1,fun _=>hB0⟩ ?_;clear hK K;(try simp only [Act.put,List.setIfInBounds_toArray,List.set_cons_zero,List.set_cons_succ]))
  refine uOne (i:=40) rfl (by kernel_rfl) (fun K hK=>?_)
  go_simp
  go_at_call 15
  refine HVR.out.mono ?_
  rintro e wz ⟨v,rfl,hv,hbz⟩
  obtain rfl:=VerIs.unique hv exD_bad
  have HBZ7:=Lib.hid (HBA7.out.trans (hbz.mono HBA7.out.size))
  have hA2:=HAW.out _ HBZ7.out
  clear hbz hv
  (refine hK _ _ ⟨hA2,fun _=>hB0⟩ ?_;clear hK K;(try simp only [Act.put,List.setIfInBounds_toArray,List.set_cons_zero,List.set_cons_succ]))
  clear hA0 hA1
  have hA0:=hA2
  (refine uA 41 ?_ rfl hA0 hB0 (fun W hA=>?_) ?_;rotate_left;(· (go_simp;try with_reducible rfl));(try simp only [Act.put,List.setIfInBounds_toArray,List.set_cons_zero,List.set_cons_succ]))
  (refine uA 42 ?_ rfl hA0 hB0 (fun W hA=>?_) ?_;rotate_left;(· (go_simp;try with_reducible rfl));(try simp only [Act.put,List.setIfInBounds_toArray,List.set_cons_zero,List.set_cons_succ]))
  (refine uA 43 ?_ rfl hA0 hB0 (fun W hA=>?_) ?_;rotate_left;(· (go_simp;try with_reducible rfl));(try simp only [Act.put,List.setIfInBounds_toArray,List.set_cons_zero]))
  refine anyU_done (by kernel_rfl) ?_ _
  clear hA0 hA2
  go_wp2
  go_ret
  exact ⟨rfl,HB3.out.trans ((HC7.out.trans (HBZ7.out.mono HC7.out.size)).mono HB3.out.size)⟩
end Go.Proofs.Ytdnmpndnpfklcaa

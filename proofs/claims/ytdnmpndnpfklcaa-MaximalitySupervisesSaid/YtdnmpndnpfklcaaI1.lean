/- Walk of language.Included at the generated languages. -/
import Derived.Test.YtdnmpndnpfklcaaW2
import Derived.Test.YtdnmpndnpfklcaaXg
import Derived.Test.YtdnmpndnpfklcaaIv

namespace Go.Proofs.Ytdnmpndnpfklcaa
open Go.RowKit Go Go.Maps
def RetInc (r:Option (List Int)) (w:World) (e:Ending) (w':World):Prop :=
 ((r = none∧e = .returned (.tuple #[.slice none 0 0,.bool true,.int .i64 0])) ∨ ∃ (ws:List Int) (A:Option Addr) (c:Nat),r = some ws∧e = .returned (.tuple #[.slice A ws.length c,.bool false,.int .i64 0])∧RdI w' w'.heap.size A ws∧ws.length ≤ c∧c ≤ 9223372036854775807)∧Below w.heap.size w w'
theorem TabI.neB {α:Type} {P:Program} {K E:TypeId} {key:α → Value} {w:World} {b n:Nat} {g:α → Option Int} {t:TypeId} {vs:List Value} {q:Nat} (h:TabI P K E key w b n g) (hk:Blk w q t vs):b ≠ q:=by
 obtain ⟨D,⟨es,clock,hb,_⟩,_⟩:=h
 rintro rfl
 have:=hk.symm.trans hb
 cases this
def LgV (w1:World) (a:Aut) (W:World) (V:Value):Prop:=∃ bm bn bk m:Nat,V = .pointer (some ⟨bm,0,none⟩)∧LgM W a bm bn bk m∧w1.heap.size ≤ bm∧w1.heap.size ≤ bn
theorem LgV.st (w1:World) (a:Aut):PtS1 w1 122 122 (LgV w1 a):=by
 refine ⟨fun ⟨bm,bn,bk,m,e,h,h1,h2⟩ hb=>⟨bm,bn,bk,m,e,h.below hb,h1,h2⟩,fun ⟨bm,bn,bk,m,e,h,h1,h2⟩ hg hk ht _=>⟨bm,bn,bk,m,e,⟨h.box.kept hg ?_,h.tab.kept hg ?_⟩,h1,h2⟩⟩
 ·intro e9
  injection e9 with e9
  rcases ht with rfl | rfl <;> exact blk_ne hk h.box (by decide) e9.symm
 ·intro e9
  injection e9 with e9
  exact TabI.neB h.tab hk e9
set_option maxRecDepth 100000 in
set_option maxHeartbeats 12800000 in
theorem lng_Included (x y:AV) (w:World) (hx:x.ok w w.heap.size) (hy:y.ok w w.heap.size) (hwx:WF x.a) (hwy:WF y.a) (hN:vsN x.a y.a ≤ 900000) :
  Calls Try.prog 31 #[.agg (avc x).toArray,.agg (avc y).toArray,.int .i64 1] w (RetInc (incS x.a y.a) w):=by
 have hb1:=box_below w (.cells (avc x).toArray 32)
 have k1:=Blk.new w 32 (avc x)
 obtain ⟨w1,hw1⟩:∃ w1,w1 = w.alloc (.cells (avc x).toArray 32):=⟨_,rfl⟩
 rw [← hw1] at hb1 k1
 have hs1:w1.heap.size = w.heap.size + 1:=by rw [hw1];simp
 have hb2:=box_below w1 (.cells (avc y).toArray 32)
 have k12:=k1.below hb2 k1.lt
 have k2:=Blk.new w1 32 (avc y)
 rw [hs1] at k2
 obtain ⟨w2,hw2⟩:∃ w2,w2 = w1.alloc (.cells (avc y).toArray 32):=⟨_,rfl⟩
 rw [← hw2] at hb2 k12 k2
 have hs2:w2.heap.size = w.heap.size + 1 + 1:=by rw [hw2];simp [hs1]
 have hb3:=box_below w2 (.cells #[.int .i64 1] 3)
 have k13:=k12.below hb3 k12.lt
 have k23:=k2.below hb3 k2.lt
 have k3:=Blk.new w2 3 [.int .i64 1]
 rw [hs2] at k3
 obtain ⟨w3,hw3⟩:∃ w3,w3 = w2.alloc (.cells #[.int .i64 1] 3):=⟨_,rfl⟩
 have k3':Blk w3 (w.heap.size + 1 + 1) 3 [.int .i64 1]:=by rw [hw3];exact k3
 rw [← hw3] at hb3 k13 k23
 have hb13:=hb1.trans ((hb2.trans (hb3.mono hb2.size)).mono hb1.size)
 have HX:=Lib.hid (fun (W:World) (hb:Below w3.heap.size w3 W)=>(hx.below (hb13.trans (hb.mono hb13.size))).more (hb13.trans (hb.mono hb13.size)).size)
 have HY:=Lib.hid (fun (W:World) (hb:Below w3.heap.size w3 W)=>(hy.below (hb13.trans (hb.mono hb13.size))).more (hb13.trans (hb.mono hb13.size)).size)
 have HK1:=Lib.hid (fun (W:World) (hb:Below w3.heap.size w3 W)=>k13.below hb k13.lt)
 have HK2:=Lib.hid (fun (W:World) (hb:Below w3.heap.size w3 W)=>k23.below hb k23.lt)
 have HK3:=Lib.hid (fun (W:World) (hb:Below w3.heap.size w3 W)=>k3'.below hb k3'.lt)
 have HB:=Lib.hid (fun (W:World) (hb:Below w3.heap.size w3 W)=>hb13.trans (hb.mono hb13.size))
 have HW3:=Lib.hid (show ((w.alloc (.cells (avc x).toArray 32)).alloc (.cells (avc y).toArray 32)).alloc (.cells #[.int .i64 1] 3) = w3 by rw [hw3,hw2,hw1])
 have HWX:=Lib.hid hwx
 have HWY:=Lib.hid hwy
 have HN:=Lib.hid hN
 clear hb1 hb2 hb3 hb13 k1 k12 k2 k13 k23 k3 k3' hw1 hw2 hw3 hs1 hs2 hx hy hwx hwy hN
 have HAX:=Lib.hid (show avc x = [.slice x.A x.na x.ca,.int .i64 x.a.st,.slice x.M x.nm x.cm,.slice x.E x.ne x.ce] from rfl)
 have HAY:=Lib.hid (show avc y = [.slice y.A y.na y.ca,.int .i64 y.a.st,.slice y.M y.nm y.cm,.slice y.E y.ne y.ce] from rfl)
 rw [HAX.out] at HW3 HK1 ⊢
 rw [HAY.out] at HW3 HK2 ⊢
 obtain ⟨a0,a1,a2,a3⟩:=Blk.c4 (HK1.out w3 (Below.refl _ _))
 obtain ⟨b0,b1,b2,b3⟩:=Blk.c4 (HK2.out w3 (Below.refl _ _))
 have c0:=(HK3.out w3 (Below.refl _ _)).cell (j:=0) rfl
 go_enter Try.func31,Try.ntmps31
 go_upto_region 1 with fail
 rw [HW3.out]
 have hb4:=box_below w3 (.cells #[.slice x.A x.na x.ca,.int .i64 x.a.st,.slice x.M x.nm x.cm,.slice x.E x.ne x.ce,.slice y.A y.na y.ca,.int .i64 y.a.st,.slice y.M y.nm y.cm,.slice y.E y.ne y.ce] 32)
 have HK4:=Lib.hid (Blk.new w3 32 (avc x ++ avc y))
 have HB4:=Lib.hid hb4
 clear hb4
 go_wp2_with fail
 obtain ⟨b4,hb4⟩:∃ b,w3.heap.size = b:=⟨_,rfl⟩
 have hk4:=HK4.out
 rw [HAX.out,HAY.out,hb4] at hk4
 rw [hb4]
 have hk4':Blk (w3.alloc (.cells #[.slice x.A x.na x.ca,.int .i64 x.a.st,.slice x.M x.nm x.cm,.slice x.E x.ne x.ce,.slice y.A y.na y.ca,.int .i64 y.a.st,.slice y.M y.nm y.cm,.slice y.E y.ne y.ce] 32)) b4 32 [.slice x.A x.na x.ca,.int .i64 x.a.st,.slice x.M x.nm x.cm,.slice x.E x.ne x.ce,.slice y.A y.na y.ca,.int .i64 y.a.st,.slice y.M y.nm y.cm,.slice y.E y.ne y.ce]:=hk4
 clear hk4 HK4 hb4
 generalize w3.alloc (.cells #[.slice x.A x.na x.ca,.int .i64 x.a.st,.slice x.M x.nm x.cm,.slice x.E x.ne x.ce,.slice y.A y.na y.ca,.int .i64 y.a.st,.slice y.M y.nm y.cm,.slice y.E y.ne y.ce] 32) = w4 at hk4' HB4 ⊢
 have HCK:=Lib.hid (lng_check x y b4 w4 (by rw [HAX.out,HAY.out];exact hk4') (HX.out w4 HB4.out) (HY.out w4 HB4.out) HWX.out HWY.out)
 clear hk4' a0 a1 a2 a3 b0 b1 b2 b3 c0
 refine HCK.out.mono ?_
 rintro e w5 ⟨rfl,hb5⟩
 have HB5:=Lib.hid (HB4.out.trans (hb5.mono HB4.out.size))
 clear hb5 HCK HB4 HW3
 go_upto_region 4 with fail
 have HX5:=Lib.hid (fun (W:World) (hb:Below w5.heap.size w5 W)=>HX.out W (HB5.out.trans (hb.mono HB5.out.size)))
 have HY5:=Lib.hid (fun (W:World) (hb:Below w5.heap.size w5 W)=>HY.out W (HB5.out.trans (hb.mono HB5.out.size)))
 have H15:=Lib.hid (fun (W:World) (hb:Below w5.heap.size w5 W)=>Blk.c4 (HK1.out W (HB5.out.trans (hb.mono HB5.out.size))))
 have H25:=Lib.hid (fun (W:World) (hb:Below w5.heap.size w5 W)=>Blk.c4 (HK2.out W (HB5.out.trans (hb.mono HB5.out.size))))
 have H35:=Lib.hid (fun (W:World) (hb:Below w5.heap.size w5 W)=>HK3.out W (HB5.out.trans (hb.mono HB5.out.size)))
 have HB55:=Lib.hid (fun (W:World) (hb:Below w5.heap.size w5 W)=>HB.out W (HB5.out.trans (hb.mono HB5.out.size)))
 have HOX:=Lib.hid (fun (W:World) (hb:Below w5.heap.size w5 W)=>lng_open x.A x.na x.ca x.M x.nm x.cm x.E x.ne x.ce x.a W (HX5.out W hb) HWX.out)
 have HOY:=Lib.hid (fun (W:World) (hb:Below w5.heap.size w5 W)=>lng_open y.A y.na y.ca y.M y.nm y.cm y.E y.ne y.ce y.a W (HY5.out W hb) HWY.out)
 clear HX HY HK1 HK2 HK3 HB HB5
 go_cut [10,11] from 12 (fun s10 s11 wx=>∃ (V1 V2:Value) (p1 p2:Nat),s10 = .pointer (some ⟨p1,0,none⟩)∧s11 = .pointer (some ⟨p2,0,none⟩)∧Hid (PtG w5 (LgV w5 x.a) (LgV w5 y.a) (.pointer none) (.pointer none) 122 122 true true true true true true V1 V2 p1 p2 wx))
 case first =>
  refine wp_region_U (fun W=>C4 W w.heap.size (.slice x.A x.na x.ca) (.int .i64 x.a.st) (.slice x.M x.nm x.cm) (.slice x.E x.ne x.ce)∧C4 W (w.heap.size + 1) (.slice y.A y.na y.ca) (.int .i64 y.a.st) (.slice y.M y.nm y.cm) (.slice y.E y.ne y.ce)) (fun _=>True) 7 (by kernel_rfl) ?_
  change anyU _ _ _ _ _ _ _ 8 _ _ _
  have hB0:True:=trivial
  have HBD:=Lib.hid (below_dr w5)
  have HSA:=Lib.hid (LgV.st w5 x.a)
  have HSB:=Lib.hid (LgV.st w5 y.a)
  generalize w5.drew = wd at HBD ⊢
  have hA0:=And.intro (H15.out wd HBD.out) (H25.out wd HBD.out)
  (refine uA 0 ?_ rfl hA0 hB0 (fun W hA=>?_) ?_;rotate_left;(· (obtain ⟨⟨a0,a1,a2,a3⟩,_⟩:=hA;go_simp;try with_reducible rfl));(try simp only [Act.put,List.setIfInBounds_toArray,List.set_cons_zero,List.set_cons_succ]))
  (refine uA 2 ?_ rfl hA0 hB0 (fun W hA=>?_) ?_;rotate_left;(· (obtain ⟨_,⟨a0,a1,a2,a3⟩⟩:=hA;go_simp;try with_reducible rfl));(try simp only [Act.put,List.setIfInBounds_toArray,List.set_cons_zero,List.set_cons_succ]))
  refine anyI_at (I:=fun a0 f L a' W=>∃ (d1 d2 b1 b2 b3 b4:Bool) (V1 V2:Value) (p1 p2:Nat) (v10 v11 v23 v25:Value),L = #[true,d1,true,d2,b1,b2,b3,b4]∧f + d1.toNat + d2.toNat + b1.toNat + b2.toNat + b3.toNat + b4.toNat = 6∧(d2 = true → d1 = true)∧(b3 = true → d1 = true∧d2 = true∧b1 = true∧b2 = true)∧(b4 = true → d1 = true∧d2 = true∧b1 = true∧b2 = true∧b3 = true)∧(d1 = true → v23 = V1)∧(d2 = true → v25 = V2)∧(b1 = true → v10 = .pointer (some ⟨p1,0,none⟩))∧(b2 = true → v11 = .pointer (some ⟨p2,0,none⟩))∧a' = put4n a0 10 11 23 25 v10 v11 v23 v25∧Hid (PtG w5 (LgV w5 x.a) (LgV w5 y.a) (.pointer none) (.pointer none) 122 122 d1 d2 b1 b2 b3 b4 V1 V2 p1 p2 W)) ?_ ?_
  ·exact ⟨false,false,false,false,false,false,undef,undef,0,0,undef,undef,undef,undef,rfl,rfl,(by simp),(by simp),(by simp),(by simp),(by simp),(by simp),(by simp),rfl,Lib.hid ⟨HBD.out,(by simp),(by simp),(by simp),(by simp),(by simp)⟩⟩
  ·clear HBD hA0
   rintro f L a' W ⟨d1,d2,b1,b2,b3,b4,V1,V2,p1,p2,v6,v7,v30,v32,rfl,hf,g1,g2,g3,g4,g5,g6,g7,rfl,HD⟩
   simp only [put4n,List.setIfInBounds_toArray,List.set_cons_succ,List.set_cons_zero]
   refine ⟨⟨And.intro (H15.out W HD.out.bel) (H25.out W HD.out.bel),fun _=>trivial⟩,R6i 1 3 4 5 6 7 d1 d2 b1 b2 b3 b4,?_,?_,?_,?_⟩
   ·clear HD g4 g5 g6 g7 hf
    cases d1 <;> cases d2 <;> cases b1 <;> cases b2 <;> cases b3 <;> cases b4 <;> first | (exfalso;revert g1 g2 g3;simp;done) | kernel_rfl
   ·intro hr0
    have:d1 = true∧d2 = true∧b1 = true∧b2 = true∧b3 = true∧b4 = true:=by
     clear HD g4 g5 g6 g7 hf
     revert g1 g2 g3 hr0
     cases d1 <;> cases d2 <;> cases b1 <;> cases b2 <;> cases b3 <;> cases b4 <;> simp [R6i]
    obtain ⟨rfl,rfl,rfl,rfl,rfl,rfl⟩:=this
    obtain rfl:=g6 rfl
    obtain rfl:=g7 rfl
    clear g1 g2 g3 g4 g5 g6 g7 hf hr0
    go_wp2_with fail
    go_meet
    case rel=>exact ⟨V1,V2,p1,p2,rfl,rfl,HD⟩
   ·intro h0
    have:d1 = true∧d2 = true∧b1 = true∧b2 = true∧b3 = true∧b4 = true:=by
     clear HD g4 g5 g6 g7
     subst h0
     revert g1 g2 g3 hf
     cases d1 <;> cases d2 <;> cases b1 <;> cases b2 <;> cases b3 <;> cases b4 <;> simp
    obtain ⟨rfl,rfl,rfl,rfl,rfl,rfl⟩:=this
    rfl
   ·rintro i hi g rfl
    rcases R6i_mem hi with ⟨rfl,rfl⟩ | ⟨rfl,rfl,rfl⟩ | ⟨rfl,rfl⟩ | ⟨rfl,rfl⟩ | ⟨rfl,rfl,rfl,rfl,rfl,rfl⟩ | ⟨rfl,rfl,rfl,rfl,rfl,rfl,rfl⟩
    ·have h3:b3 = false:=by cases b3 with | false=>rfl | true=>exact absurd (g2 rfl).1 (by simp)
     have h4:b4 = false:=by cases b4 with | false=>rfl | true=>exact absurd (g3 rfl).1 (by simp)
     refine wpOp_at (i:=1) rfl (fun K hK=>?_)
     go_simp
     go_at_call 71
     refine (HOX.out W HD.out.bel).mono ?_
     rintro e w9 ⟨bm,bn,bk,m,rfl,hlg,hl1,hl2,hb⟩
     go_simp
     exact hK _ _ ⟨true,d2,b1,b2,b3,b4,_,V2,p1,p2,v6,v7,_,v32,rfl,(by simp only [Bool.toNat_true,Bool.toNat_false] at hf ⊢;omega),(fun _=>rfl),(fun h=>absurd h (by simp [h3])),(fun h=>absurd h (by simp [h4])),(fun _=>rfl),g5,g6,g7,rfl,Lib.hid (HD.out.c1 HSA.out HSB.out h3 hb ⟨bm,bn,bk,m,rfl,hlg,Nat.le_trans HD.out.bel.size hl1,Nat.le_trans HD.out.bel.size hl2⟩)⟩
    ·have h3:b3 = false:=by cases b3 with | false=>rfl | true=>exact absurd (g2 rfl).2.1 (by simp)
     have h4:b4 = false:=by cases b4 with | false=>rfl | true=>exact absurd (g3 rfl).2.1 (by simp)
     obtain rfl:=g4 rfl
     refine wpOp_at (i:=3) rfl (fun K hK=>?_)
     go_simp
     go_at_call 71
     refine (HOY.out W HD.out.bel).mono ?_
     rintro e w9 ⟨bm,bn,bk,m,rfl,hlg,hl1,hl2,hb⟩
     go_simp
     exact hK _ _ ⟨true,true,b1,b2,b3,b4,_,_,p1,p2,v6,v7,_,_,rfl,(by simp only [Bool.toNat_true,Bool.toNat_false] at hf ⊢;omega),(fun _=>rfl),(fun h=>absurd h (by simp [h3])),(fun h=>absurd h (by simp [h4])),(fun _=>rfl),(fun _=>rfl),g6,g7,rfl,Lib.hid (HD.out.c2 HSA.out HSB.out h4 hb ⟨bm,bn,bk,m,rfl,hlg,Nat.le_trans HD.out.bel.size hl1,Nat.le_trans HD.out.bel.size hl2⟩)⟩
    ·have h3:b3 = false:=by cases b3 with | false=>rfl | true=>exact absurd (g2 rfl).2.2.1 (by simp)
     have h4:b4 = false:=by cases b4 with | false=>rfl | true=>exact absurd (g3 rfl).2.2.1 (by simp)
     refine wpOp_at (i:=4) rfl (fun K hK=>?_)
     go_simp
     exact hK _ _ ⟨d1,d2,true,b2,b3,b4,V1,V2,W.heap.size,p2,_,v7,v30,v32,rfl,(by simp only [Bool.toNat_true,Bool.toNat_false] at hf ⊢;omega),g1,(fun h=>absurd h (by simp [h3])),(fun h=>absurd h (by simp [h4])),g4,g5,(fun _=>rfl),g7,rfl,Lib.hid (HD.out.a1 HSA.out HSB.out h3)⟩
    ·have h3:b3 = false:=by cases b3 with | false=>rfl | true=>exact absurd (g2 rfl).2.2.2 (by simp)
     have h4:b4 = false:=by cases b4 with | false=>rfl | true=>exact absurd (g3 rfl).2.2.2.1 (by simp)
     refine wpOp_at (i:=5) rfl (fun K hK=>?_)
     go_simp
     exact hK _ _ ⟨d1,d2,b1,true,b3,b4,V1,V2,p1,W.heap.size,v6,_,v30,v32,rfl,(by simp only [Bool.toNat_true,Bool.toNat_false] at hf ⊢;omega),g1,(fun h=>absurd h (by simp [h3])),(fun h=>absurd h (by simp [h4])),g4,g5,g6,(fun _=>rfl),rfl,Lib.hid (HD.out.a2 HSA.out HSB.out h4)⟩
    ·have h4:b4 = false:=by cases b4 with | false=>rfl | true=>exact absurd (g3 rfl).2.2.2.2 (by simp)
     subst h4
     obtain ⟨b9,_,_,_,he9,_⟩:=HD.out.k1 rfl
     subst he9
     obtain rfl:=g4 rfl
     obtain rfl:=g5 rfl
     obtain rfl:=g6 rfl
     obtain rfl:=g7 rfl
     have c0:=(HD.out.m1 rfl).1.cell (j:=0) rfl
     have f0:=(HD.out.m1 rfl).1.free 0
     have l0:=(HD.out.m1 rfl).1.lt
     refine wpOp_at (i:=6) rfl (fun K hK=>?_)
     go_simp
     exact hK _ _ ⟨true,true,true,true,true,false,_,_,p1,p2,_,_,_,_,rfl,(by simp only [Bool.toNat_true,Bool.toNat_false] at hf ⊢;omega),g1,(fun _=>⟨rfl,rfl,rfl,rfl⟩),(fun h=>by cases h),(fun _=>rfl),(fun _=>rfl),(fun _=>rfl),(fun _=>rfl),rfl,Lib.hid (HD.out.s1 HSA.out HSB.out)⟩
    ·obtain ⟨b9,_,_,_,he9,_⟩:=HD.out.k2 rfl
     subst he9
     obtain rfl:=g4 rfl
     obtain rfl:=g5 rfl
     obtain rfl:=g6 rfl
     obtain rfl:=g7 rfl
     have c0:=(HD.out.m2 rfl).1.cell (j:=0) rfl
     have f0:=(HD.out.m2 rfl).1.free 0
     have l0:=(HD.out.m2 rfl).1.lt
     refine wpOp_at (i:=7) rfl (fun K hK=>?_)
     go_simp
     exact hK _ _ ⟨true,true,true,true,true,true,_,_,p1,p2,_,_,_,_,rfl,(by simp only [Bool.toNat_true,Bool.toNat_false] at hf ⊢;omega),g1,(fun _=>⟨rfl,rfl,rfl,rfl⟩),(fun _=>⟨rfl,rfl,rfl,rfl,rfl⟩),(fun _=>rfl),(fun _=>rfl),(fun _=>rfl),(fun _=>rfl),rfl,Lib.hid (HD.out.s2 HSA.out HSB.out)⟩
 case rest =>
  obtain ⟨V1,V2,p1,p2,rfl,rfl,HD⟩:=hcut
  obtain ⟨hm1,hp1⟩:=HD.out.m1 rfl
  obtain ⟨hm2,hp2⟩:=HD.out.m2 rfl
  rw [if_pos rfl] at hm1 hm2
  obtain ⟨bx,bxn,bxk,mx,rfl,hgx,_,_⟩:=HD.out.k1 rfl
  obtain ⟨by',byn,byk,my,rfl,hgy,_,_⟩:=HD.out.k2 rfl
  have HBC:=Lib.hid HD.out.bel
  obtain ⟨w7,rfl⟩:∃ w7,w7 = wc:=⟨_,rfl⟩
  have HGX:=Lib.hid hgx
  have HGY:=Lib.hid hgy
  have HM1:=Lib.hid hm1
  have HM2:=Lib.hid hm2
  have c0:=hm1.cell (j:=0) rfl
  have d0:=hm2.cell (j:=0) rfl
  obtain ⟨a0,_,_,_⟩:=H15.out w7 HBC.out
  have HXR:=Lib.hid (HX5.out w7 HBC.out)
  have HSE:=Lib.hid (lng_search x.A x.na x.ca x.a.al x.a y.a bx bxn bxk mx by' byn byk my 73 (.pointer (some ⟨p1,0,none⟩)) (.pointer (some ⟨w.heap.size + 1 + 1,0,none⟩)) (.pointer (some ⟨p2,0,none⟩)) (fun p q=>decide (0 ≤ p) && !decide (0 ≤ q)) (incS x.a y.a) w7 HXR.out.ra HXR.out.la (by have h1:=HWX.out.al_le;have h2:=HXR.out.la;omega) HGX.out HGY.out HWX.out HWY.out (fun _ _=>rfl)
   (fun p q W hb=>lng_choose p1 (w.heap.size + 1 + 1) p2 _ _ _ _ _ p q W (HM1.out.below hb HM1.out.lt) ((H35.out w7 HBC.out).below hb (H35.out w7 HBC.out).lt) (HM2.out.below hb HM2.out.lt)) rfl HN.out (fun v hv=>by have:=HWX.out.rng v hv;omega))
  clear hm1 hm2 hp1 hp2 hgx hgy HD HOX HOY
  go_wp2_with fail
  refine HSE.out.mono ?_
  rintro e w8 ⟨hr8,hb8⟩
  have HB8:=Lib.hid (HB55.out w8 (HBC.out.trans (hb8.mono HBC.out.size)))
  clear a0 c0 d0 HSE hb8
  rcases hr8 with ⟨hn,rfl⟩ | ⟨ws,A9,c9,hn,rfl,hw9,hc9,hd9⟩
  ·have HNN2:=Lib.hid hn
   clear hn
   go_wp2
   go_ret3
   exact ⟨.inl ⟨HNN2.out,rfl⟩,HB8.out⟩
  ·have HNN2:=Lib.hid (And.intro hn (And.intro hw9 (And.intro hc9 hd9)))
   clear hn hw9 hc9 hd9
   go_wp2
   go_ret3
   exact ⟨.inr ⟨ws,A9,c9,HNN2.out.1,rfl,HNN2.out.2.1,HNN2.out.2.2.1,HNN2.out.2.2.2⟩,HB8.out⟩
end Go.Proofs.Ytdnmpndnpfklcaa
/- Plain: the search by which Restrict numbers its states is that of the canonical form (chapter 28). -/
namespace Go.Proofs.Ytdnmpndnpfklcaa
open Go
section
variable {a:Aut} {K:List Int} {C i:Nat} {t:Int}
def rsE (K:List Int) (i:Nat) (s:Bs Int) (x:Ed):Bs Int :=
 if hasB K x.t = true then (if idx s.ts x.t < 0 then ⟨s.ts ++ [x.t],s.es ++ [⟨i,x.e,s.ts.length⟩]⟩ else ⟨s.ts,s.es ++ [⟨i,x.e,idx s.ts x.t⟩]⟩) else s
theorem out_kpA (ht:t ∈ K):outE (kpA a K) t = (outE a t).filter fun x=>hasB K x.t:=by
 unfold outE kpA kpE
 rw [List.filter_filter,List.filter_filter]
 refine List.filter_congr fun x _=>?_
 by_cases h:x.f = t
 ·rw [decide_eq_true h,h,hasB_mem.2 ht];simp
 ·rw [decide_eq_false h];simp
theorem foldl_filter {α β:Type} {q:α → Bool} {f:β → α → β} (h:∀ b x,q x = false → f b x = b):∀ (l:List α) (b:β),(l.filter q).foldl f b = l.foldl f b
 | [],_=>rfl
 | x :: l,b=>by
  cases hq:q x with
  | true=>rw [List.filter_cons_of_pos hq,List.foldl_cons,List.foldl_cons];exact foldl_filter h l _
  | false=>rw [List.filter_cons_of_neg (by simp [hq]),List.foldl_cons,h b x hq];exact foldl_filter h l b
theorem bsF_edges (hw:WF a) (ht:t ∈ K):∀ (L:List Ed) (s s':Bs Int),(∀ x ∈ L,x ∈ outE (kpA a K) t) → bsF C (stA (kpA a K)) i t (L.map Ed.e) s = some s' → s' = L.foldl (rsE K i) s
 | [],s,s',_,h=>by injection h with h;exact h.symm
 | x :: L,s,s',hL,h=>by
  have hx:=hL x List.mem_cons_self
  rw [out_kpA ht,List.mem_filter,outE_mem] at hx
  have hst:stA (kpA a K) t x.e = some x.t:=by
   have:=kpA_nxt hw hx.1.1 (by rw [hx.1.2];exact ht) (hasB_mem.1 hx.2)
   rw [hx.1.2] at this
   exact this
  rw [List.map_cons,bsF] at h
  have hE:∀ s1,bsE C (stA (kpA a K)) i t s x.e = some s1 → s1 = rsE K i s x:=fun s1 h1=>by
   unfold bsE at h1
   rw [hst] at h1
   simp only at h1
   unfold rsE
   rw [if_pos hx.2]
   by_cases hi:idx s.ts x.t < 0
   ·rw [if_pos hi] at h1 ⊢
    split at h1
    ·cases h1
    ·injection h1 with h1;exact h1.symm
   ·rw [if_neg hi] at h1 ⊢
    injection h1 with h1
    exact h1.symm
  cases hq:bsE C (stA (kpA a K)) i t s x.e with
  | none=>rw [hq] at h;cases h
  | some s1 =>
   rw [hq] at h
   simp only at h
   rw [List.foldl_cons,← hE s1 hq]
   exact bsF_edges hw ht L s1 s' (fun y hy=>hL y (List.mem_cons_of_mem _ hy)) h
theorem rs_row (hw:WF a) (ht:t ∈ K) {s s':Bs Int} (h:bsF C (stA (kpA a K)) i t a.al s = some s'):s' = (outE a t).foldl (rsE K i) s:=by
 rw [bsF_filter,show a.al = (kpA a K).al from rfl,out_evs (kpA_wf hw) t] at h
 rw [bsF_edges hw ht _ s s' (fun _ hx=>hx) h,out_kpA ht]
 refine foldl_filter (fun b x hq=>?_) _ _
 unfold rsE
 rw [hq,if_neg (by simp)]
theorem rs_run (hw:WF a) (h0:hasB K 0 = true) (hK:∀ s ∈ K,0 ≤ s∧s < a.st):∃ s,canS (kpA a K) = some s∧BInv 4096 (stA (kpA a K)) a.al 0 s.ts.length s∧rsA a K = autOf a.al (mkA (kpA a K)) s:=by
 have hst:(kpA a K).st ≠ 0:=by
  have:=hK 0 (hasB_mem.1 h0)
  show a.st ≠ 0
  omega
 obtain ⟨s,e,hs⟩:=canS_some (kpA_wf (K:=K) hw) hst
 refine ⟨s,e,hs,?_⟩
 unfold rsA canA
 rw [if_pos h0,if_neg hst,e]
 rfl
theorem rs_round (hw:WF a) (h0:hasB K 0 = true) (hK:∀ s ∈ K,0 ≤ s∧s < a.st) {s:Bs Int} (h:BInv 4096 (stA (kpA a K)) a.al 0 i s) (ht:s.ts[i]? = some t):BInv 4096 (stA (kpA a K)) a.al 0 (i + 1) ((outE a t).foldl (rsE K i) s)∧t ∈ K∧bsF 4096 (stA (kpA a K)) i t a.al s = some ((outE a t).foldl (rsE K i) s):=by
 have hin:∀ t,Rch (stA (kpA a K)) a.al 0 t → t ∈ K:=fun t ht=>by
  cases ht with
  | start=>exact hasB_mem.1 h0
  | step _ _ hst =>
   unfold stA at hst
   split at hst
   ·cases hst
   ·rename_i hn
    injection hst with hst
    have hne:nxt (kpA a K) _ _ ≠ -1:=fun e=>hn (by rw [e];omega)
    obtain ⟨x,hx,_,_,hxt⟩:=nxtE_mem hne
    have hx2:=(List.mem_filter.1 hx).2
    unfold kpE at hx2
    rw [Bool.and_eq_true] at hx2
    rw [← hst]
    have:=hasB_mem.1 hx2.2
    rw [hxt] at this
    exact this
 have htK:=hin t (h.rch t (List.mem_of_getElem? ht))
 rcases h.round ht with ⟨s1,h1,h2,_⟩ | ⟨_,l,l1,l2,l3⟩
 ·have:=rs_row hw htK h1
  subst this
  exact ⟨h2,htK,h1⟩
 ·have:=nodup_le l1 (m:=rngI a.st) fun x hx=>rngI_mem.2 (hK x (hin x (l3 x hx)))
  rw [l2,rngI_len] at this
  have:=hw.st1
  omega
end
end Go.Proofs.Ytdnmpndnpfklcaa

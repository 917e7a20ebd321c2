/- The law's spoilt. -/
import Derived.Test.YtdnmpndnpfklcaaV2
namespace Go.Proofs.Ytdnmpndnpfklcaa
open Go.RowKit Go Go.Maps
set_option maxRecDepth 100000 in
set_option maxHeartbeats 12800000 in
theorem law_spoilt (C:CV) (wh qa qb:Int) (w:World) (hc:C.ok w w.heap.size) (hdn:C.d.n = C.k.n) (hkn:C.k.n ≤ 5000) (hrn:C.rn ≤ 5000) (hw:0 ≤ wh∧wh ≤ 255) (hqa:0 ≤ qa∧qa ≤ 255) (hqb:-128 ≤ qb∧qb ≤ 127) :
  Calls Try.prog 16 #[.agg (cvc C).toArray,.agg #[.int .u8 wh,.int .u8 qa,.int .i8 qb]] w (RetSp C.k.n C.rn w):=by
 have hb1:=box_below w (.cells (cvc C).toArray 38)
 have kc:=Blk.new w 38 (cvc C)
 obtain ⟨w1,hw1⟩:∃ w1,w1 = w.alloc (.cells (cvc C).toArray 38):=⟨_,rfl⟩
 rw [← hw1] at hb1 kc
 have hb2:=box_below w1 (.cells #[.int .u8 wh,.int .u8 qa,.int .i8 qb] 50)
 have kc2:=kc.below hb2 kc.lt
 have kx:=Blk.new w1 50 [.int .u8 wh,.int .u8 qa,.int .i8 qb]
 have hs1:w1.heap.size = w.heap.size + 1:=by rw [hw1];simp
 rw [hs1] at kx
 obtain ⟨w2,hw2⟩:∃ w2,w2 = w1.alloc (.cells #[.int .u8 wh,.int .u8 qa,.int .i8 qb] 50):=⟨_,rfl⟩
 have kx2:Blk w2 (w.heap.size + 1) 50 [.int .u8 wh,.int .u8 qa,.int .i8 qb]:=by rw [hw2];exact kx
 rw [← hw2] at hb2 kc2
 have hs2:w2.heap.size = w.heap.size + 1 + 1:=by rw [hw2];simp [hs1]
 have hb3:=box_below w2 (.cells #[.slice none 0 0,.slice none 0 0,.slice none 0 0] 38)
 have kc3:=kc2.below hb3 kc2.lt
 have kx3:=kx2.below hb3 kx2.lt
 have ko:=Blk.new w2 38 [.slice none 0 0,.slice none 0 0,.slice none 0 0]
 rw [hs2] at ko
 obtain ⟨w3,hw3⟩:∃ w3,w3 = w2.alloc (.cells #[.slice none 0 0,.slice none 0 0,.slice none 0 0] 38):=⟨_,rfl⟩
 have ko3:Blk w3 (w.heap.size + 1 + 1) 38 [.slice none 0 0,.slice none 0 0,.slice none 0 0]:=by rw [hw3];exact ko
 have hb123:=(hb1.trans (hb2.mono hb1.size)).trans (hb3.mono (hb1.trans (hb2.mono hb1.size)).size)
 rw [← hw3] at hb123 kc3 kx3
 have HC:=Lib.hid (fun (W:World) (hb:Below w3.heap.size w3 W)=>(hc.below (hb123.trans (hb.mono hb123.size))).more (hb123.trans (hb.mono hb123.size)).size)
 have HKC:=Lib.hid (fun (W:World) (hb:Below w3.heap.size w3 W)=>Blk.c3 (kc3.below hb kc3.lt))
 have HKX:=Lib.hid (fun (W:World) (hb:Below w3.heap.size w3 W)=>Blk.c3 (kx3.below hb kx3.lt))
 have HKO:=Lib.hid (fun (W:World) (hb:Below w3.heap.size w3 W)=>ko3.below hb ko3.lt)
 have HB:=Lib.hid (fun (W:World) (hb:Below w3.heap.size w3 W)=>hb123.trans (hb.mono hb123.size))
 have HW3:=Lib.hid (show ((w.alloc (.cells (cvc C).toArray 38)).alloc (.cells #[.int .u8 wh,.int .u8 qa,.int .i8 qb] 50)).alloc (.cells #[.slice none 0 0,.slice none 0 0,.slice none 0 0] 38) = w3 by rw [hw3,hw2,hw1])
 have HCV:=Lib.hid (show cvc C = [.slice C.k.A C.k.n C.k.c,.slice C.d.A C.d.n C.d.c,.slice C.R C.rn C.rc] from rfl)
 have HKL:=Lib.hid (show C.k.l.length = C.k.n from hc.k.la)
 have HDL:=Lib.hid (show C.d.l.length = C.d.n from hc.d.la)
 have HRL:=Lib.hid (show C.rm.length = C.rn from hc.rl)
 have HOL:=Lib.hid (show w.heap.size + 1 + 1 < w3.heap.size from ko3.lt)
 clear hb1 kc hw1 hb2 kc2 kx hs1 hw2 kx2 hs2 hb3 kc3 kx3 ko hw3 ko3 hb123 hc
 have HDN:=Lib.hid hdn;clear hdn
 rw [HCV.out] at HW3 ⊢
 unfold cvc at HKC
 go_enter Try.func16,Try.ntmps16
 go_upto_region 1 with fail
 rw [HW3.out]
 go_cut [5] from 6 (fun s5 wx=>∃ (p:Nat) (v1 v2 v3:Value),s5 = .pointer (some ⟨p,0,none⟩)∧Hid (SpM w3 C p v1 v2 v3 wx))
 case first =>
  as_aux_lemma =>
  refine wp_region_U (fun W=>W.cell? ⟨w.heap.size,0,none⟩ = some (.slice C.k.A C.k.n C.k.c)∧W.cell? ⟨w.heap.size,1,none⟩ = some (.slice C.d.A C.d.n C.d.c)∧W.cell? ⟨w.heap.size,2,none⟩ = some (.slice C.R C.rn C.rc)) (fun _=>True) 14 (by kernel_rfl) ?_
  change anyU _ _ _ _ _ _ _ 15 _ _ _
  have hB0:True:=trivial
  have HBD:=Lib.hid (below_dr w3)
  generalize w3.drew = wd at HBD ⊢
  have hA0:=HKC.out wd HBD.out
  (refine uA 1 ?_ rfl hA0 hB0 (fun W hA=>?_) ?_;rotate_left;(· (go_simp;try with_reducible rfl));(try simp only [Act.put,List.setIfInBounds_toArray,List.set_cons_zero,List.set_cons_succ]))
  (refine uA 2 ?_ rfl hA0 hB0 (fun W hA=>?_) ?_;rotate_left;(· (obtain ⟨c0,c1,c2⟩:=hA;go_simp;try with_reducible rfl));(try simp only [Act.put,List.setIfInBounds_toArray,List.set_cons_zero,List.set_cons_succ]))
  (refine uA 5 ?_ rfl hA0 hB0 (fun W hA=>?_) ?_;rotate_left;(· (go_simp;try with_reducible rfl));(try simp only [Act.put,List.setIfInBounds_toArray,List.set_cons_zero,List.set_cons_succ]))
  (refine uA 6 ?_ rfl hA0 hB0 (fun W hA=>?_) ?_;rotate_left;(· (obtain ⟨c0,c1,c2⟩:=hA;go_simp;try with_reducible rfl));(try simp only [Act.put,List.setIfInBounds_toArray,List.set_cons_zero,List.set_cons_succ]))
  (refine uA 9 ?_ rfl hA0 hB0 (fun W hA=>?_) ?_;rotate_left;(· (go_simp;try with_reducible rfl));(try simp only [Act.put,List.setIfInBounds_toArray,List.set_cons_zero,List.set_cons_succ]))
  (refine uA 10 ?_ rfl hA0 hB0 (fun W hA=>?_) ?_;rotate_left;(· (obtain ⟨c0,c1,c2⟩:=hA;go_simp;try with_reducible rfl));(try simp only [Act.put,List.setIfInBounds_toArray,List.set_cons_zero,List.set_cons_succ]))
  refine anyI_at (I:=fun a0 f L a' W=>∃ (d1 d2 d3 a1 a2 a3 u b s:Bool) (u1 u2 u3 v1 v2 v3 v23 v5:Value) (p:Nat),L = #[d1,true,true,a1,d2,true,true,a2,d3,true,true,a3,u,b,s]∧f + d1.toNat + d2.toNat + d3.toNat + a1.toNat + a2.toNat + a3.toNat + u.toNat + b.toNat + s.toNat = 9∧(a1 = true → d1 = true)∧(a2 = true → d2 = true∧a1 = true)∧(a3 = true → d3 = true∧a2 = true)∧(u = true → a3 = true)∧(s = true → u = true∧b = true)∧(u = true → v23 = .agg #[v1,v2,v3])∧(b = true → v5 = .pointer (some ⟨p,0,none⟩))∧a' = put8z a0 11 15 19 14 18 22 23 5 u1 u2 u3 v1 v2 v3 v23 v5∧Hid (SpR w3 C d1 d2 d3 a1 a2 a3 b s u1 u2 u3 v1 v2 v3 p W)) ?_ ?_
  ·exact ⟨false,false,false,false,false,false,false,false,false,undef,undef,undef,undef,undef,undef,undef,undef,0,rfl,rfl,(by simp),(by simp),(by simp),(by simp),(by simp),(by simp),(by simp),rfl,Lib.hid ⟨HBD.out,(by simp),(by simp),(by simp),(by simp),(by simp),(by simp),(by simp)⟩⟩
  ·clear HBD hA0
   rintro f L a' W ⟨d1,d2,d3,a1,a2,a3,u,b,s,u1,u2,u3,v1,v2,v3,v23,v5,p,rfl,hf,g1,g2,g3,g4,g5,g6,g7,rfl,HD⟩
   simp only [put8z,List.set_cons_succ,List.set_cons_zero]
   refine ⟨⟨HKC.out W HD.out.bel,fun _=>trivial⟩,R9 d1 d2 d3 a1 a2 a3 u b s,?_,?_,?_,?_⟩
   ·clear HD g6 g7 hf
    cases s with
    | true =>
     obtain ⟨rfl,rfl⟩:=g5 rfl
     obtain rfl:=g4 rfl
     obtain ⟨rfl,rfl⟩:=g3 rfl
     obtain ⟨rfl,rfl⟩:=g2 rfl
     obtain rfl:=g1 rfl
     kernel_rfl
    | false =>
    cases u with
    | true =>
     obtain rfl:=g4 rfl
     obtain ⟨rfl,rfl⟩:=g3 rfl
     obtain ⟨rfl,rfl⟩:=g2 rfl
     obtain rfl:=g1 rfl
     cases b <;> kernel_rfl
    | false =>
    cases a3 with
    | true =>
     obtain ⟨rfl,rfl⟩:=g3 rfl
     obtain ⟨rfl,rfl⟩:=g2 rfl
     obtain rfl:=g1 rfl
     cases b <;> kernel_rfl
    | false =>
    cases a2 with
    | true =>
     obtain ⟨rfl,rfl⟩:=g2 rfl
     obtain rfl:=g1 rfl
     cases b <;> cases d3 <;> kernel_rfl
    | false =>
    cases a1 with
    | true =>
     obtain rfl:=g1 rfl
     cases b <;> cases d2 <;> cases d3 <;> kernel_rfl
    | false =>
     cases b <;> cases d1 <;> cases d2 <;> cases d3 <;> kernel_rfl
   ·intro hr0
    obtain ⟨rfl,rfl,rfl,rfl,rfl,rfl,rfl,rfl,rfl⟩:=R9_nil hr0
    obtain rfl:=g6 rfl
    obtain rfl:=g7 rfl
    have HFI:=Lib.hid HD.out.fin
    clear g1 g2 g3 g4 g5 g6 g7 hf hr0 HD
    go_wp2_with fail
    go_meet
    case rel=>exact ⟨p,v1,v2,v3,rfl,HFI⟩
   ·intro h0
    subst h0
    obtain ⟨rfl,rfl,rfl,rfl,rfl,rfl,rfl,rfl,rfl⟩:=nine_true hf
    rfl
   ·rintro i hi g rfl
    have hs0:i ≠ 14 → s = false:=fun hne=>by
     cases s with
     | false=>rfl
     | true =>
      obtain ⟨rfl,rfl⟩:=g5 rfl
      obtain rfl:=g4 rfl
      obtain ⟨rfl,rfl⟩:=g3 rfl
      obtain ⟨rfl,rfl⟩:=g2 rfl
      obtain rfl:=g1 rfl
      simp [R9] at hi
    rcases R9_mem hi with ⟨rfl,k1⟩ | ⟨rfl,rfl,rfl⟩ | ⟨rfl,k1⟩ | ⟨rfl,rfl,rfl,rfl⟩ | ⟨rfl,k1⟩ | ⟨rfl,rfl,rfl,rfl⟩ | ⟨rfl,rfl,rfl⟩ | ⟨rfl,k1⟩ | ⟨rfl,rfl,rfl,rfl⟩
    ·obtain rfl:d1 = false:=by cases d1 with | false=>rfl | true=>exact absurd rfl k1
     have hsf:=hs0 (by decide)
     refine wpOp_at (i:=0) rfl (fun K hK=>?_)
     go_simp
     exact hK _ _ ⟨true,d2,d3,a1,a2,a3,u,b,s,_,u2,u3,v1,v2,v3,v23,v5,p,rfl,(by simp only [Bool.toNat_true,Bool.toNat_false] at hf ⊢;omega),fun _=>rfl,g2,g3,g4,g5,g6,g7,rfl,Lib.hid HD.out.mk1⟩
    ·have hsf:=hs0 (by decide)
     have huf:u = false:=by cases u with | false=>rfl | true=>(have h9:=g4 rfl;exact absurd (g2 (g3 h9).2).2 (by simp))
     obtain ⟨gg,hu,hgl⟩:=HD.out.e1 rfl
     subst hu
     have hbs:w3.heap.size ≤ W.heap.size:=HD.out.bel.size
     have hd5:C.d.n ≤ 5000:=by rw [HDN.out];exact hkn
     refine wpOp_at (i:=3) rfl (fun K hK=>?_)
     refine step_cut W rfl (.tmp 11) (.tmp 13) 29 (by rfl) w3.heap.size 3 (.int .i64 0) 1 8 Try.underlying29 int_info (by rfl) (by decide) ⟨gg,0,none⟩ hgl 0 [] (by simp) RdV.nil (by rfl) C.k.A C.k.n C.k.c (iv C.k.l) (by rw [iv_length,HKL.out,Nat.mul_one]) (by rfl) (HC.out W HD.out.bel).k.ra (by omega) (by omega) hbs ?_
     intro A' c' W' i1 i2 i3 i4 i5 i6 i7
     have hz:=rwZ_of_cut (g:=gg) (by rw [iv_length,HKL.out,Nat.mul_one]) i1 i2 i3 i5 i6
     have HD2:=HD.out.ap1 hsf i7 hz
     clear i4 i5 hz
     go_simp
     exact hK _ _ ⟨true,d2,d3,true,a2,a3,u,b,s,_,u2,u3,_,v2,v3,v23,v5,p,rfl,(by simp only [Bool.toNat_true,Bool.toNat_false] at hf ⊢;omega),fun _=>rfl,fun h=>⟨(g2 h).1,rfl⟩,g3,g4,g5,(fun h=>absurd h (by simp [huf])),g7,rfl,Lib.hid HD2⟩
    ·obtain rfl:d2 = false:=by cases d2 with | false=>rfl | true=>exact absurd rfl k1
     have hsf:=hs0 (by decide)
     refine wpOp_at (i:=4) rfl (fun K hK=>?_)
     go_simp
     exact hK _ _ ⟨d1,true,d3,a1,a2,a3,u,b,s,u1,_,u3,v1,v2,v3,v23,v5,p,rfl,(by simp only [Bool.toNat_true,Bool.toNat_false] at hf ⊢;omega),g1,fun h=>⟨rfl,(g2 h).2⟩,g3,g4,g5,g6,g7,rfl,Lib.hid HD.out.mk2⟩
    ·have hsf:=hs0 (by decide)
     obtain rfl:=g1 rfl
     have huf:u = false:=by cases u with | false=>rfl | true=>(have h9:=g4 rfl;exact absurd (g3 h9).2 (by simp))
     obtain ⟨gg,hu,hgl⟩:=HD.out.e2 rfl
     subst hu
     have hbs:w3.heap.size ≤ W.heap.size:=HD.out.bel.size
     have hd5:C.d.n ≤ 5000:=by rw [HDN.out];exact hkn
     refine wpOp_at (i:=7) rfl (fun K hK=>?_)
     refine step_cut W rfl (.tmp 15) (.tmp 17) 29 (by rfl) w3.heap.size 3 (.int .i64 0) 1 8 Try.underlying29 int_info (by rfl) (by decide) ⟨gg,0,none⟩ hgl 0 [] (by simp) RdV.nil (by rfl) C.d.A C.d.n C.d.c (iv C.d.l) (by rw [iv_length,HDL.out,Nat.mul_one]) (by rfl) (HC.out W HD.out.bel).d.ra (by omega) (by omega) hbs ?_
     intro A' c' W' i1 i2 i3 i4 i5 i6 i7
     have hz:=rwZ_of_cut (g:=gg) (by rw [iv_length,HDL.out,Nat.mul_one]) i1 i2 i3 i5 i6
     have HD2:=HD.out.ap2 hsf i7 hz
     clear i4 i5 hz
     go_simp
     exact hK _ _ ⟨true,true,d3,true,true,a3,u,b,s,u1,_,u3,v1,_,v3,v23,v5,p,rfl,(by simp only [Bool.toNat_true,Bool.toNat_false] at hf ⊢;omega),fun _=>rfl,fun _=>⟨rfl,rfl⟩,fun h=>⟨(g3 h).1,rfl⟩,g4,g5,(fun h=>absurd h (by simp [huf])),g7,rfl,Lib.hid HD2⟩
    ·obtain rfl:d3 = false:=by cases d3 with | false=>rfl | true=>exact absurd rfl k1
     have hsf:=hs0 (by decide)
     refine wpOp_at (i:=8) rfl (fun K hK=>?_)
     go_simp
     exact hK _ _ ⟨d1,d2,true,a1,a2,a3,u,b,s,u1,u2,_,v1,v2,v3,v23,v5,p,rfl,(by simp only [Bool.toNat_true,Bool.toNat_false] at hf ⊢;omega),g1,g2,fun h=>⟨rfl,(g3 h).2⟩,g4,g5,g6,g7,rfl,Lib.hid HD.out.mk3⟩
    ·have hsf:=hs0 (by decide)
     obtain ⟨rfl,rfl⟩:=g2 rfl
     obtain rfl:=g1 rfl
     have huf:u = false:=by cases u with | false=>rfl | true=>(have h9:=g4 rfl;exact absurd h9 (by simp))
     obtain ⟨gg,hu,hgl⟩:=HD.out.e3 rfl
     subst hu
     have hbs:w3.heap.size ≤ W.heap.size:=HD.out.bel.size
     have hd5:C.d.n ≤ 5000:=by rw [HDN.out];exact hkn
     refine wpOp_at (i:=11) rfl (fun K hK=>?_)
     refine step_cut W rfl (.tmp 19) (.tmp 21) 36 (by rfl) w3.heap.size 63 (.agg #[.int .i64 0,.int .i64 0,.int .i64 0,.int .i64 0]) 4 32 Try.underlying36 rm_info (by rfl) (by decide) ⟨gg,0,none⟩ hgl 0 [] (by simp) RdV.nil (by rfl) C.R C.rn C.rc (C.rm.flatMap rmc) (by rw [flat_len rmc 4 C.rm (fun _ _=>rfl),HRL.out]) (by rfl) (rdV_of_rdR (HC.out W HD.out.bel).rr) (by omega) (by omega) hbs ?_
     intro A' c' W' i1 i2 i3 i4 i5 i6 i7
     have hz:=rwZ_of_cut (g:=gg) (by rw [flat_len rmc 4 C.rm (fun _ _=>rfl),HRL.out]) i1 i2 i3 i5 i6
     have HD2:=HD.out.ap3 hsf i7 hz
     clear i4 i5 hz
     go_simp
     exact hK _ _ ⟨true,true,true,true,true,true,u,b,s,u1,u2,_,v1,v2,_,v23,v5,p,rfl,(by simp only [Bool.toNat_true,Bool.toNat_false] at hf ⊢;omega),fun _=>rfl,fun _=>⟨rfl,rfl⟩,fun _=>⟨rfl,rfl⟩,fun _=>rfl,g5,(fun h=>absurd h (by simp [huf])),g7,rfl,Lib.hid HD2⟩
    ·have hsf:=hs0 (by decide)
     obtain ⟨rfl,rfl⟩:=g3 rfl
     obtain ⟨rfl,rfl⟩:=g2 rfl
     obtain rfl:=g1 rfl
     obtain ⟨gx,cx,rfl,_⟩:=HD.out.k rfl
     obtain ⟨gy,cy,rfl,_⟩:=HD.out.d rfl
     obtain ⟨gz,cz,rfl,_⟩:=HD.out.r rfl
     refine wpOp_at (i:=12) rfl (fun K hK=>?_)
     go_simp
     exact hK _ _ ⟨true,true,true,true,true,true,true,b,s,u1,u2,u3,_,_,_,_,v5,p,rfl,(by simp only [Bool.toNat_true,Bool.toNat_false] at hf ⊢;omega),g1,g2,g3,(fun _=>rfl),(fun h=>absurd h (by simp [hsf])),(fun _=>rfl),g7,rfl,HD⟩
    ·obtain rfl:b = false:=by cases b with | false=>rfl | true=>exact absurd rfl k1
     have hsf:=hs0 (by decide)
     refine wpOp_at (i:=13) rfl (fun K hK=>?_)
     go_simp
     exact hK _ _ ⟨d1,d2,d3,a1,a2,a3,u,true,s,u1,u2,u3,v1,v2,v3,v23,_,W.heap.size,rfl,(by simp only [Bool.toNat_true,Bool.toNat_false] at hf ⊢;omega),g1,g2,g3,g4,(fun h=>absurd h (by simp [hsf])),g6,(fun _=>rfl),rfl,Lib.hid (HD.out.bx hsf)⟩
    ·obtain rfl:=g4 rfl
     obtain ⟨rfl,rfl⟩:=g3 rfl
     obtain ⟨rfl,rfl⟩:=g2 rfl
     obtain rfl:=g1 rfl
     obtain rfl:=g6 rfl
     obtain rfl:=g7 rfl
     obtain ⟨gx,cx,rfl,_⟩:=HD.out.k rfl
     obtain ⟨gy,cy,rfl,_⟩:=HD.out.d rfl
     obtain ⟨gz,cz,rfl,_⟩:=HD.out.r rfl
     refine wpOp_at (i:=14) rfl (fun K hK=>?_)
     refine step_store rfl 38 (.tmp 5) (.tmp 23) (by rfl) p 0 #[.slice (some ⟨gx,0,none⟩) C.k.n cx,.slice (some ⟨gy,0,none⟩) C.d.n cy,.slice (some ⟨gz,0,none⟩) C.rn cz] (by rfl) (by rfl) ((HD.out.m rfl).1.there (o:=0) (n:=3) (by simp)) cert_size (by simp [Value.oneCell']) ?_
     have HD2:=HD.out.store
     go_simp
     exact hK _ _ ⟨true,true,true,true,true,true,true,true,true,u1,u2,u3,_,_,_,_,_,p,rfl,(by simp only [Bool.toNat_true,Bool.toNat_false] at hf ⊢;omega),g1,(fun _=>⟨rfl,rfl⟩),(fun _=>⟨rfl,rfl⟩),(fun _=>rfl),(fun _=>⟨rfl,rfl⟩),(fun _=>rfl),(fun _=>rfl),rfl,Lib.hid HD2⟩
 case rest =>
  obtain ⟨p,v1,v2,v3,rfl,HM⟩:=hcut
  obtain ⟨w4,rfl⟩:∃ q,q = wc:=⟨_,rfl⟩
  obtain ⟨gk,ck,rfl,kc1,kc2,kgl,_,hok⟩:=HM.out.k
  obtain ⟨gd,cd,rfl,dc1,dc2,dgl,_,hod⟩:=HM.out.d
  obtain ⟨gr,cr,rfl,rc1,rc2,rgl,_,hor⟩:=HM.out.r
  have HSM:=Lib.hid HM.out
  have HOK:=Lib.hid hok
  have HOD:=Lib.hid hod
  have HOR:=Lib.hid hor
  obtain ⟨ak,hak⟩:∃ a:Addr,(⟨gk,0,none⟩:Addr) = a:=⟨_,rfl⟩
  obtain ⟨ad,had⟩:∃ a:Addr,(⟨gd,0,none⟩:Addr) = a:=⟨_,rfl⟩
  obtain ⟨ar,har⟩:∃ a:Addr,(⟨gr,0,none⟩:Addr) = a:=⟨_,rfl⟩
  rw [hak,had,har] at HM
  have HAK:=Lib.hid hak
  have HAD:=Lib.hid had
  have HAR:=Lib.hid har
  clear hak had har
  have HSL:=Lib.hid (HM.out.rd HKL.out HDL.out HRL.out)
  have HPB:=Lib.hid (fun (W:World) (hb:Below w4.heap.size w4 W)=>Blk.c3 (HM.out.box.below hb HM.out.box.lt))
  have H34:=Lib.hid (fun (W:World) (hb:Below w4.heap.size w4 W)=>HM.out.bel.trans (hb.mono HM.out.bel.size))
  have HD5:=Lib.hid (show C.d.n ≤ 5000 by rw [HDN.out];exact hkn)
  clear hok hod hor
  obtain ⟨a8,rfl⟩:∃ k:Nat,qa = (k:Int):=⟨qa.toNat,by omega⟩
  obtain ⟨c0,c1,c2⟩:=HPB.out w4 (Below.refl _ _)
  obtain ⟨x0,x1,x2⟩:=HKX.out w4 HM.out.bel
  go_upto_if 27 with fail
  go_cut [6] from 11 (fun s6 wx=>∃ r:Nat,s6 = .int .i64 r∧(0 < C.rn → r < C.rn)∧wx = w4)
  case first =>
   by_cases hr:(C.rn:Int) > 0
   ·have hn0:¬ (C.rn:Int) = 0:=by omega
    have hn0b:((C.rn:Int) == 0) = false:=by simpa using hn0
    have h1:=Int.emod_nonneg (a8:Int) hn0
    have h2:=Int.emod_lt_of_pos (a8:Int) (by omega:(0:Int) < (C.rn:Int))
    obtain ⟨r,hrr⟩:∃ r:Nat,(a8:Int) % (C.rn:Int) = (r:Int):=⟨_,(Int.toNat_of_nonneg h1).symm⟩
    have HRR:=Lib.hid (show r < C.rn by omega)
    have HRE:=Lib.hid hrr
    clear h1 h2 hrr
    go_wp2
    go_meet
    case rel=>exact ⟨r,by rw [HRE.out],fun _=>HRR.out,by first | rfl | trivial⟩
   ·have hr0:¬ 0 < C.rn:=by omega
    have HR0:=Lib.hid hr0;clear hr0
    go_wp2
    go_meet
    case rel=>exact ⟨0,rfl,fun h=>absurd h HR0.out,by first | rfl | trivial⟩
  case rest =>
  obtain ⟨r,rfl,hrr,rfl⟩:=hcut
  obtain ⟨w4,rfl⟩:∃ q,q = wc:=⟨_,rfl⟩
  have HRR:=Lib.hid hrr
  clear hrr
  go_upto_if 38 with fail
  go_cut [7] from 11 (fun s7 wx=>∃ t:Nat,s7 = .int .i64 t∧(0 < C.k.n → t < C.k.n)∧wx = w4)
  case first =>
   by_cases hr:(C.k.n:Int) > 0
   ·have hn0:¬ (C.k.n:Int) = 0:=by omega
    have hn0b:((C.k.n:Int) == 0) = false:=by simpa using hn0
    have h1:=Int.emod_nonneg (a8:Int) hn0
    have h2:=Int.emod_lt_of_pos (a8:Int) (by omega:(0:Int) < (C.k.n:Int))
    obtain ⟨t,hrr⟩:∃ r:Nat,(a8:Int) % (C.k.n:Int) = (r:Int):=⟨_,(Int.toNat_of_nonneg h1).symm⟩
    have HRK:=Lib.hid (show t < C.k.n by omega)
    have HRE:=Lib.hid hrr
    clear h1 h2 hrr
    go_wp2
    go_meet
    case rel=>exact ⟨t,by rw [HRE.out],fun _=>HRK.out,by first | rfl | trivial⟩
   ·have hr0:¬ 0 < C.k.n:=by omega
    have HR0:=Lib.hid hr0;clear hr0
    go_wp2
    go_meet
    case rel=>exact ⟨0,rfl,fun h=>absurd h HR0.out,by first | rfl | trivial⟩
  case rest =>
  obtain ⟨t,rfl,htt,rfl⟩:=hcut
  obtain ⟨w4,rfl⟩:∃ q,q = wc:=⟨_,rfl⟩
  have HTT:=Lib.hid htt
  clear htt
  have HNOP:=Lib.hid (show SpE w3 C.k.n C.rn p w4 from by
   have hb:=HM.out.box
   refine spE_of (l1:=C.k.l) (l2:=C.d.l) (l3:=C.rm) HM.out.bel (by rw [HDN.out] at hb;exact hb) HKL.out (HDL.out.trans HDN.out) HRL.out HM.out.k.rd (by have h:=HM.out.d.rd;exact h) (rdR_of_rdV (sz:=4) (fun _=>rfl) (by decide) HM.out.r.rd) ⟨kc1,kc2⟩ (by have h:=HDN.out;omega) ⟨rc1,rc2⟩ (Nat.le_refl _) (Nat.le_succ _))
  have hq8:wh % 8 = 0 ∨ wh % 8 = 1 ∨ wh % 8 = 2 ∨ wh % 8 = 3 ∨ wh % 8 = 4 ∨ wh % 8 = 5 ∨ wh % 8 = 6 ∨ wh % 8 = 7:=by omega
  rcases hq8 with hq | hq | hq | hq | hq | hq | hq | hq
  ·as_aux_lemma =>
   by_cases hr:(C.rn:Int) > 0
   case neg =>
    have hrd:decide ((C.rn:Int) > 0) = false:=by simpa using hr
    go_upto_region 29 with fail
    clear c0 c1 c2 x0 x1 x2
    obtain ⟨D,w6,hw6,⟨c0,c1,c2⟩,hth,⟨z0,z1,z2⟩,hfi⟩:=spE_end HNOP.out (HKO.out w4 HNOP.out.bel) (HB.out w4 HNOP.out.bel)
    have HW6:=Lib.hid hw6
    have HTH:=Lib.hid hth
    have HFI:=Lib.hid hfi
    clear hw6 hth hfi
    go_wp2_with (first | (have hth:=HTH.out;refine wpList_store_mid rfl 38 (.tmp 4) (.tmp 214) rfl (w.heap.size + 1 + 1) 0 #[.slice D.k.A D.k.n D.k.c,.slice D.d.A D.d.n D.d.c,.slice D.R D.rn D.rc] rfl rfl hth cert_size (by simp [Value.oneCell']) ?_;rw [HW6.out];refine wpList_nil ?_;rename_i K9 hK9;refine hK9 _ _ ?_;apply wp_ret;refine bodyPost_ret (v:=.agg #[.slice D.k.A D.k.n D.k.c,.slice D.d.A D.d.n D.d.c,.slice D.R D.rn D.rc]) (by simp [results,Try.results16,go_sem,z0,z1,z2]) rfl ?_;exact HFI.out) | fail)
   have hor:=HOR.out (by omega)
   have hrl:r < C.rn:=HRR.out (by omega)
   have b1:(r:Int) < (C.rn:Int):=by omega
   obtain ⟨ad9,y,hA9,hy9,g0,g1,g2,g3⟩:=rm_reads (rdR_of_rdV (sz:=4) (fun _=>rfl) (by decide) HM.out.r.rd) (j:=r) (by rw [HRL.out];exact hrl)
   injection hA9 with hA9
   subst hA9
   have z9:w4.frozen? ⟨(ar.add (r * 4)).block,(ar.add (r * 4)).off + 1,none⟩ = false:=by rw [← HAR.out,add_lit0];exact hor.frozenAt _
   have HEN:=Lib.hid (show SpE w3 C.k.n C.rn p (w4.setCell ⟨(ar.add (r * 4)).block,(ar.add (r * 4)).off + 1,none⟩ (.int .i64 qb)) from by
    rw [← HAR.out,add_lit0]
    exact HSM.out.wr HDN.out HKL.out HDL.out HRL.out hor hrl (by decide) qb)
   clear hor hy9
   go_upto_region 29 with fail
   clear c0 c1 c2 x0 x1 x2
   generalize w4.setCell ⟨(ar.add (r * 4)).block,(ar.add (r * 4)).off + 1,none⟩ (.int .i64 qb) = w5 at HEN ⊢
   obtain ⟨D,w6,hw6,⟨c0,c1,c2⟩,hth,⟨z0,z1,z2⟩,hfi⟩:=spE_end HEN.out (HKO.out w5 HEN.out.bel) (HB.out w5 HEN.out.bel)
   have HW6:=Lib.hid hw6
   have HTH:=Lib.hid hth
   have HFI:=Lib.hid hfi
   clear hw6 hth hfi
   go_wp2_with (first | (have hth:=HTH.out;refine wpList_store_mid rfl 38 (.tmp 4) (.tmp 214) rfl (w.heap.size + 1 + 1) 0 #[.slice D.k.A D.k.n D.k.c,.slice D.d.A D.d.n D.d.c,.slice D.R D.rn D.rc] rfl rfl hth cert_size (by simp [Value.oneCell']) ?_;rw [HW6.out];refine wpList_nil ?_;rename_i K9 hK9;refine hK9 _ _ ?_;apply wp_ret;refine bodyPost_ret (v:=.agg #[.slice D.k.A D.k.n D.k.c,.slice D.d.A D.d.n D.d.c,.slice D.R D.rn D.rc]) (by simp [results,Try.results16,go_sem,z0,z1,z2]) rfl ?_;exact HFI.out) | fail)
  ·as_aux_lemma =>
   by_cases hr:(C.rn:Int) > 0
   case neg =>
    have hrd:decide ((C.rn:Int) > 0) = false:=by simpa using hr
    go_upto_region 29 with fail
    clear c0 c1 c2 x0 x1 x2
    obtain ⟨D,w6,hw6,⟨c0,c1,c2⟩,hth,⟨z0,z1,z2⟩,hfi⟩:=spE_end HNOP.out (HKO.out w4 HNOP.out.bel) (HB.out w4 HNOP.out.bel)
    have HW6:=Lib.hid hw6
    have HTH:=Lib.hid hth
    have HFI:=Lib.hid hfi
    clear hw6 hth hfi
    go_wp2_with (first | (have hth:=HTH.out;refine wpList_store_mid rfl 38 (.tmp 4) (.tmp 214) rfl (w.heap.size + 1 + 1) 0 #[.slice D.k.A D.k.n D.k.c,.slice D.d.A D.d.n D.d.c,.slice D.R D.rn D.rc] rfl rfl hth cert_size (by simp [Value.oneCell']) ?_;rw [HW6.out];refine wpList_nil ?_;rename_i K9 hK9;refine hK9 _ _ ?_;apply wp_ret;refine bodyPost_ret (v:=.agg #[.slice D.k.A D.k.n D.k.c,.slice D.d.A D.d.n D.d.c,.slice D.R D.rn D.rc]) (by simp [results,Try.results16,go_sem,z0,z1,z2]) rfl ?_;exact HFI.out) | fail)
   have hor:=HOR.out (by omega)
   have hrl:r < C.rn:=HRR.out (by omega)
   have b1:(r:Int) < (C.rn:Int):=by omega
   obtain ⟨ad9,y,hA9,hy9,g0,g1,g2,g3⟩:=rm_reads (rdR_of_rdV (sz:=4) (fun _=>rfl) (by decide) HM.out.r.rd) (j:=r) (by rw [HRL.out];exact hrl)
   injection hA9 with hA9
   subst hA9
   have z9:w4.frozen? ⟨(ar.add (r * 4)).block,(ar.add (r * 4)).off + 2,none⟩ = false:=by rw [← HAR.out,add_lit0];exact hor.frozenAt _
   have HEN:=Lib.hid (show SpE w3 C.k.n C.rn p (w4.setCell ⟨(ar.add (r * 4)).block,(ar.add (r * 4)).off + 2,none⟩ (.int .i64 qb)) from by
    rw [← HAR.out,add_lit0]
    exact HSM.out.wr HDN.out HKL.out HDL.out HRL.out hor hrl (by decide) qb)
   clear hor hy9
   go_upto_region 29 with fail
   clear c0 c1 c2 x0 x1 x2
   generalize w4.setCell ⟨(ar.add (r * 4)).block,(ar.add (r * 4)).off + 2,none⟩ (.int .i64 qb) = w5 at HEN ⊢
   obtain ⟨D,w6,hw6,⟨c0,c1,c2⟩,hth,⟨z0,z1,z2⟩,hfi⟩:=spE_end HEN.out (HKO.out w5 HEN.out.bel) (HB.out w5 HEN.out.bel)
   have HW6:=Lib.hid hw6
   have HTH:=Lib.hid hth
   have HFI:=Lib.hid hfi
   clear hw6 hth hfi
   go_wp2_with (first | (have hth:=HTH.out;refine wpList_store_mid rfl 38 (.tmp 4) (.tmp 214) rfl (w.heap.size + 1 + 1) 0 #[.slice D.k.A D.k.n D.k.c,.slice D.d.A D.d.n D.d.c,.slice D.R D.rn D.rc] rfl rfl hth cert_size (by simp [Value.oneCell']) ?_;rw [HW6.out];refine wpList_nil ?_;rename_i K9 hK9;refine hK9 _ _ ?_;apply wp_ret;refine bodyPost_ret (v:=.agg #[.slice D.k.A D.k.n D.k.c,.slice D.d.A D.d.n D.d.c,.slice D.R D.rn D.rc]) (by simp [results,Try.results16,go_sem,z0,z1,z2]) rfl ?_;exact HFI.out) | fail)
  ·as_aux_lemma =>
   by_cases hr:(C.rn:Int) > 0
   case neg =>
    have hrd:decide ((C.rn:Int) > 0) = false:=by simpa using hr
    go_upto_region 29 with fail
    clear c0 c1 c2 x0 x1 x2
    obtain ⟨D,w6,hw6,⟨c0,c1,c2⟩,hth,⟨z0,z1,z2⟩,hfi⟩:=spE_end HNOP.out (HKO.out w4 HNOP.out.bel) (HB.out w4 HNOP.out.bel)
    have HW6:=Lib.hid hw6
    have HTH:=Lib.hid hth
    have HFI:=Lib.hid hfi
    clear hw6 hth hfi
    go_wp2_with (first | (have hth:=HTH.out;refine wpList_store_mid rfl 38 (.tmp 4) (.tmp 214) rfl (w.heap.size + 1 + 1) 0 #[.slice D.k.A D.k.n D.k.c,.slice D.d.A D.d.n D.d.c,.slice D.R D.rn D.rc] rfl rfl hth cert_size (by simp [Value.oneCell']) ?_;rw [HW6.out];refine wpList_nil ?_;rename_i K9 hK9;refine hK9 _ _ ?_;apply wp_ret;refine bodyPost_ret (v:=.agg #[.slice D.k.A D.k.n D.k.c,.slice D.d.A D.d.n D.d.c,.slice D.R D.rn D.rc]) (by simp [results,Try.results16,go_sem,z0,z1,z2]) rfl ?_;exact HFI.out) | fail)
   have hor:=HOR.out (by omega)
   have hrl:r < C.rn:=HRR.out (by omega)
   have b1:(r:Int) < (C.rn:Int):=by omega
   obtain ⟨ad9,y,hA9,hy9,g0,g1,g2,g3⟩:=rm_reads (rdR_of_rdV (sz:=4) (fun _=>rfl) (by decide) HM.out.r.rd) (j:=r) (by rw [HRL.out];exact hrl)
   injection hA9 with hA9
   subst hA9
   have z9:w4.frozen? ⟨(ar.add (r * 4)).block,(ar.add (r * 4)).off + 3,none⟩ = false:=by rw [← HAR.out,add_lit0];exact hor.frozenAt _
   have HEN:=Lib.hid (show SpE w3 C.k.n C.rn p (w4.setCell ⟨(ar.add (r * 4)).block,(ar.add (r * 4)).off + 3,none⟩ (.int .i64 qb)) from by
    rw [← HAR.out,add_lit0]
    exact HSM.out.wr HDN.out HKL.out HDL.out HRL.out hor hrl (by decide) qb)
   clear hor hy9
   go_upto_region 29 with fail
   clear c0 c1 c2 x0 x1 x2
   generalize w4.setCell ⟨(ar.add (r * 4)).block,(ar.add (r * 4)).off + 3,none⟩ (.int .i64 qb) = w5 at HEN ⊢
   obtain ⟨D,w6,hw6,⟨c0,c1,c2⟩,hth,⟨z0,z1,z2⟩,hfi⟩:=spE_end HEN.out (HKO.out w5 HEN.out.bel) (HB.out w5 HEN.out.bel)
   have HW6:=Lib.hid hw6
   have HTH:=Lib.hid hth
   have HFI:=Lib.hid hfi
   clear hw6 hth hfi
   go_wp2_with (first | (have hth:=HTH.out;refine wpList_store_mid rfl 38 (.tmp 4) (.tmp 214) rfl (w.heap.size + 1 + 1) 0 #[.slice D.k.A D.k.n D.k.c,.slice D.d.A D.d.n D.d.c,.slice D.R D.rn D.rc] rfl rfl hth cert_size (by simp [Value.oneCell']) ?_;rw [HW6.out];refine wpList_nil ?_;rename_i K9 hK9;refine hK9 _ _ ?_;apply wp_ret;refine bodyPost_ret (v:=.agg #[.slice D.k.A D.k.n D.k.c,.slice D.d.A D.d.n D.d.c,.slice D.R D.rn D.rc]) (by simp [results,Try.results16,go_sem,z0,z1,z2]) rfl ?_;exact HFI.out) | fail)
  ·as_aux_lemma =>
   by_cases hr:(C.k.n:Int) > 0
   case neg =>
    have hrd:decide ((C.k.n:Int) > 0) = false:=by simpa using hr
    go_upto_region 29 with fail
    clear c0 c1 c2 x0 x1 x2
    obtain ⟨D,w6,hw6,⟨c0,c1,c2⟩,hth,⟨z0,z1,z2⟩,hfi⟩:=spE_end HNOP.out (HKO.out w4 HNOP.out.bel) (HB.out w4 HNOP.out.bel)
    have HW6:=Lib.hid hw6
    have HTH:=Lib.hid hth
    have HFI:=Lib.hid hfi
    clear hw6 hth hfi
    go_wp2_with (first | (have hth:=HTH.out;refine wpList_store_mid rfl 38 (.tmp 4) (.tmp 214) rfl (w.heap.size + 1 + 1) 0 #[.slice D.k.A D.k.n D.k.c,.slice D.d.A D.d.n D.d.c,.slice D.R D.rn D.rc] rfl rfl hth cert_size (by simp [Value.oneCell']) ?_;rw [HW6.out];refine wpList_nil ?_;rename_i K9 hK9;refine hK9 _ _ ?_;apply wp_ret;refine bodyPost_ret (v:=.agg #[.slice D.k.A D.k.n D.k.c,.slice D.d.A D.d.n D.d.c,.slice D.R D.rn D.rc]) (by simp [results,Try.results16,go_sem,z0,z1,z2]) rfl ?_;exact HFI.out) | fail)
   have hkd:=HDN.out
   have hod:=HOD.out (by omega)
   have htl:t < C.k.n:=HTT.out (by omega)
   have b1:(t:Int) < (C.d.n:Int):=by omega
   clear hkd
   obtain ⟨ad9,y,hA9,_,hy9,g0⟩:=(show RdI w4 w4.heap.size (some ad) C.d.l from HM.out.d.rd).at_ (k:=t) (by rw [HDL.out,HDN.out];exact htl)
   injection hA9 with hA9
   subst hA9
   have z9:w4.frozen? (ad.add t) = false:=by rw [← HAD.out,add_lit0];exact hod.frozenAt _
   have HEN:=Lib.hid (show SpE w3 C.k.n C.rn p (w4.setCell (ad.add t) (.int .i64 qb)) from by
    rw [← HAD.out,add_lit0]
    exact HSM.out.wd HDN.out HKL.out HDL.out HRL.out hod t qb)
   clear hod hy9
   go_upto_region 29 with fail
   clear c0 c1 c2 x0 x1 x2
   generalize w4.setCell (ad.add t) (.int .i64 qb) = w5 at HEN ⊢
   obtain ⟨D,w6,hw6,⟨c0,c1,c2⟩,hth,⟨z0,z1,z2⟩,hfi⟩:=spE_end HEN.out (HKO.out w5 HEN.out.bel) (HB.out w5 HEN.out.bel)
   have HW6:=Lib.hid hw6
   have HTH:=Lib.hid hth
   have HFI:=Lib.hid hfi
   clear hw6 hth hfi
   go_wp2_with (first | (have hth:=HTH.out;refine wpList_store_mid rfl 38 (.tmp 4) (.tmp 214) rfl (w.heap.size + 1 + 1) 0 #[.slice D.k.A D.k.n D.k.c,.slice D.d.A D.d.n D.d.c,.slice D.R D.rn D.rc] rfl rfl hth cert_size (by simp [Value.oneCell']) ?_;rw [HW6.out];refine wpList_nil ?_;rename_i K9 hK9;refine hK9 _ _ ?_;apply wp_ret;refine bodyPost_ret (v:=.agg #[.slice D.k.A D.k.n D.k.c,.slice D.d.A D.d.n D.d.c,.slice D.R D.rn D.rc]) (by simp [results,Try.results16,go_sem,z0,z1,z2]) rfl ?_;exact HFI.out) | fail)
  ·as_aux_lemma =>
   by_cases hr:(C.k.n:Int) > 0
   case neg =>
    have hrd:decide ((C.k.n:Int) > 0) = false:=by simpa using hr
    go_upto_region 29 with fail
    clear c0 c1 c2 x0 x1 x2
    obtain ⟨D,w6,hw6,⟨c0,c1,c2⟩,hth,⟨z0,z1,z2⟩,hfi⟩:=spE_end HNOP.out (HKO.out w4 HNOP.out.bel) (HB.out w4 HNOP.out.bel)
    have HW6:=Lib.hid hw6
    have HTH:=Lib.hid hth
    have HFI:=Lib.hid hfi
    clear hw6 hth hfi
    go_wp2_with (first | (have hth:=HTH.out;refine wpList_store_mid rfl 38 (.tmp 4) (.tmp 214) rfl (w.heap.size + 1 + 1) 0 #[.slice D.k.A D.k.n D.k.c,.slice D.d.A D.d.n D.d.c,.slice D.R D.rn D.rc] rfl rfl hth cert_size (by simp [Value.oneCell']) ?_;rw [HW6.out];refine wpList_nil ?_;rename_i K9 hK9;refine hK9 _ _ ?_;apply wp_ret;refine bodyPost_ret (v:=.agg #[.slice D.k.A D.k.n D.k.c,.slice D.d.A D.d.n D.d.c,.slice D.R D.rn D.rc]) (by simp [results,Try.results16,go_sem,z0,z1,z2]) rfl ?_;exact HFI.out) | fail)
   have htl:t < C.k.n:=HTT.out (by omega)
   have htl1:t + 1 ≤ C.k.n:=htl
   have htd1:t + 1 ≤ C.d.n:=by have h:=HDN.out;omega
   have b1:(t:Int) < (C.k.n:Int):=by omega
   have b2:(t:Int) ≤ (C.k.n:Int):=by omega
   have b3:(t:Int) ≤ (ck:Int):=by omega
   have b4:(t:Int) + 1 ≤ (C.k.n:Int):=by omega
   have b5:(0:Int) ≤ (t:Int) + 1:=by omega
   have d1:(t:Int) < (C.d.n:Int):=by omega
   have d2:(t:Int) ≤ (C.d.n:Int):=by omega
   have d3:(t:Int) ≤ (cd:Int):=by omega
   have d4:(t:Int) + 1 ≤ (C.d.n:Int):=by omega
   have hwn:IntKind.i64.wrap ((t:Int) + 1) = (t:Int) + 1:=IntWalk.i64_in _ (by omega)
   have hd5:=HD5.out
   obtain ⟨ad9,y,hA9,_,hy9,g0⟩:=(show RdI w4 w4.heap.size (some ak) C.k.l from HM.out.k.rd).at_ (k:=t) (by rw [HKL.out];exact htl)
   injection hA9 with hA9
   subst hA9
   clear hy9
   go_upto_region 20 with fail
   clear g0
   clear c0 c1 c2 x0 x1 x2
   refine wp_region_U (fun V=>Below w3.heap.size w3 V) (fun V=>V.cell? ⟨p,0,none⟩ = some (.slice (some ak) C.k.n ck)) 10 (by kernel_rfl) ?_
   change anyU _ _ _ _ _ _ _ 13 _ _ _
   have HSD:=Lib.hid (HSL.out.below (below_dr w4))
   generalize w4.drew = wd at HSD ⊢
   have hA0:=HSD.out.bel
   have hB0:=HSD.out.box.cell (j:=0) rfl
   obtain ⟨AX,hAX⟩:∃ q,(if ck = t + 1 then some ak else some ⟨ak.block,ak.off + (t + 1),none⟩) = q:=⟨_,rfl⟩
   have HAX:=Lib.hid hAX
   (refine uA 0 ?_ rfl hA0 hB0 (fun W hA=>?_) ?_;rotate_left;(· (go_simp;try with_reducible rfl));(try simp only [Act.put,List.setIfInBounds_toArray,List.set_cons_zero,List.set_cons_succ]))
   (refine uBT 1 ?_ rfl hA0 hB0 (fun W hA hB=>?_) ?_;rotate_left;(· (have b0:=hB;go_simp;try with_reducible rfl));(try simp only [Act.put,List.setIfInBounds_toArray,List.set_cons_zero,List.set_cons_succ]))
   (refine uA 2 ?_ rfl hA0 hB0 (fun W hA=>?_) ?_;rotate_left;(· (go_simp;try with_reducible rfl));refine uA 3 ?_ rfl hA0 hB0 (fun W hA=>?_) ?_;rotate_left;(· (go_simp;try with_reducible rfl));(try simp only [Act.put,List.setIfInBounds_toArray,List.set_cons_zero,List.set_cons_succ]))
   (refine uA 4 ?_ rfl hA0 hB0 (fun W hA=>?_) ?_;rotate_left;(· (go_simp;try with_reducible rfl));(try simp only [Act.put,List.setIfInBounds_toArray,List.set_cons_zero,List.set_cons_succ]))
   (refine uA 5 ?_ rfl hA0 hB0 (fun W hA=>?_) ?_;rotate_left;(· (go_simp;try with_reducible rfl));(try simp only [Act.put,List.setIfInBounds_toArray,List.set_cons_zero,List.set_cons_succ]))
   (refine uBT 6 ?_ rfl hA0 hB0 (fun W hA hB=>?_) ?_;rotate_left;(· (have b0:=hB;go_simp;try with_reducible rfl));(try simp only [Act.put,List.setIfInBounds_toArray,List.set_cons_zero,List.set_cons_succ]))
   (refine uA 7 ?_ rfl hA0 hB0 (fun W hA=>?_) ?_;rotate_left;(· (go_simp;try with_reducible rfl));refine uA 8 ?_ rfl hA0 hB0 (fun W hA=>?_) ?_;rotate_left;(· (go_simp;try with_reducible rfl));(try simp only [Act.put,List.setIfInBounds_toArray,List.set_cons_zero,List.set_cons_succ]))
   refine uA 9 (.slice AX (C.k.n - (t + 1)) (ck - (t + 1))) rfl hA0 hB0 (fun W hA=>?_) ?_
   ·go_simp
    first | done | (rw [hAX];done) | rfl
   (try simp only [Act.put,List.setIfInBounds_toArray,List.set_cons_zero,List.set_cons_succ])
   clear hAX
   have HPP:=Lib.hid (rdV_partsI HKL.out (j:=t + 1) htl1 HSD.out.k1.1 HSD.out.r1 t HAX.out)
   have hbl:=HSD.out.b1
   have hbs:=HSD.out.bel.size
   refine uOne (i:=10) rfl (by kernel_rfl) (fun K hK=>?_)
   refine step_cut wd rfl (.tmp 132) (.tmp 137) 29 (by rfl) w3.heap.size 3 (.int .i64 0) 1 8 Try.underlying29 int_info (by rfl) (by decide) ak hbl t (iv (C.k.l.take t)) (by rw [iv_length,List.length_take,HKL.out,Nat.min_eq_left (by omega)];omega) HPP.out.1 (by rfl) AX (C.k.n - (t + 1)) (ck - (t + 1)) (iv (C.k.l.drop (t + 1))) HPP.out.2.2 (by rfl) HPP.out.2.1 (by omega) (by omega) hbs ?_
   intro A' c' w' i1 i2 i3 i4 i5 i6 i7
   rw [← iv_append] at i4
   have HSW:=Lib.hid (HSD.out.below i7)
   have HS2:=Lib.hid (HSW.out.put0 (l:=C.k.l.take t ++ C.k.l.drop (t + 1)) (by rw [List.length_append,List.length_take,List.length_drop,HKL.out];omega) i4 ⟨i1,i2⟩ i3)
   have hA2:=HSW.out.bel
   have e9:=HSW.out.box.cell (j:=0) rfl
   have f9:=HSW.out.box.free 0
   have l9:=HSW.out.box.lt
   clear i1 i2 i3 i4 i5 i6 i7 hbl hbs hA0 hB0 HPP HAX
   (refine hK _ _ ⟨hA2,fun h=>absurd (h.symm.trans (by kernel_rfl:_ = true)) Bool.false_ne_true⟩ ?_;clear hK K;(try simp only [Act.put,List.setIfInBounds_toArray,List.set_cons_zero,List.set_cons_succ]))
   refine uOne (i:=11) rfl (by kernel_rfl) (fun K hK=>?_)
   go_simp
   (refine hK _ _ ⟨hA2,fun h=>absurd (h.symm.trans (by kernel_rfl:_ = true)) Bool.false_ne_true⟩ ?_;clear hK K;(try simp only [Act.put,List.setIfInBounds_toArray,List.set_cons_zero,List.set_cons_succ]))
   refine uOne (i:=12) rfl (by kernel_rfl) (fun K hK=>?_)
   go_simp
   have hA3:=HS2.out.bel
   (refine hK _ _ ⟨hA3,fun h=>absurd (h.symm.trans (by kernel_rfl:_ = true)) Bool.false_ne_true⟩ ?_;clear hK K;(try simp only [Act.put,List.setIfInBounds_toArray,List.set_cons_zero,List.set_cons_succ]))
   refine anyU_done (by kernel_rfl) ?_ _
   clear hA2 hA3 e9 f9 l9 HSW HSD
   generalize w'.setCell ⟨p,0,none⟩ (.slice (some A') (t + (C.k.n - (t + 1))) c') = w5 at HS2 ⊢
   have HS5:=Lib.hid HS2.out
   clear HS2
   obtain ⟨kA,hkA⟩:∃ q,A' = q:=⟨_,rfl⟩
   obtain ⟨kc9,hkc⟩:∃ q,c' = q:=⟨_,rfl⟩
   rw [hkA,hkc] at HS5
   clear hkA hkc
   obtain ⟨kn9,hkn9⟩:∃ q,t + (C.k.n - (t + 1)) = q:=⟨_,rfl⟩
   rw [hkn9] at HS5
   have hkn8:kn9 + 1 = C.k.n:=by omega
   clear hkn9
   obtain ⟨c0,c1,c2⟩:=Blk.c3 HS5.out.box
   obtain ⟨x0,x1,x2⟩:=HKX.out w5 HS5.out.bel
   go_upto_region 21 with fail
   clear c0 c1 c2 x0 x1 x2
   refine wp_region_U (fun V=>Below w3.heap.size w3 V) (fun V=>V.cell? ⟨p,1,none⟩ = some (.slice (some ad) C.d.n cd)) 10 (by kernel_rfl) ?_
   change anyU _ _ _ _ _ _ _ 13 _ _ _
   have HSD:=Lib.hid (HS5.out.below (below_dr w5))
   generalize w5.drew = wd at HSD ⊢
   have hA0:=HSD.out.bel
   have hB0:=HSD.out.box.cell (j:=1) rfl
   obtain ⟨AX,hAX⟩:∃ q,(if cd = t + 1 then some ad else some ⟨ad.block,ad.off + (t + 1),none⟩) = q:=⟨_,rfl⟩
   have HAX:=Lib.hid hAX
   (refine uA 0 ?_ rfl hA0 hB0 (fun W hA=>?_) ?_;rotate_left;(· (go_simp;try with_reducible rfl));(try simp only [Act.put,List.setIfInBounds_toArray,List.set_cons_zero,List.set_cons_succ]))
   (refine uBT 1 ?_ rfl hA0 hB0 (fun W hA hB=>?_) ?_;rotate_left;(· (have b0:=hB;go_simp;try with_reducible rfl));(try simp only [Act.put,List.setIfInBounds_toArray,List.set_cons_zero,List.set_cons_succ]))
   (refine uA 2 ?_ rfl hA0 hB0 (fun W hA=>?_) ?_;rotate_left;(· (go_simp;try with_reducible rfl));refine uA 3 ?_ rfl hA0 hB0 (fun W hA=>?_) ?_;rotate_left;(· (go_simp;try with_reducible rfl));(try simp only [Act.put,List.setIfInBounds_toArray,List.set_cons_zero,List.set_cons_succ]))
   (refine uA 4 ?_ rfl hA0 hB0 (fun W hA=>?_) ?_;rotate_left;(· (go_simp;try with_reducible rfl));(try simp only [Act.put,List.setIfInBounds_toArray,List.set_cons_zero,List.set_cons_succ]))
   (refine uA 5 ?_ rfl hA0 hB0 (fun W hA=>?_) ?_;rotate_left;(· (go_simp;try with_reducible rfl));(try simp only [Act.put,List.setIfInBounds_toArray,List.set_cons_zero,List.set_cons_succ]))
   (refine uBT 6 ?_ rfl hA0 hB0 (fun W hA hB=>?_) ?_;rotate_left;(· (have b0:=hB;go_simp;try with_reducible rfl));(try simp only [Act.put,List.setIfInBounds_toArray,List.set_cons_zero,List.set_cons_succ]))
   (refine uA 7 ?_ rfl hA0 hB0 (fun W hA=>?_) ?_;rotate_left;(· (go_simp;try with_reducible rfl));refine uA 8 ?_ rfl hA0 hB0 (fun W hA=>?_) ?_;rotate_left;(· (go_simp;try with_reducible rfl));(try simp only [Act.put,List.setIfInBounds_toArray,List.set_cons_zero,List.set_cons_succ]))
   refine uA 9 (.slice AX (C.d.n - (t + 1)) (cd - (t + 1))) rfl hA0 hB0 (fun W hA=>?_) ?_
   ·go_simp
    first | done | (rw [hAX];done) | rfl
   (try simp only [Act.put,List.setIfInBounds_toArray,List.set_cons_zero,List.set_cons_succ])
   clear hAX
   have HPP:=Lib.hid (rdV_partsI HDL.out (j:=t + 1) htd1 HSD.out.k2.1 HSD.out.r2 t HAX.out)
   have hbl:=HSD.out.b2
   have hbs:=HSD.out.bel.size
   refine uOne (i:=10) rfl (by kernel_rfl) (fun K hK=>?_)
   refine step_cut wd rfl (.tmp 144) (.tmp 149) 29 (by rfl) w3.heap.size 3 (.int .i64 0) 1 8 Try.underlying29 int_info (by rfl) (by decide) ad hbl t (iv (C.d.l.take t)) (by rw [iv_length,List.length_take,HDL.out,Nat.min_eq_left (by omega)];omega) HPP.out.1 (by rfl) AX (C.d.n - (t + 1)) (cd - (t + 1)) (iv (C.d.l.drop (t + 1))) HPP.out.2.2 (by rfl) HPP.out.2.1 (by omega) (by omega) hbs ?_
   intro A' c' w' i1 i2 i3 i4 i5 i6 i7
   rw [← iv_append] at i4
   have HSW:=Lib.hid (HSD.out.below i7)
   have HS2:=Lib.hid (HSW.out.put1 (l:=C.d.l.take t ++ C.d.l.drop (t + 1)) (by rw [List.length_append,List.length_take,List.length_drop,HDL.out];omega) i4 ⟨i1,i2⟩ i3)
   have hA2:=HSW.out.bel
   have e9:=HSW.out.box.cell (j:=1) rfl
   have f9:=HSW.out.box.free 1
   have l9:=HSW.out.box.lt
   clear i1 i2 i3 i4 i5 i6 i7 hbl hbs hA0 hB0 HPP HAX
   (refine hK _ _ ⟨hA2,fun h=>absurd (h.symm.trans (by kernel_rfl:_ = true)) Bool.false_ne_true⟩ ?_;clear hK K;(try simp only [Act.put,List.setIfInBounds_toArray,List.set_cons_zero,List.set_cons_succ]))
   refine uOne (i:=11) rfl (by kernel_rfl) (fun K hK=>?_)
   go_simp
   (refine hK _ _ ⟨hA2,fun h=>absurd (h.symm.trans (by kernel_rfl:_ = true)) Bool.false_ne_true⟩ ?_;clear hK K;(try simp only [Act.put,List.setIfInBounds_toArray,List.set_cons_zero,List.set_cons_succ]))
   refine uOne (i:=12) rfl (by kernel_rfl) (fun K hK=>?_)
   go_simp
   have hA3:=HS2.out.bel
   (refine hK _ _ ⟨hA3,fun h=>absurd (h.symm.trans (by kernel_rfl:_ = true)) Bool.false_ne_true⟩ ?_;clear hK K;(try simp only [Act.put,List.setIfInBounds_toArray,List.set_cons_zero,List.set_cons_succ]))
   refine anyU_done (by kernel_rfl) ?_ _
   clear hA2 hA3 e9 f9 l9 HSW HSD
   generalize w'.setCell ⟨p,1,none⟩ (.slice (some A') (t + (C.d.n - (t + 1))) c') = w6 at HS2 ⊢
   have HS6:=Lib.hid HS2.out
   clear HS2
   obtain ⟨dA,hdA⟩:∃ q,A' = q:=⟨_,rfl⟩
   obtain ⟨dc9,hdc⟩:∃ q,c' = q:=⟨_,rfl⟩
   rw [hdA,hdc] at HS6
   clear hdA hdc
   have hdn8:t + (C.d.n - (t + 1)) = kn9:=by have h:=HDN.out;omega
   rw [hdn8] at HS6
   clear hdn8 hwn b1 b2 b3 b4 b5 d1 d2 d3 d4
   obtain ⟨c0,c1,c2⟩:=Blk.c3 HS6.out.box
   obtain ⟨x0,x1,x2⟩:=HKX.out w6 HS6.out.bel
   have hcrb:=HS6.out.k3
   go_wp2
   go_loopw [10] (fun s10 wr=>∃ k:Nat,s10 = .int .i64 k∧k ≤ C.rn∧wr = w6) (fun s10 _=>C.rn - (intOf s10).toNat)
   case atStart=>exact ⟨0,rfl,Nat.zero_le _,by first | rfl | trivial⟩
   case round =>
    obtain ⟨k,rfl,hk,hw⟩:=hrel
    subst hw
    obtain ⟨w7,rfl⟩:∃ q,q = wr:=⟨_,rfl⟩
    by_cases hlt:(k:Int) < (C.rn:Int)
    case pos =>
     obtain ⟨ad9,z,hA9,hz9,g0,g1,g2,g3⟩:=rm_reads (rdR_of_rdV (sz:=4) (fun _=>rfl) (by decide) HS6.out.r3) (j:=k) (by rw [HS6.out.e3];omega)
     injection hA9 with hA9
     subst hA9
     clear hz9
     by_cases hzy:z.s < y
     case pos =>
      go_wp2
      go_roundw
      case rel=>exact ⟨k + 1,by go_num,by omega,by first | rfl | trivial⟩
      case measure=>simp [intOf];omega
     have hzd:decide (z.s < y) = false:=by simpa using hzy
     have HEN:=Lib.hid (show SpE w3 C.k.n C.rn p w7 from HS6.out.fin (by omega) (Nat.le_succ _))
     go_upto_region 29 with fail
     clear c0 c1 c2 x0 x1 x2
     obtain ⟨D,w6,hw6,⟨c0,c1,c2⟩,hth,⟨z0,z1,z2⟩,hfi⟩:=spE_end HEN.out (HKO.out w7 HEN.out.bel) (HB.out w7 HEN.out.bel)
     have HW6:=Lib.hid hw6
     have HTH:=Lib.hid hth
     have HFI:=Lib.hid hfi
     clear hw6 hth hfi
     go_wp2_with (first | (have hth:=HTH.out;refine wpList_store_mid rfl 38 (.tmp 4) (.tmp 214) rfl (w.heap.size + 1 + 1) 0 #[.slice D.k.A D.k.n D.k.c,.slice D.d.A D.d.n D.d.c,.slice D.R D.rn D.rc] rfl rfl hth cert_size (by simp [Value.oneCell']) ?_;rw [HW6.out];refine wpList_nil ?_;rename_i K9 hK9;refine hK9 _ _ ?_;apply wp_ret;refine bodyPost_ret (v:=.agg #[.slice D.k.A D.k.n D.k.c,.slice D.d.A D.d.n D.d.c,.slice D.R D.rn D.rc]) (by simp [results,Try.results16,go_sem,z0,z1,z2]) rfl ?_;exact HFI.out) | fail)
    have hld:decide ((k:Int) < (C.rn:Int)) = false:=by simpa using hlt
    have HEN:=Lib.hid (show SpE w3 C.k.n C.rn p w7 from HS6.out.fin (by omega) (Nat.le_succ _))
    go_upto_region 29 with fail
    clear c0 c1 c2 x0 x1 x2
    obtain ⟨D,w6,hw6,⟨c0,c1,c2⟩,hth,⟨z0,z1,z2⟩,hfi⟩:=spE_end HEN.out (HKO.out w7 HEN.out.bel) (HB.out w7 HEN.out.bel)
    have HW6:=Lib.hid hw6
    have HTH:=Lib.hid hth
    have HFI:=Lib.hid hfi
    clear hw6 hth hfi
    go_wp2_with (first | (have hth:=HTH.out;refine wpList_store_mid rfl 38 (.tmp 4) (.tmp 214) rfl (w.heap.size + 1 + 1) 0 #[.slice D.k.A D.k.n D.k.c,.slice D.d.A D.d.n D.d.c,.slice D.R D.rn D.rc] rfl rfl hth cert_size (by simp [Value.oneCell']) ?_;rw [HW6.out];refine wpList_nil ?_;rename_i K9 hK9;refine hK9 _ _ ?_;apply wp_ret;refine bodyPost_ret (v:=.agg #[.slice D.k.A D.k.n D.k.c,.slice D.d.A D.d.n D.d.c,.slice D.R D.rn D.rc]) (by simp [results,Try.results16,go_sem,z0,z1,z2]) rfl ?_;exact HFI.out) | fail)
  ·as_aux_lemma =>
   by_cases hr:(C.rn:Int) > 0
   case neg =>
    have hrd:decide ((C.rn:Int) > 0) = false:=by simpa using hr
    go_upto_region 29 with fail
    clear c0 c1 c2 x0 x1 x2
    obtain ⟨D,w6,hw6,⟨c0,c1,c2⟩,hth,⟨z0,z1,z2⟩,hfi⟩:=spE_end HNOP.out (HKO.out w4 HNOP.out.bel) (HB.out w4 HNOP.out.bel)
    have HW6:=Lib.hid hw6
    have HTH:=Lib.hid hth
    have HFI:=Lib.hid hfi
    clear hw6 hth hfi
    go_wp2_with (first | (have hth:=HTH.out;refine wpList_store_mid rfl 38 (.tmp 4) (.tmp 214) rfl (w.heap.size + 1 + 1) 0 #[.slice D.k.A D.k.n D.k.c,.slice D.d.A D.d.n D.d.c,.slice D.R D.rn D.rc] rfl rfl hth cert_size (by simp [Value.oneCell']) ?_;rw [HW6.out];refine wpList_nil ?_;rename_i K9 hK9;refine hK9 _ _ ?_;apply wp_ret;refine bodyPost_ret (v:=.agg #[.slice D.k.A D.k.n D.k.c,.slice D.d.A D.d.n D.d.c,.slice D.R D.rn D.rc]) (by simp [results,Try.results16,go_sem,z0,z1,z2]) rfl ?_;exact HFI.out) | fail)
   have hrl:r < C.rn:=HRR.out (by omega)
   have hrl1:r + 1 ≤ C.rn:=hrl
   have b1:(r:Int) < (C.rn:Int):=by omega
   have b2:(r:Int) ≤ (C.rn:Int):=by omega
   have b3:(r:Int) ≤ (cr:Int):=by omega
   have b4:(r:Int) + 1 ≤ (C.rn:Int):=by omega
   have b5:(0:Int) ≤ (r:Int) + 1:=by omega
   have hwn:IntKind.i64.wrap ((r:Int) + 1) = (r:Int) + 1:=IntWalk.i64_in _ (by omega)
   go_upto_region 28 with fail
   clear c0 c1 c2 x0 x1 x2
   refine wp_region_U (fun V=>Below w3.heap.size w3 V) (fun V=>V.cell? ⟨p,2,none⟩ = some (.slice (some ar) C.rn cr)) 10 (by kernel_rfl) ?_
   change anyU _ _ _ _ _ _ _ 13 _ _ _
   have HSD:=Lib.hid (HSL.out.below (below_dr w4))
   generalize w4.drew = wd at HSD ⊢
   have hA0:=HSD.out.bel
   have hB0:=HSD.out.box.cell (j:=2) rfl
   obtain ⟨AX,hAX⟩:∃ q,(if cr = r + 1 then some ar else some (ar.add ((r + 1) * 4))) = q:=⟨_,rfl⟩
   have HAX:=Lib.hid hAX
   (refine uA 0 ?_ rfl hA0 hB0 (fun W hA=>?_) ?_;rotate_left;(· (go_simp;try with_reducible rfl));(try simp only [Act.put,List.setIfInBounds_toArray,List.set_cons_zero,List.set_cons_succ]))
   (refine uBT 1 ?_ rfl hA0 hB0 (fun W hA hB=>?_) ?_;rotate_left;(· (have b0:=hB;go_simp;try with_reducible rfl));(try simp only [Act.put,List.setIfInBounds_toArray,List.set_cons_zero,List.set_cons_succ]))
   (refine uA 2 ?_ rfl hA0 hB0 (fun W hA=>?_) ?_;rotate_left;(· (go_simp;try with_reducible rfl));refine uA 3 ?_ rfl hA0 hB0 (fun W hA=>?_) ?_;rotate_left;(· (go_simp;try with_reducible rfl));(try simp only [Act.put,List.setIfInBounds_toArray,List.set_cons_zero,List.set_cons_succ]))
   (refine uA 4 ?_ rfl hA0 hB0 (fun W hA=>?_) ?_;rotate_left;(· (go_simp;try with_reducible rfl));(try simp only [Act.put,List.setIfInBounds_toArray,List.set_cons_zero,List.set_cons_succ]))
   (refine uA 5 ?_ rfl hA0 hB0 (fun W hA=>?_) ?_;rotate_left;(· (go_simp;try with_reducible rfl));(try simp only [Act.put,List.setIfInBounds_toArray,List.set_cons_zero,List.set_cons_succ]))
   (refine uBT 6 ?_ rfl hA0 hB0 (fun W hA hB=>?_) ?_;rotate_left;(· (have b0:=hB;go_simp;try with_reducible rfl));(try simp only [Act.put,List.setIfInBounds_toArray,List.set_cons_zero,List.set_cons_succ]))
   (refine uA 7 ?_ rfl hA0 hB0 (fun W hA=>?_) ?_;rotate_left;(· (go_simp;try with_reducible rfl));refine uA 8 ?_ rfl hA0 hB0 (fun W hA=>?_) ?_;rotate_left;(· (go_simp;try with_reducible rfl));(try simp only [Act.put,List.setIfInBounds_toArray,List.set_cons_zero,List.set_cons_succ]))
   refine uA 9 (.slice AX (C.rn - (r + 1)) (cr - (r + 1))) rfl hA0 hB0 (fun W hA=>?_) ?_
   ·go_simp
    first | done | (rw [hAX];done) | rfl
   (try simp only [Act.put,List.setIfInBounds_toArray,List.set_cons_zero,List.set_cons_succ])
   clear hAX
   have HPP:=Lib.hid (rdV_parts (f:=rmc) (sz:=4) (fun _=>rfl) HRL.out (j:=r + 1) hrl1 HSD.out.k3.1 HSD.out.r3 r ((r + 1) * 4) rfl HAX.out)
   have hbl:=HSD.out.b3
   have hbs:=HSD.out.bel.size
   refine uOne (i:=10) rfl (by kernel_rfl) (fun K hK=>?_)
   refine step_cut wd rfl (.tmp 206) (.tmp 211) 36 (by rfl) w3.heap.size 63 (.agg #[.int .i64 0,.int .i64 0,.int .i64 0,.int .i64 0]) 4 32 Try.underlying36 rm_info (by rfl) (by decide) ar hbl r ((C.rm.take r).flatMap rmc) (by rw [flat_len rmc 4 _ (fun _ _=>rfl),List.length_take,HRL.out,Nat.min_eq_left (by omega)]) HPP.out.1 (by rfl) AX (C.rn - (r + 1)) (cr - (r + 1)) ((C.rm.drop (r + 1)).flatMap rmc) HPP.out.2.2 (by rfl) HPP.out.2.1 (by omega) (by omega) hbs ?_
   intro A' c' w' i1 i2 i3 i4 i5 i6 i7
   rw [← List.flatMap_append] at i4
   have HSW:=Lib.hid (HSD.out.below i7)
   have HS2:=Lib.hid (HSW.out.put2 (l:=C.rm.take r ++ C.rm.drop (r + 1)) (by rw [List.length_append,List.length_take,List.length_drop,HRL.out];omega) i4 ⟨i1,i2⟩ i3)
   have hA2:=HSW.out.bel
   have e9:=HSW.out.box.cell (j:=2) rfl
   have f9:=HSW.out.box.free 2
   have l9:=HSW.out.box.lt
   clear i1 i2 i3 i4 i5 i6 i7 hbl hbs hA0 hB0 HPP HAX
   (refine hK _ _ ⟨hA2,fun h=>absurd (h.symm.trans (by kernel_rfl:_ = true)) Bool.false_ne_true⟩ ?_;clear hK K;(try simp only [Act.put,List.setIfInBounds_toArray,List.set_cons_zero,List.set_cons_succ]))
   refine uOne (i:=11) rfl (by kernel_rfl) (fun K hK=>?_)
   go_simp
   (refine hK _ _ ⟨hA2,fun h=>absurd (h.symm.trans (by kernel_rfl:_ = true)) Bool.false_ne_true⟩ ?_;clear hK K;(try simp only [Act.put,List.setIfInBounds_toArray,List.set_cons_zero,List.set_cons_succ]))
   refine uOne (i:=12) rfl (by kernel_rfl) (fun K hK=>?_)
   go_simp
   have hA3:=HS2.out.bel
   (refine hK _ _ ⟨hA3,fun h=>absurd (h.symm.trans (by kernel_rfl:_ = true)) Bool.false_ne_true⟩ ?_;clear hK K;(try simp only [Act.put,List.setIfInBounds_toArray,List.set_cons_zero,List.set_cons_succ]))
   refine anyU_done (by kernel_rfl) ?_ _
   clear hA2 hA3 e9 f9 l9 HSW HSD
   generalize w'.setCell ⟨p,2,none⟩ (.slice (some A') (r + (C.rn - (r + 1))) c') = w5 at HS2 ⊢
   have HEN:=Lib.hid (show SpE w3 C.k.n C.rn p w5 from by
    have h9:=HS2.out
    rw [HDN.out] at h9
    exact h9.fin (Nat.le_refl _) (by omega))
   clear HS2
   go_upto_region 29 with fail
   obtain ⟨D,w6,hw6,⟨c0,c1,c2⟩,hth,⟨z0,z1,z2⟩,hfi⟩:=spE_end HEN.out (HKO.out w5 HEN.out.bel) (HB.out w5 HEN.out.bel)
   have HW6:=Lib.hid hw6
   have HTH:=Lib.hid hth
   have HFI:=Lib.hid hfi
   clear hw6 hth hfi
   go_wp2_with (first | (have hth:=HTH.out;refine wpList_store_mid rfl 38 (.tmp 4) (.tmp 214) rfl (w.heap.size + 1 + 1) 0 #[.slice D.k.A D.k.n D.k.c,.slice D.d.A D.d.n D.d.c,.slice D.R D.rn D.rc] rfl rfl hth cert_size (by simp [Value.oneCell']) ?_;rw [HW6.out];refine wpList_nil ?_;rename_i K9 hK9;refine hK9 _ _ ?_;apply wp_ret;refine bodyPost_ret (v:=.agg #[.slice D.k.A D.k.n D.k.c,.slice D.d.A D.d.n D.d.c,.slice D.R D.rn D.rc]) (by simp [results,Try.results16,go_sem,z0,z1,z2]) rfl ?_;exact HFI.out) | fail)
  ·as_aux_lemma =>
   by_cases hr:(C.k.n:Int) > 0
   case neg =>
    have hrd:decide ((C.k.n:Int) > 0) = false:=by simpa using hr
    go_upto_region 29 with fail
    clear c0 c1 c2 x0 x1 x2
    obtain ⟨D,w6,hw6,⟨c0,c1,c2⟩,hth,⟨z0,z1,z2⟩,hfi⟩:=spE_end HNOP.out (HKO.out w4 HNOP.out.bel) (HB.out w4 HNOP.out.bel)
    have HW6:=Lib.hid hw6
    have HTH:=Lib.hid hth
    have HFI:=Lib.hid hfi
    clear hw6 hth hfi
    go_wp2_with (first | (have hth:=HTH.out;refine wpList_store_mid rfl 38 (.tmp 4) (.tmp 214) rfl (w.heap.size + 1 + 1) 0 #[.slice D.k.A D.k.n D.k.c,.slice D.d.A D.d.n D.d.c,.slice D.R D.rn D.rc] rfl rfl hth cert_size (by simp [Value.oneCell']) ?_;rw [HW6.out];refine wpList_nil ?_;rename_i K9 hK9;refine hK9 _ _ ?_;apply wp_ret;refine bodyPost_ret (v:=.agg #[.slice D.k.A D.k.n D.k.c,.slice D.d.A D.d.n D.d.c,.slice D.R D.rn D.rc]) (by simp [results,Try.results16,go_sem,z0,z1,z2]) rfl ?_;exact HFI.out) | fail)
   have htl:t < C.k.n:=HTT.out (by omega)
   have htl1:t + 1 ≤ C.k.n:=htl
   have htd1:t + 1 ≤ C.d.n:=by have h:=HDN.out;omega
   have b1:(t:Int) < (C.k.n:Int):=by omega
   have b2:(t:Int) ≤ (C.k.n:Int):=by omega
   have b3:(t:Int) ≤ (ck:Int):=by omega
   have b4:(t:Int) + 1 ≤ (C.k.n:Int):=by omega
   have b5:(0:Int) ≤ (t:Int) + 1:=by omega
   have d1:(t:Int) < (C.d.n:Int):=by omega
   have d2:(t:Int) ≤ (C.d.n:Int):=by omega
   have d3:(t:Int) ≤ (cd:Int):=by omega
   have d4:(t:Int) + 1 ≤ (C.d.n:Int):=by omega
   have hwn:IntKind.i64.wrap ((t:Int) + 1) = (t:Int) + 1:=IntWalk.i64_in _ (by omega)
   have hd5:=HD5.out
   obtain ⟨ad9,y,hA9,_,hy9,g0⟩:=(show RdI w4 w4.heap.size (some ak) C.k.l from HM.out.k.rd).at_ (k:=t) (by rw [HKL.out];exact htl)
   injection hA9 with hA9
   subst hA9
   clear hy9
   go_upto_region 20 with fail
   clear g0
   clear c0 c1 c2 x0 x1 x2
   refine wp_region_U (fun V=>Below w3.heap.size w3 V) (fun V=>V.cell? ⟨p,0,none⟩ = some (.slice (some ak) C.k.n ck)) 10 (by kernel_rfl) ?_
   change anyU _ _ _ _ _ _ _ 13 _ _ _
   have HSD:=Lib.hid (HSL.out.below (below_dr w4))
   generalize w4.drew = wd at HSD ⊢
   have hA0:=HSD.out.bel
   have hB0:=HSD.out.box.cell (j:=0) rfl
   obtain ⟨AX,hAX⟩:∃ q,(if ck = t + 1 then some ak else some ⟨ak.block,ak.off + (t + 1),none⟩) = q:=⟨_,rfl⟩
   have HAX:=Lib.hid hAX
   (refine uA 0 ?_ rfl hA0 hB0 (fun W hA=>?_) ?_;rotate_left;(· (go_simp;try with_reducible rfl));(try simp only [Act.put,List.setIfInBounds_toArray,List.set_cons_zero,List.set_cons_succ]))
   (refine uBT 1 ?_ rfl hA0 hB0 (fun W hA hB=>?_) ?_;rotate_left;(· (have b0:=hB;go_simp;try with_reducible rfl));(try simp only [Act.put,List.setIfInBounds_toArray,List.set_cons_zero,List.set_cons_succ]))
   (refine uA 2 ?_ rfl hA0 hB0 (fun W hA=>?_) ?_;rotate_left;(· (go_simp;try with_reducible rfl));refine uA 3 ?_ rfl hA0 hB0 (fun W hA=>?_) ?_;rotate_left;(· (go_simp;try with_reducible rfl));(try simp only [Act.put,List.setIfInBounds_toArray,List.set_cons_zero,List.set_cons_succ]))
   (refine uA 4 ?_ rfl hA0 hB0 (fun W hA=>?_) ?_;rotate_left;(· (go_simp;try with_reducible rfl));(try simp only [Act.put,List.setIfInBounds_toArray,List.set_cons_zero,List.set_cons_succ]))
   (refine uA 5 ?_ rfl hA0 hB0 (fun W hA=>?_) ?_;rotate_left;(· (go_simp;try with_reducible rfl));(try simp only [Act.put,List.setIfInBounds_toArray,List.set_cons_zero,List.set_cons_succ]))
   (refine uBT 6 ?_ rfl hA0 hB0 (fun W hA hB=>?_) ?_;rotate_left;(· (have b0:=hB;go_simp;try with_reducible rfl));(try simp only [Act.put,List.setIfInBounds_toArray,List.set_cons_zero,List.set_cons_succ]))
   (refine uA 7 ?_ rfl hA0 hB0 (fun W hA=>?_) ?_;rotate_left;(· (go_simp;try with_reducible rfl));refine uA 8 ?_ rfl hA0 hB0 (fun W hA=>?_) ?_;rotate_left;(· (go_simp;try with_reducible rfl));(try simp only [Act.put,List.setIfInBounds_toArray,List.set_cons_zero,List.set_cons_succ]))
   refine uA 9 (.slice AX (C.k.n - (t + 1)) (ck - (t + 1))) rfl hA0 hB0 (fun W hA=>?_) ?_
   ·go_simp
    first | done | (rw [hAX];done) | rfl
   (try simp only [Act.put,List.setIfInBounds_toArray,List.set_cons_zero,List.set_cons_succ])
   clear hAX
   have HPP:=Lib.hid (rdV_partsI HKL.out (j:=t + 1) htl1 HSD.out.k1.1 HSD.out.r1 t HAX.out)
   have hbl:=HSD.out.b1
   have hbs:=HSD.out.bel.size
   refine uOne (i:=10) rfl (by kernel_rfl) (fun K hK=>?_)
   refine step_cut wd rfl (.tmp 132) (.tmp 137) 29 (by rfl) w3.heap.size 3 (.int .i64 0) 1 8 Try.underlying29 int_info (by rfl) (by decide) ak hbl t (iv (C.k.l.take t)) (by rw [iv_length,List.length_take,HKL.out,Nat.min_eq_left (by omega)];omega) HPP.out.1 (by rfl) AX (C.k.n - (t + 1)) (ck - (t + 1)) (iv (C.k.l.drop (t + 1))) HPP.out.2.2 (by rfl) HPP.out.2.1 (by omega) (by omega) hbs ?_
   intro A' c' w' i1 i2 i3 i4 i5 i6 i7
   rw [← iv_append] at i4
   have HSW:=Lib.hid (HSD.out.below i7)
   have HS2:=Lib.hid (HSW.out.put0 (l:=C.k.l.take t ++ C.k.l.drop (t + 1)) (by rw [List.length_append,List.length_take,List.length_drop,HKL.out];omega) i4 ⟨i1,i2⟩ i3)
   have hA2:=HSW.out.bel
   have e9:=HSW.out.box.cell (j:=0) rfl
   have f9:=HSW.out.box.free 0
   have l9:=HSW.out.box.lt
   clear i1 i2 i3 i4 i5 i6 i7 hbl hbs hA0 hB0 HPP HAX
   (refine hK _ _ ⟨hA2,fun h=>absurd (h.symm.trans (by kernel_rfl:_ = true)) Bool.false_ne_true⟩ ?_;clear hK K;(try simp only [Act.put,List.setIfInBounds_toArray,List.set_cons_zero,List.set_cons_succ]))
   refine uOne (i:=11) rfl (by kernel_rfl) (fun K hK=>?_)
   go_simp
   (refine hK _ _ ⟨hA2,fun h=>absurd (h.symm.trans (by kernel_rfl:_ = true)) Bool.false_ne_true⟩ ?_;clear hK K;(try simp only [Act.put,List.setIfInBounds_toArray,List.set_cons_zero,List.set_cons_succ]))
   refine uOne (i:=12) rfl (by kernel_rfl) (fun K hK=>?_)
   go_simp
   have hA3:=HS2.out.bel
   (refine hK _ _ ⟨hA3,fun h=>absurd (h.symm.trans (by kernel_rfl:_ = true)) Bool.false_ne_true⟩ ?_;clear hK K;(try simp only [Act.put,List.setIfInBounds_toArray,List.set_cons_zero,List.set_cons_succ]))
   refine anyU_done (by kernel_rfl) ?_ _
   clear hA2 hA3 e9 f9 l9 HSW HSD
   generalize w'.setCell ⟨p,0,none⟩ (.slice (some A') (t + (C.k.n - (t + 1))) c') = w5 at HS2 ⊢
   have HS5:=Lib.hid HS2.out
   clear HS2
   obtain ⟨kA,hkA⟩:∃ q,A' = q:=⟨_,rfl⟩
   obtain ⟨kc9,hkc⟩:∃ q,c' = q:=⟨_,rfl⟩
   rw [hkA,hkc] at HS5
   clear hkA hkc
   obtain ⟨kn9,hkn9⟩:∃ q,t + (C.k.n - (t + 1)) = q:=⟨_,rfl⟩
   rw [hkn9] at HS5
   have hkn8:kn9 + 1 = C.k.n:=by omega
   clear hkn9
   obtain ⟨c0,c1,c2⟩:=Blk.c3 HS5.out.box
   obtain ⟨x0,x1,x2⟩:=HKX.out w5 HS5.out.bel
   go_upto_region 21 with fail
   clear c0 c1 c2 x0 x1 x2
   refine wp_region_U (fun V=>Below w3.heap.size w3 V) (fun V=>V.cell? ⟨p,1,none⟩ = some (.slice (some ad) C.d.n cd)) 10 (by kernel_rfl) ?_
   change anyU _ _ _ _ _ _ _ 13 _ _ _
   have HSD:=Lib.hid (HS5.out.below (below_dr w5))
   generalize w5.drew = wd at HSD ⊢
   have hA0:=HSD.out.bel
   have hB0:=HSD.out.box.cell (j:=1) rfl
   obtain ⟨AX,hAX⟩:∃ q,(if cd = t + 1 then some ad else some ⟨ad.block,ad.off + (t + 1),none⟩) = q:=⟨_,rfl⟩
   have HAX:=Lib.hid hAX
   (refine uA 0 ?_ rfl hA0 hB0 (fun W hA=>?_) ?_;rotate_left;(· (go_simp;try with_reducible rfl));(try simp only [Act.put,List.setIfInBounds_toArray,List.set_cons_zero,List.set_cons_succ]))
   (refine uBT 1 ?_ rfl hA0 hB0 (fun W hA hB=>?_) ?_;rotate_left;(· (have b0:=hB;go_simp;try with_reducible rfl));(try simp only [Act.put,List.setIfInBounds_toArray,List.set_cons_zero,List.set_cons_succ]))
   (refine uA 2 ?_ rfl hA0 hB0 (fun W hA=>?_) ?_;rotate_left;(· (go_simp;try with_reducible rfl));refine uA 3 ?_ rfl hA0 hB0 (fun W hA=>?_) ?_;rotate_left;(· (go_simp;try with_reducible rfl));(try simp only [Act.put,List.setIfInBounds_toArray,List.set_cons_zero,List.set_cons_succ]))
   (refine uA 4 ?_ rfl hA0 hB0 (fun W hA=>?_) ?_;rotate_left;(· (go_simp;try with_reducible rfl));(try simp only [Act.put,List.setIfInBounds_toArray,List.set_cons_zero,List.set_cons_succ]))
   (refine uA 5 ?_ rfl hA0 hB0 (fun W hA=>?_) ?_;rotate_left;(· (go_simp;try with_reducible rfl));(try simp only [Act.put,List.setIfInBounds_toArray,List.set_cons_zero,List.set_cons_succ]))
   (refine uBT 6 ?_ rfl hA0 hB0 (fun W hA hB=>?_) ?_;rotate_left;(· (have b0:=hB;go_simp;try with_reducible rfl));(try simp only [Act.put,List.setIfInBounds_toArray,List.set_cons_zero,List.set_cons_succ]))
   (refine uA 7 ?_ rfl hA0 hB0 (fun W hA=>?_) ?_;rotate_left;(· (go_simp;try with_reducible rfl));refine uA 8 ?_ rfl hA0 hB0 (fun W hA=>?_) ?_;rotate_left;(· (go_simp;try with_reducible rfl));(try simp only [Act.put,List.setIfInBounds_toArray,List.set_cons_zero,List.set_cons_succ]))
   refine uA 9 (.slice AX (C.d.n - (t + 1)) (cd - (t + 1))) rfl hA0 hB0 (fun W hA=>?_) ?_
   ·go_simp
    first | done | (rw [hAX];done) | rfl
   (try simp only [Act.put,List.setIfInBounds_toArray,List.set_cons_zero,List.set_cons_succ])
   clear hAX
   have HPP:=Lib.hid (rdV_partsI HDL.out (j:=t + 1) htd1 HSD.out.k2.1 HSD.out.r2 t HAX.out)
   have hbl:=HSD.out.b2
   have hbs:=HSD.out.bel.size
   refine uOne (i:=10) rfl (by kernel_rfl) (fun K hK=>?_)
   refine step_cut wd rfl (.tmp 144) (.tmp 149) 29 (by rfl) w3.heap.size 3 (.int .i64 0) 1 8 Try.underlying29 int_info (by rfl) (by decide) ad hbl t (iv (C.d.l.take t)) (by rw [iv_length,List.length_take,HDL.out,Nat.min_eq_left (by omega)];omega) HPP.out.1 (by rfl) AX (C.d.n - (t + 1)) (cd - (t + 1)) (iv (C.d.l.drop (t + 1))) HPP.out.2.2 (by rfl) HPP.out.2.1 (by omega) (by omega) hbs ?_
   intro A' c' w' i1 i2 i3 i4 i5 i6 i7
   rw [← iv_append] at i4
   have HSW:=Lib.hid (HSD.out.below i7)
   have HS2:=Lib.hid (HSW.out.put1 (l:=C.d.l.take t ++ C.d.l.drop (t + 1)) (by rw [List.length_append,List.length_take,List.length_drop,HDL.out];omega) i4 ⟨i1,i2⟩ i3)
   have hA2:=HSW.out.bel
   have e9:=HSW.out.box.cell (j:=1) rfl
   have f9:=HSW.out.box.free 1
   have l9:=HSW.out.box.lt
   clear i1 i2 i3 i4 i5 i6 i7 hbl hbs hA0 hB0 HPP HAX
   (refine hK _ _ ⟨hA2,fun h=>absurd (h.symm.trans (by kernel_rfl:_ = true)) Bool.false_ne_true⟩ ?_;clear hK K;(try simp only [Act.put,List.setIfInBounds_toArray,List.set_cons_zero,List.set_cons_succ]))
   refine uOne (i:=11) rfl (by kernel_rfl) (fun K hK=>?_)
   go_simp
   (refine hK _ _ ⟨hA2,fun h=>absurd (h.symm.trans (by kernel_rfl:_ = true)) Bool.false_ne_true⟩ ?_;clear hK K;(try simp only [Act.put,List.setIfInBounds_toArray,List.set_cons_zero,List.set_cons_succ]))
   refine uOne (i:=12) rfl (by kernel_rfl) (fun K hK=>?_)
   go_simp
   have hA3:=HS2.out.bel
   (refine hK _ _ ⟨hA3,fun h=>absurd (h.symm.trans (by kernel_rfl:_ = true)) Bool.false_ne_true⟩ ?_;clear hK K;(try simp only [Act.put,List.setIfInBounds_toArray,List.set_cons_zero,List.set_cons_succ]))
   refine anyU_done (by kernel_rfl) ?_ _
   clear hA2 hA3 e9 f9 l9 HSW HSD
   generalize w'.setCell ⟨p,1,none⟩ (.slice (some A') (t + (C.d.n - (t + 1))) c') = w6 at HS2 ⊢
   have HS6:=Lib.hid HS2.out
   clear HS2
   obtain ⟨dA,hdA⟩:∃ q,A' = q:=⟨_,rfl⟩
   obtain ⟨dc9,hdc⟩:∃ q,c' = q:=⟨_,rfl⟩
   rw [hdA,hdc] at HS6
   clear hdA hdc
   have hdn8:t + (C.d.n - (t + 1)) = kn9:=by have h:=HDN.out;omega
   rw [hdn8] at HS6
   clear hdn8 hwn b1 b2 b3 b4 b5 d1 d2 d3 d4
   obtain ⟨c0,c1,c2⟩:=Blk.c3 HS6.out.box
   obtain ⟨x0,x1,x2⟩:=HKX.out w6 HS6.out.bel
   have hcrb:=HS6.out.k3
   go_wp2
   go_loopw [10] (fun s10 wr=>∃ k:Nat,s10 = .int .i64 k∧k ≤ C.rn∧wr = w6) (fun s10 _=>C.rn - (intOf s10).toNat)
   case atStart=>exact ⟨0,rfl,Nat.zero_le _,by first | rfl | trivial⟩
   case round =>
    obtain ⟨k,rfl,hk,hw⟩:=hrel
    subst hw
    obtain ⟨w7,rfl⟩:∃ q,q = wr:=⟨_,rfl⟩
    by_cases hlt:(k:Int) < (C.rn:Int)
    case pos =>
     obtain ⟨ad9,z,hA9,hz9,g0,g1,g2,g3⟩:=rm_reads (rdR_of_rdV (sz:=4) (fun _=>rfl) (by decide) HS6.out.r3) (j:=k) (by rw [HS6.out.e3];omega)
     injection hA9 with hA9
     subst hA9
     clear hz9
     by_cases hzy:z.s < y
     case pos =>
      go_wp2
      go_roundw
      case rel=>exact ⟨k + 1,by go_num,by omega,by first | rfl | trivial⟩
      case measure=>simp [intOf];omega
     have hzd:decide (z.s < y) = false:=by simpa using hzy
     have b1:(k:Int) ≤ (C.rn:Int):=by omega
     have b2:(k:Int) ≤ (cr:Int):=by have h:=HS6.out.k3.1;omega
     have b3:(0:Int) ≤ (k:Int):=by omega
     go_upto_region 26 with fail
     clear c0 c1 c2 x0 x1 x2
     (try clear g0 g1 g2 g3)
     refine wp_region_U (fun V=>Below w3.heap.size w3 V) (fun V=>V.cell? ⟨p,2,none⟩ = some (.slice (some ar) C.rn cr)) 16 (by kernel_rfl) ?_
     change anyU _ _ _ _ _ _ _ 19 _ _ _
     have HSD:=Lib.hid (HS6.out.below (below_dr w7))
     generalize w7.drew = wd at HSD ⊢
     have hA0:=HSD.out.bel
     have hB0:=HSD.out.box.cell (j:=2) rfl
     obtain ⟨AX,hAX⟩:∃ q,(if cr = k then some ar else some (ar.add (k * 4))) = q:=⟨_,rfl⟩
     have HAX:=Lib.hid hAX
     have hwq:IntKind.i64.wrap qb = qb:=IntWalk.i64_in _ (by omega)
     (refine uA 0 ?_ rfl hA0 hB0 (fun W hA=>?_) ?_;rotate_left;(· (go_simp;try with_reducible rfl));(try simp only [Act.put,List.setIfInBounds_toArray,List.set_cons_zero,List.set_cons_succ]))
     (refine uBT 1 ?_ rfl hA0 hB0 (fun W hA hB=>?_) ?_;rotate_left;(· (have b0:=hB;go_simp;try with_reducible rfl));(try simp only [Act.put,List.setIfInBounds_toArray,List.set_cons_zero,List.set_cons_succ]))
     (refine uA 2 ?_ rfl hA0 hB0 (fun W hA=>?_) ?_;rotate_left;(· (go_simp;try with_reducible rfl));refine uA 3 ?_ rfl hA0 hB0 (fun W hA=>?_) ?_;rotate_left;(· (go_simp;try with_reducible rfl));(try simp only [Act.put,List.setIfInBounds_toArray,List.set_cons_zero,List.set_cons_succ]))
     (refine uA 4 ?_ rfl hA0 hB0 (fun W hA=>?_) ?_;rotate_left;(· (go_simp;try with_reducible rfl));(try simp only [Act.put,List.setIfInBounds_toArray,List.set_cons_zero,List.set_cons_succ]))
     (refine uA 5 ?_ rfl hA0 hB0 (fun W hA=>?_) ?_;rotate_left;(· (go_simp;try with_reducible rfl));(try simp only [Act.put,List.setIfInBounds_toArray,List.set_cons_zero,List.set_cons_succ]))
     (refine uA 6 ?_ rfl hA0 hB0 (fun W hA=>?_) ?_;rotate_left;(· (go_simp;try with_reducible rfl));(try simp only [Act.put,List.setIfInBounds_toArray,List.set_cons_zero,List.set_cons_succ]))
     (refine uA 7 ?_ rfl hA0 hB0 (fun W hA=>?_) ?_;rotate_left;(· (obtain ⟨x0,x1,x2⟩:=HKX.out W hA;go_simp;try with_reducible rfl));(try simp only [Act.put,List.setIfInBounds_toArray,List.set_cons_zero,List.set_cons_succ]))
     (refine uA 8 ?_ rfl hA0 hB0 (fun W hA=>?_) ?_;rotate_left;(· (go_simp;try with_reducible rfl));refine uA 9 ?_ rfl hA0 hB0 (fun W hA=>?_) ?_;rotate_left;(· (go_simp;try with_reducible rfl));(try simp only [Act.put,List.setIfInBounds_toArray,List.set_cons_zero,List.set_cons_succ]))
     (refine uA 11 ?_ rfl hA0 hB0 (fun W hA=>?_) ?_;rotate_left;(· (go_simp;try with_reducible rfl));(try simp only [Act.put,List.setIfInBounds_toArray,List.set_cons_zero,List.set_cons_succ]))
     (refine uBT 12 ?_ rfl hA0 hB0 (fun W hA hB=>?_) ?_;rotate_left;(· (have b0:=hB;go_simp;try with_reducible rfl));(try simp only [Act.put,List.setIfInBounds_toArray,List.set_cons_zero,List.set_cons_succ]))
     (refine uA 13 ?_ rfl hA0 hB0 (fun W hA=>?_) ?_;rotate_left;(· (go_simp;try with_reducible rfl));(try simp only [Act.put,List.setIfInBounds_toArray,List.set_cons_zero,List.set_cons_succ]))
     refine uA 14 (.slice AX (C.rn - k) (cr - k)) rfl hA0 hB0 (fun W hA=>?_) ?_
     ·go_simp
      first | done | (rw [hAX];done) | rfl
     (try simp only [Act.put,List.setIfInBounds_toArray,List.set_cons_zero,List.set_cons_succ])
     clear hAX
     refine uOne (i:=10) rfl (by kernel_rfl) (fun K hK=>?_)
     go_simp
     clear hwq
     have hbz:=box_below wd (.cells #[.int .i64 y,.int .i64 qb,.int .i64 3,.int .i64 (-1)] 63)
     have kz:=Blk.new wd 63 [.int .i64 y,.int .i64 qb,.int .i64 3,.int .i64 (-1)]
     have HSE:=Lib.hid (HSD.out.below hbz)
     have hA1:=HSE.out.bel
     have hB1:=HSE.out.box.cell (j:=2) rfl
     (refine hK _ _ ⟨hA1,fun _=>hB1⟩ ?_;clear hK K;(try simp only [Act.put,List.setIfInBounds_toArray,List.set_cons_zero,List.set_cons_succ]))
     clear hA0 hB0 hbz hA1 hB1
     generalize wd.heap.size = bz at kz ⊢
     have kz':Blk (wd.alloc (.cells #[.int .i64 y,.int .i64 qb,.int .i64 3,.int .i64 (-1)] 63)) bz 63 [.int .i64 y,.int .i64 qb,.int .i64 3,.int .i64 (-1)]:=kz
     clear kz
     generalize wd.alloc (.cells #[.int .i64 y,.int .i64 qb,.int .i64 3,.int .i64 (-1)] 63) = we at kz' HSE ⊢
     have HPP:=Lib.hid (rdV_parts (f:=rmc) (sz:=4) (fun _=>rfl) HRL.out (j:=k) hk HSE.out.k3.1 HSE.out.r3 k (k * 4) rfl HAX.out)
     have hbs:=HSE.out.bel.size
     have hkz:=kz'.lt
     refine uOne (i:=15) rfl (by kernel_rfl) (fun K hK=>?_)
     refine step_cut we rfl (.tmp 183) (.tmp 187) 36 (by rfl) w3.heap.size 63 (.agg #[.int .i64 0,.int .i64 0,.int .i64 0,.int .i64 0]) 4 32 Try.underlying36 rm_info (by rfl) (by decide) ⟨bz,0,none⟩ hkz 1 [.int .i64 y,.int .i64 qb,.int .i64 3,.int .i64 (-1)] (by rfl) (RdV.of_blk kz') (by rfl) AX (C.rn - k) (cr - k) ((C.rm.drop k).flatMap rmc) HPP.out.2.2 (by rfl) HPP.out.2.1 (by omega) (by omega) hbs ?_
     intro A5 c5 wf i1 i2 i3 i4 i5 i6 i7
     have HSF:=Lib.hid (HSE.out.below i7)
     have HI4:=Lib.hid i4
     have hA1:=HSF.out.bel
     have hB1:=HSF.out.box.cell (j:=2) rfl
     clear i1 i2 i3 i4 i5 i6 i7 hbs hkz kz' HPP
     (refine hK _ _ ⟨hA1,fun _=>hB1⟩ ?_;clear hK K;(try simp only [Act.put,List.setIfInBounds_toArray,List.set_cons_zero,List.set_cons_succ]))
     clear hA1 hB1
     have HPP:=Lib.hid (rdV_parts (f:=rmc) (sz:=4) (fun _=>rfl) HRL.out (j:=k) hk HSF.out.k3.1 HSF.out.r3 k (k * 4) rfl HAX.out)
     have hbl:=HSF.out.b3
     have hbs:=HSF.out.bel.size
     refine uOne (i:=16) rfl (by kernel_rfl) (fun K hK=>?_)
     refine step_cut wf rfl (.tmp 177) (.tmp 188) 36 (by rfl) w3.heap.size 63 (.agg #[.int .i64 0,.int .i64 0,.int .i64 0,.int .i64 0]) 4 32 Try.underlying36 rm_info (by rfl) (by decide) ar hbl k ((C.rm.take k).flatMap rmc) (by rw [flat_len rmc 4 _ (fun _ _=>rfl),List.length_take,HRL.out,Nat.min_eq_left (by omega)]) HPP.out.1 (by rfl) (some A5) (1 + (C.rn - k)) c5 ([.int .i64 y,.int .i64 qb,.int .i64 3,.int .i64 (-1)] ++ (C.rm.drop k).flatMap rmc) (by rw [List.length_append,HPP.out.2.2];simp;omega) (by rfl) HI4.out (by omega) (by omega) hbs ?_
     intro A' c' w' i1 i2 i3 i4 i5 i6 i7
     have HSW:=Lib.hid (HSF.out.below i7)
     have hrw:(C.rm.take k).flatMap rmc ++ ([.int .i64 y,.int .i64 qb,.int .i64 3,.int .i64 (-1)] ++ (C.rm.drop k).flatMap rmc) = (C.rm.take k ++ ⟨y,qb,3,-1⟩ :: C.rm.drop k).flatMap rmc:=by rw [List.flatMap_append,List.flatMap_cons];rfl
     rw [hrw] at i4
     have HS2:=Lib.hid (HSW.out.put2 (l:=C.rm.take k ++ ⟨y,qb,3,-1⟩ :: C.rm.drop k) (by rw [List.length_append,List.length_take,List.length_cons,List.length_drop,HRL.out];omega) i4 ⟨i1,i2⟩ i3)
     have hA2:=HSW.out.bel
     have e9:=HSW.out.box.cell (j:=2) rfl
     have f9:=HSW.out.box.free 2
     have l9:=HSW.out.box.lt
     clear i1 i2 i3 i4 i5 i6 i7 hbl hbs HPP HAX hrw
     (refine hK _ _ ⟨hA2,fun h=>absurd (h.symm.trans (by kernel_rfl:_ = true)) Bool.false_ne_true⟩ ?_;clear hK K;(try simp only [Act.put,List.setIfInBounds_toArray,List.set_cons_zero,List.set_cons_succ]))
     refine uOne (i:=17) rfl (by kernel_rfl) (fun K hK=>?_)
     go_simp
     (refine hK _ _ ⟨hA2,fun h=>absurd (h.symm.trans (by kernel_rfl:_ = true)) Bool.false_ne_true⟩ ?_;clear hK K;(try simp only [Act.put,List.setIfInBounds_toArray,List.set_cons_zero,List.set_cons_succ]))
     refine uOne (i:=18) rfl (by kernel_rfl) (fun K hK=>?_)
     go_simp
     have hA3:=HS2.out.bel
     (refine hK _ _ ⟨hA3,fun h=>absurd (h.symm.trans (by kernel_rfl:_ = true)) Bool.false_ne_true⟩ ?_;clear hK K;(try simp only [Act.put,List.setIfInBounds_toArray,List.set_cons_zero,List.set_cons_succ]))
     refine anyU_done (by kernel_rfl) ?_ _
     clear hA2 hA3 e9 f9 l9 HSW HSF HSE HSD
     generalize w'.setCell ⟨p,2,none⟩ (.slice (some A') (k + (1 + (C.rn - k))) c') = w8 at HS2 ⊢
     have HEN:=Lib.hid (show SpE w3 C.k.n C.rn p w8 from HS2.out.fin (by omega) (by omega))
     clear HS2
     go_upto_region 29 with fail
     obtain ⟨D,w6,hw6,⟨c0,c1,c2⟩,hth,⟨z0,z1,z2⟩,hfi⟩:=spE_end HEN.out (HKO.out w8 HEN.out.bel) (HB.out w8 HEN.out.bel)
     have HW6:=Lib.hid hw6
     have HTH:=Lib.hid hth
     have HFI:=Lib.hid hfi
     clear hw6 hth hfi
     go_wp2_with (first | (have hth:=HTH.out;refine wpList_store_mid rfl 38 (.tmp 4) (.tmp 214) rfl (w.heap.size + 1 + 1) 0 #[.slice D.k.A D.k.n D.k.c,.slice D.d.A D.d.n D.d.c,.slice D.R D.rn D.rc] rfl rfl hth cert_size (by simp [Value.oneCell']) ?_;rw [HW6.out];refine wpList_nil ?_;rename_i K9 hK9;refine hK9 _ _ ?_;apply wp_ret;refine bodyPost_ret (v:=.agg #[.slice D.k.A D.k.n D.k.c,.slice D.d.A D.d.n D.d.c,.slice D.R D.rn D.rc]) (by simp [results,Try.results16,go_sem,z0,z1,z2]) rfl ?_;exact HFI.out) | fail)
    have hld:decide ((k:Int) < (C.rn:Int)) = false:=by simpa using hlt
    have b1:(k:Int) ≤ (C.rn:Int):=by omega
    have b2:(k:Int) ≤ (cr:Int):=by have h:=HS6.out.k3.1;omega
    have b3:(0:Int) ≤ (k:Int):=by omega
    go_upto_region 26 with fail
    clear c0 c1 c2 x0 x1 x2
    (try clear g0 g1 g2 g3)
    refine wp_region_U (fun V=>Below w3.heap.size w3 V) (fun V=>V.cell? ⟨p,2,none⟩ = some (.slice (some ar) C.rn cr)) 16 (by kernel_rfl) ?_
    change anyU _ _ _ _ _ _ _ 19 _ _ _
    have HSD:=Lib.hid (HS6.out.below (below_dr w7))
    generalize w7.drew = wd at HSD ⊢
    have hA0:=HSD.out.bel
    have hB0:=HSD.out.box.cell (j:=2) rfl
    obtain ⟨AX,hAX⟩:∃ q,(if cr = k then some ar else some (ar.add (k * 4))) = q:=⟨_,rfl⟩
    have HAX:=Lib.hid hAX
    have hwq:IntKind.i64.wrap qb = qb:=IntWalk.i64_in _ (by omega)
    (refine uA 0 ?_ rfl hA0 hB0 (fun W hA=>?_) ?_;rotate_left;(· (go_simp;try with_reducible rfl));(try simp only [Act.put,List.setIfInBounds_toArray,List.set_cons_zero,List.set_cons_succ]))
    (refine uBT 1 ?_ rfl hA0 hB0 (fun W hA hB=>?_) ?_;rotate_left;(· (have b0:=hB;go_simp;try with_reducible rfl));(try simp only [Act.put,List.setIfInBounds_toArray,List.set_cons_zero,List.set_cons_succ]))
    (refine uA 2 ?_ rfl hA0 hB0 (fun W hA=>?_) ?_;rotate_left;(· (go_simp;try with_reducible rfl));refine uA 3 ?_ rfl hA0 hB0 (fun W hA=>?_) ?_;rotate_left;(· (go_simp;try with_reducible rfl));(try simp only [Act.put,List.setIfInBounds_toArray,List.set_cons_zero,List.set_cons_succ]))
    (refine uA 4 ?_ rfl hA0 hB0 (fun W hA=>?_) ?_;rotate_left;(· (go_simp;try with_reducible rfl));(try simp only [Act.put,List.setIfInBounds_toArray,List.set_cons_zero,List.set_cons_succ]))
    (refine uA 5 ?_ rfl hA0 hB0 (fun W hA=>?_) ?_;rotate_left;(· (go_simp;try with_reducible rfl));(try simp only [Act.put,List.setIfInBounds_toArray,List.set_cons_zero,List.set_cons_succ]))
    (refine uA 6 ?_ rfl hA0 hB0 (fun W hA=>?_) ?_;rotate_left;(· (go_simp;try with_reducible rfl));(try simp only [Act.put,List.setIfInBounds_toArray,List.set_cons_zero,List.set_cons_succ]))
    (refine uA 7 ?_ rfl hA0 hB0 (fun W hA=>?_) ?_;rotate_left;(· (obtain ⟨x0,x1,x2⟩:=HKX.out W hA;go_simp;try with_reducible rfl));(try simp only [Act.put,List.setIfInBounds_toArray,List.set_cons_zero,List.set_cons_succ]))
    (refine uA 8 ?_ rfl hA0 hB0 (fun W hA=>?_) ?_;rotate_left;(· (go_simp;try with_reducible rfl));refine uA 9 ?_ rfl hA0 hB0 (fun W hA=>?_) ?_;rotate_left;(· (go_simp;try with_reducible rfl));(try simp only [Act.put,List.setIfInBounds_toArray,List.set_cons_zero,List.set_cons_succ]))
    (refine uA 11 ?_ rfl hA0 hB0 (fun W hA=>?_) ?_;rotate_left;(· (go_simp;try with_reducible rfl));(try simp only [Act.put,List.setIfInBounds_toArray,List.set_cons_zero,List.set_cons_succ]))
    (refine uBT 12 ?_ rfl hA0 hB0 (fun W hA hB=>?_) ?_;rotate_left;(· (have b0:=hB;go_simp;try with_reducible rfl));(try simp only [Act.put,List.setIfInBounds_toArray,List.set_cons_zero,List.set_cons_succ]))
    (refine uA 13 ?_ rfl hA0 hB0 (fun W hA=>?_) ?_;rotate_left;(· (go_simp;try with_reducible rfl));(try simp only [Act.put,List.setIfInBounds_toArray,List.set_cons_zero,List.set_cons_succ]))
    refine uA 14 (.slice AX (C.rn - k) (cr - k)) rfl hA0 hB0 (fun W hA=>?_) ?_
    ·go_simp
     first | done | (rw [hAX];done) | rfl
    (try simp only [Act.put,List.setIfInBounds_toArray,List.set_cons_zero,List.set_cons_succ])
    clear hAX
    refine uOne (i:=10) rfl (by kernel_rfl) (fun K hK=>?_)
    go_simp
    clear hwq
    have hbz:=box_below wd (.cells #[.int .i64 y,.int .i64 qb,.int .i64 3,.int .i64 (-1)] 63)
    have kz:=Blk.new wd 63 [.int .i64 y,.int .i64 qb,.int .i64 3,.int .i64 (-1)]
    have HSE:=Lib.hid (HSD.out.below hbz)
    have hA1:=HSE.out.bel
    have hB1:=HSE.out.box.cell (j:=2) rfl
    (refine hK _ _ ⟨hA1,fun _=>hB1⟩ ?_;clear hK K;(try simp only [Act.put,List.setIfInBounds_toArray,List.set_cons_zero,List.set_cons_succ]))
    clear hA0 hB0 hbz hA1 hB1
    generalize wd.heap.size = bz at kz ⊢
    have kz':Blk (wd.alloc (.cells #[.int .i64 y,.int .i64 qb,.int .i64 3,.int .i64 (-1)] 63)) bz 63 [.int .i64 y,.int .i64 qb,.int .i64 3,.int .i64 (-1)]:=kz
    clear kz
    generalize wd.alloc (.cells #[.int .i64 y,.int .i64 qb,.int .i64 3,.int .i64 (-1)] 63) = we at kz' HSE ⊢
    have HPP:=Lib.hid (rdV_parts (f:=rmc) (sz:=4) (fun _=>rfl) HRL.out (j:=k) hk HSE.out.k3.1 HSE.out.r3 k (k * 4) rfl HAX.out)
    have hbs:=HSE.out.bel.size
    have hkz:=kz'.lt
    refine uOne (i:=15) rfl (by kernel_rfl) (fun K hK=>?_)
    refine step_cut we rfl (.tmp 183) (.tmp 187) 36 (by rfl) w3.heap.size 63 (.agg #[.int .i64 0,.int .i64 0,.int .i64 0,.int .i64 0]) 4 32 Try.underlying36 rm_info (by rfl) (by decide) ⟨bz,0,none⟩ hkz 1 [.int .i64 y,.int .i64 qb,.int .i64 3,.int .i64 (-1)] (by rfl) (RdV.of_blk kz') (by rfl) AX (C.rn - k) (cr - k) ((C.rm.drop k).flatMap rmc) HPP.out.2.2 (by rfl) HPP.out.2.1 (by omega) (by omega) hbs ?_
    intro A5 c5 wf i1 i2 i3 i4 i5 i6 i7
    have HSF:=Lib.hid (HSE.out.below i7)
    have HI4:=Lib.hid i4
    have hA1:=HSF.out.bel
    have hB1:=HSF.out.box.cell (j:=2) rfl
    clear i1 i2 i3 i4 i5 i6 i7 hbs hkz kz' HPP
    (refine hK _ _ ⟨hA1,fun _=>hB1⟩ ?_;clear hK K;(try simp only [Act.put,List.setIfInBounds_toArray,List.set_cons_zero,List.set_cons_succ]))
    clear hA1 hB1
    have HPP:=Lib.hid (rdV_parts (f:=rmc) (sz:=4) (fun _=>rfl) HRL.out (j:=k) hk HSF.out.k3.1 HSF.out.r3 k (k * 4) rfl HAX.out)
    have hbl:=HSF.out.b3
    have hbs:=HSF.out.bel.size
    refine uOne (i:=16) rfl (by kernel_rfl) (fun K hK=>?_)
    refine step_cut wf rfl (.tmp 177) (.tmp 188) 36 (by rfl) w3.heap.size 63 (.agg #[.int .i64 0,.int .i64 0,.int .i64 0,.int .i64 0]) 4 32 Try.underlying36 rm_info (by rfl) (by decide) ar hbl k ((C.rm.take k).flatMap rmc) (by rw [flat_len rmc 4 _ (fun _ _=>rfl),List.length_take,HRL.out,Nat.min_eq_left (by omega)]) HPP.out.1 (by rfl) (some A5) (1 + (C.rn - k)) c5 ([.int .i64 y,.int .i64 qb,.int .i64 3,.int .i64 (-1)] ++ (C.rm.drop k).flatMap rmc) (by rw [List.length_append,HPP.out.2.2];simp;omega) (by rfl) HI4.out (by omega) (by omega) hbs ?_
    intro A' c' w' i1 i2 i3 i4 i5 i6 i7
    have HSW:=Lib.hid (HSF.out.below i7)
    have hrw:(C.rm.take k).flatMap rmc ++ ([.int .i64 y,.int .i64 qb,.int .i64 3,.int .i64 (-1)] ++ (C.rm.drop k).flatMap rmc) = (C.rm.take k ++ ⟨y,qb,3,-1⟩ :: C.rm.drop k).flatMap rmc:=by rw [List.flatMap_append,List.flatMap_cons];rfl
    rw [hrw] at i4
    have HS2:=Lib.hid (HSW.out.put2 (l:=C.rm.take k ++ ⟨y,qb,3,-1⟩ :: C.rm.drop k) (by rw [List.length_append,List.length_take,List.length_cons,List.length_drop,HRL.out];omega) i4 ⟨i1,i2⟩ i3)
    have hA2:=HSW.out.bel
    have e9:=HSW.out.box.cell (j:=2) rfl
    have f9:=HSW.out.box.free 2
    have l9:=HSW.out.box.lt
    clear i1 i2 i3 i4 i5 i6 i7 hbl hbs HPP HAX hrw
    (refine hK _ _ ⟨hA2,fun h=>absurd (h.symm.trans (by kernel_rfl:_ = true)) Bool.false_ne_true⟩ ?_;clear hK K;(try simp only [Act.put,List.setIfInBounds_toArray,List.set_cons_zero,List.set_cons_succ]))
    refine uOne (i:=17) rfl (by kernel_rfl) (fun K hK=>?_)
    go_simp
    (refine hK _ _ ⟨hA2,fun h=>absurd (h.symm.trans (by kernel_rfl:_ = true)) Bool.false_ne_true⟩ ?_;clear hK K;(try simp only [Act.put,List.setIfInBounds_toArray,List.set_cons_zero,List.set_cons_succ]))
    refine uOne (i:=18) rfl (by kernel_rfl) (fun K hK=>?_)
    go_simp
    have hA3:=HS2.out.bel
    (refine hK _ _ ⟨hA3,fun h=>absurd (h.symm.trans (by kernel_rfl:_ = true)) Bool.false_ne_true⟩ ?_;clear hK K;(try simp only [Act.put,List.setIfInBounds_toArray,List.set_cons_zero,List.set_cons_succ]))
    refine anyU_done (by kernel_rfl) ?_ _
    clear hA2 hA3 e9 f9 l9 HSW HSF HSE HSD
    generalize w'.setCell ⟨p,2,none⟩ (.slice (some A') (k + (1 + (C.rn - k))) c') = w8 at HS2 ⊢
    have HEN:=Lib.hid (show SpE w3 C.k.n C.rn p w8 from HS2.out.fin (by omega) (by omega))
    clear HS2
    go_upto_region 29 with fail
    obtain ⟨D,w6,hw6,⟨c0,c1,c2⟩,hth,⟨z0,z1,z2⟩,hfi⟩:=spE_end HEN.out (HKO.out w8 HEN.out.bel) (HB.out w8 HEN.out.bel)
    have HW6:=Lib.hid hw6
    have HTH:=Lib.hid hth
    have HFI:=Lib.hid hfi
    clear hw6 hth hfi
    go_wp2_with (first | (have hth:=HTH.out;refine wpList_store_mid rfl 38 (.tmp 4) (.tmp 214) rfl (w.heap.size + 1 + 1) 0 #[.slice D.k.A D.k.n D.k.c,.slice D.d.A D.d.n D.d.c,.slice D.R D.rn D.rc] rfl rfl hth cert_size (by simp [Value.oneCell']) ?_;rw [HW6.out];refine wpList_nil ?_;rename_i K9 hK9;refine hK9 _ _ ?_;apply wp_ret;refine bodyPost_ret (v:=.agg #[.slice D.k.A D.k.n D.k.c,.slice D.d.A D.d.n D.d.c,.slice D.R D.rn D.rc]) (by simp [results,Try.results16,go_sem,z0,z1,z2]) rfl ?_;exact HFI.out) | fail)
  ·as_aux_lemma =>
   go_upto_region 29 with fail
   clear c0 c1 c2 x0 x1 x2
   obtain ⟨D,w6,hw6,⟨c0,c1,c2⟩,hth,⟨z0,z1,z2⟩,hfi⟩:=spE_end HNOP.out (HKO.out w4 HNOP.out.bel) (HB.out w4 HNOP.out.bel)
   have HW6:=Lib.hid hw6
   have HTH:=Lib.hid hth
   have HFI:=Lib.hid hfi
   clear hw6 hth hfi
   go_wp2_with (first | (have hth:=HTH.out;refine wpList_store_mid rfl 38 (.tmp 4) (.tmp 214) rfl (w.heap.size + 1 + 1) 0 #[.slice D.k.A D.k.n D.k.c,.slice D.d.A D.d.n D.d.c,.slice D.R D.rn D.rc] rfl rfl hth cert_size (by simp [Value.oneCell']) ?_;rw [HW6.out];refine wpList_nil ?_;rename_i K9 hK9;refine hK9 _ _ ?_;apply wp_ret;refine bodyPost_ret (v:=.agg #[.slice D.k.A D.k.n D.k.c,.slice D.d.A D.d.n D.d.c,.slice D.R D.rn D.rc]) (by simp [results,Try.results16,go_sem,z0,z1,z2]) rfl ?_;exact HFI.out) | fail)
end Go.Proofs.Ytdnmpndnpfklcaa

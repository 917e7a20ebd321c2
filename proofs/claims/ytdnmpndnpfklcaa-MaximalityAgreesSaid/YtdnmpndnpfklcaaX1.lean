/- The law's Make of chapter 28. -/
import Derived.Test.YtdnmpndnpfklcaaBa
import Derived.Test.YtdnmpndnpfklcaaRow
import Derived.Test.YtdnmpndnpfklcaaUc
import Derived.Deep.Strs
import Derived.Laws.BitsAllLaws
import Derived.WalkKit
import Derived.ProofKit
import Derived.OpenShut
import Derived.Test.YtdnmpndnpfklcaaXd

namespace Go.Proofs.Ytdnmpndnpfklcaa
open Go.RowKit Go Go.Maps
def sp4 (g:Sm4) (u f:Int):List Value:=smc g ++ [.int .u8 u,.int .u8 f]
theorem smc_len {g:Sm4} (h:g.ok):(smc g).length = 26:=by unfold smc;simp [h.len]
theorem pb_size:(Try.prog.info? 34).map (·.size) = some 6:=by kernel_rfl
set_option maxRecDepth 100000 in
set_option maxHeartbeats 3200000 in
theorem law_Make28 (g:Sm4) (u f:Int) (w:World) (hg:g.ok) (hu:0 ≤ u∧u ≤ 255) (hf:0 ≤ f∧f ≤ 255) :
  Calls Try.prog 11 #[.agg (sp4 g u f).toArray] w fun e w'=>∃ z:PB,e = .returned (.agg (pbc z).toArray)∧z.ok w' w'.heap.size∧z.m = prb4 g u f∧Below w.heap.size w w':=by
 have hlen:=smc_len hg
 have hb1:=box_below w (.cells (sp4 g u f).toArray 27)
 have kx:=Blk.new w 27 (sp4 g u f)
 obtain ⟨w1,hw1⟩:∃ w1,w1 = w.alloc (.cells (sp4 g u f).toArray 27):=⟨_,rfl⟩
 rw [← hw1] at hb1 kx
 have hb2:=box_below w1 (.cells #[.slice none 0 0,.int .i64 0,.slice none 0 0,.slice none 0 0,.slice none 0 0,.slice none 0 0] 34)
 have kr:Blk (w1.alloc (.cells #[.slice none 0 0,.int .i64 0,.slice none 0 0,.slice none 0 0,.slice none 0 0,.slice none 0 0] 34)) w1.heap.size 34 [.slice none 0 0,.int .i64 0,.slice none 0 0,.slice none 0 0,.slice none 0 0,.slice none 0 0]:=Blk.new _ _ [_,_,_,_,_,_]
 have hs1:w1.heap.size = w.heap.size + 1:=by rw [hw1];simp
 rw [hs1] at kr
 obtain ⟨w2,hw2⟩:∃ w2,w2 = w1.alloc (.cells #[.slice none 0 0,.int .i64 0,.slice none 0 0,.slice none 0 0,.slice none 0 0,.slice none 0 0] 34):=⟨_,rfl⟩
 have hs2:w2.heap.size = w.heap.size + 1 + 1:=by rw [hw2];simp [hs1]
 rw [← hw2] at hb2 kr
 have hb12:=hb1.trans (hb2.mono hb1.size)
 have kx2:=kx.below hb2 kx.lt
 have HKX:=Lib.hid (fun (W:World) (hb:Below w2.heap.size w2 W)=>kx2.below hb kx2.lt)
 have HKR:=Lib.hid (fun (W:World) (hb:Below w2.heap.size w2 W)=>kr.below hb kr.lt)
 have HB2:=Lib.hid hb12
 have HS2:=Lib.hid hs2
 have HW2:=Lib.hid (show (w.alloc (.cells (sp4 g u f).toArray 27)).alloc (.cells #[.slice none 0 0,.int .i64 0,.slice none 0 0,.slice none 0 0,.slice none 0 0,.slice none 0 0] 34) = w2 by rw [hw2,hw1])
 have hrg:w2.rangeAt w.heap.size 0 (smc g):=fun j v hj=>by
  rw [Nat.zero_add]
  refine kx2.cell ?_
  unfold sp4
  rw [List.getElem?_append_left (List.getElem?_eq_some_iff.1 hj).1,hj]
 have HLN:=Lib.hid hlen
 have HMK:=Lib.hid (law_Make4 g w2 hg)
 have HU:=Lib.hid hu
 have HF:=Lib.hid hf
 have HUC:=Lib.hid (show (sp4 g u f)[26]? = some (.int .u8 u) by unfold sp4;rw [List.getElem?_append_right (by omega),hlen];rfl)
 have HFC:=Lib.hid (show (sp4 g u f)[27]? = some (.int .u8 f) by unfold sp4;rw [List.getElem?_append_right (by omega),hlen];rfl)
 clear hb1 kx hw1 hb2 kr hw2 hs1 hb12 kx2 hs2 hg hlen hu hf
 go_enter Try.func11,Try.ntmps11
 go_upto_region 1 with fail
 rw [HW2.out]
 go_wp2_with (first | (refine wpList_load_mid rfl 25 (.tmp 4) rfl w.heap.size 0 rfl (smc g) _ hrg Try.underlying25 rfl (by rw [HLN.out];kernel_rfl) ?_) | fail)
 refine HMK.out.mono ?_
 rintro e w3 ⟨⟨A,na,ca,M,nm,cm,E,ne,ce,a⟩,rfl,hx,ha,hb3⟩
 dsimp only at ha hx ⊢
 subst ha
 obtain ⟨n,hn⟩:∃ n,g.n = n:=⟨_,rfl⟩
 have hst:(aut4 g).st = (n:Int):=by unfold aut4;rw [hn]
 rw [hst]
 have hn6:=g.n_le
 rw [hn] at hn6
 have HN:=Lib.hid hn
 clear hrg HMK hn hst
 have hba:=box_below w3 (.cells #[.slice A na ca,.int .i64 (n:Int),.slice M nm cm,.slice E ne ce] 32)
 have ka:=Blk.new w3 32 [.slice A na ca,.int .i64 (n:Int),.slice M nm cm,.slice E ne ce]
 have HO4:=Lib.hid (hx.below hba)
 have HB4:=Lib.hid (hb3.trans (hba.mono hb3.size))
 go_upto_region 2 with fail
 obtain ⟨ba,hbae⟩:∃ b,w3.heap.size = b:=⟨_,rfl⟩
 rw [hbae] at ka ⊢
 have ka':Blk (w3.alloc (.cells #[.slice A na ca,.int .i64 (n:Int),.slice M nm cm,.slice E ne ce] 32)) ba 32 [.slice A na ca,.int .i64 (n:Int),.slice M nm cm,.slice E ne ce]:=ka
 clear hba ka hbae hx hb3
 generalize w3.alloc (.cells #[.slice A na ca,.int .i64 (n:Int),.slice M nm cm,.slice E ne ce] 32) = w4 at ka' HO4 HB4 ⊢
 have HBD:=Lib.hid (HB4.out.trans ((below_dr w4).mono HB4.out.size))
 have HAV:=Lib.hid (fun (V:World) (hb:Below w4.heap.size w4 V)=>And.intro (Blk.c4 (ka'.below hb ka'.lt)) (And.intro ((HKX.out V (HB4.out.trans (hb.mono HB4.out.size))).cell HUC.out) ((HKX.out V (HB4.out.trans (hb.mono HB4.out.size))).cell HFC.out)))
 refine wp_region_U (fun V=>C4 V ba (.slice A na ca) (.int .i64 (n:Int)) (.slice M nm cm) (.slice E ne ce)∧V.cell? ⟨w.heap.size,26,none⟩ = some (.int .u8 u)∧V.cell? ⟨w.heap.size,27,none⟩ = some (.int .u8 f)) (fun _=>True) 99 (by kernel_rfl) ?_
 change anyU _ _ _ _ _ _ _ 11 _ _ _
 have HD:=Lib.hid (below_dr w4)
 have HO5:=Lib.hid (HO4.out.below (below_dr w4))
 generalize w4.drew = w5 at HD HBD HO5 ⊢
 have hA0:=HAV.out w5 HD.out
 have hB0:True:=trivial
 (refine uA 0 ?_ rfl hA0 hB0 (fun W hA=>?_) ?_;rotate_left;(· (obtain ⟨⟨a0,a1,a2,a3⟩,_⟩:=hA;go_simp;try with_reducible rfl));(try simp only [Act.put,List.setIfInBounds_toArray,List.set_cons_zero,List.set_cons_succ]))
 (refine uA 1 ?_ rfl hA0 hB0 (fun W hA=>?_) ?_;rotate_left;(· (go_simp;try with_reducible rfl));(try simp only [Act.put,List.setIfInBounds_toArray,List.set_cons_zero,List.set_cons_succ]))
 (refine uA 2 ?_ rfl hA0 hB0 (fun W hA=>?_) ?_;rotate_left;(· (obtain ⟨_,a4,a5⟩:=hA;go_simp;try with_reducible rfl));(try simp only [Act.put,List.setIfInBounds_toArray,List.set_cons_zero,List.set_cons_succ]))
 (refine uA 4 ?_ rfl hA0 hB0 (fun W hA=>?_) ?_;rotate_left;(· (go_simp;try with_reducible rfl));(try simp only [Act.put,List.setIfInBounds_toArray,List.set_cons_zero,List.set_cons_succ]))
 (refine uA 5 ?_ rfl hA0 hB0 (fun W hA=>?_) ?_;rotate_left;(· (obtain ⟨_,a4,a5⟩:=hA;go_simp;try with_reducible rfl));(try simp only [Act.put,List.setIfInBounds_toArray,List.set_cons_zero,List.set_cons_succ]))
 (refine uA 6 ?_ rfl hA0 hB0 (fun W hA=>?_) ?_;rotate_left;(· (go_simp;try with_reducible rfl));(try simp only [Act.put,List.setIfInBounds_toArray,List.set_cons_zero,List.set_cons_succ]))
 (refine uA 7 ?_ rfl hA0 hB0 (fun W hA=>?_) ?_;rotate_left;(· (obtain ⟨⟨a0,a1,a2,a3⟩,_⟩:=hA;go_simp;try with_reducible rfl));(try simp only [Act.put,List.setIfInBounds_toArray,List.set_cons_zero,List.set_cons_succ]))
 refine uOne (i:=3) rfl (by kernel_rfl) (fun K hK=>?_)
 go_simp
 go_at_call 26
 refine (law_Bits u 6 w5 HU.out (by omega)).mono ?_
 rintro e w6 ⟨v,rfl,ho,hb6⟩
 obtain ⟨UA,uc,rfl⟩:=own_shape ho
 have HD6:=Lib.hid (HD.out.trans (hb6.mono HD.out.size))
 have HU6:=Lib.hid ho
 have HO6:=Lib.hid (HO5.out.below hb6)
 have HB6:=Lib.hid (HBD.out.trans (hb6.mono HBD.out.size))
 have HZ6:=Lib.hid (show w2.heap.size ≤ w5.heap.size from HBD.out.size)
 clear hA0 ho hb6
 have hA0:=HAV.out w6 HD6.out
 go_simp
 (refine hK _ _ ⟨hA0,fun h=>absurd (h.symm.trans (by kernel_rfl:_ = true)) Bool.false_ne_true⟩ ?_;clear hK K;(try simp only [Act.put,List.setIfInBounds_toArray,List.set_cons_zero,List.set_cons_succ]))
 refine uOne (i:=8) rfl (by kernel_rfl) (fun K hK=>?_)
 go_simp
 go_at_call 26
 refine (law_Bits f n w6 HF.out (by omega)).mono ?_
 rintro e w7 ⟨v,rfl,ho,hb7⟩
 obtain ⟨FA,fc,rfl⟩:=own_shape ho
 have HD7:=Lib.hid (HD6.out.trans (hb7.mono HD6.out.size))
 have HF7:=Lib.hid ho
 have HU7:=Lib.hid (own_below HU6.out hb7)
 have HO7:=Lib.hid (HO6.out.below hb7)
 have HB7:=Lib.hid (HB6.out.trans (hb7.mono HB6.out.size))
 have HZ7:=Lib.hid (show w2.heap.size ≤ w6.heap.size from HB6.out.size)
 clear hA0 ho hb7
 have hA0:=HAV.out w7 HD7.out
 obtain ⟨nu,hnu⟩:∃ q,(setB u 6).length = q:=⟨_,rfl⟩
 obtain ⟨nf,hnf⟩:∃ q,(setB f n).length = q:=⟨_,rfl⟩
 rw [hnu] at HU7 ⊢
 rw [hnf] at HF7 ⊢
 have HNU:=Lib.hid hnu
 have HNF:=Lib.hid hnf
 clear hnu hnf
 go_simp
 (refine hK _ _ ⟨hA0,fun h=>absurd (h.symm.trans (by kernel_rfl:_ = true)) Bool.false_ne_true⟩ ?_;clear hK K;(try simp only [Act.put,List.setIfInBounds_toArray,List.set_cons_zero,List.set_cons_succ]))
 refine uOne (i:=9) rfl (by kernel_rfl) (fun K hK=>?_)
 go_simp
 (refine hK _ _ ⟨hA0,fun h=>absurd (h.symm.trans (by kernel_rfl:_ = true)) Bool.false_ne_true⟩ ?_;clear hK K;(try simp only [Act.put,List.setIfInBounds_toArray,List.set_cons_zero,List.set_cons_succ]))
 refine uOne (i:=10) rfl (by kernel_rfl) (fun K hK=>?_)
 have kr:=HKR.out w7 HB7.out
 obtain ⟨p1,p2⟩:=kr.sets [.slice A na ca,.int .i64 (n:Int),.slice M nm cm,.slice E ne ce,.slice UA nu uc,.slice FA nf fc] (o:=0) (by simp)
 have p3:=kr.there (o:=0) (n:=6) (by simp)
 refine step_store rfl 34 (.tmp 2) (.tmp 16) rfl (w.heap.size + 1) 0 #[.slice A na ca,.int .i64 (n:Int),.slice M nm cm,.slice E ne ce,.slice UA nu uc,.slice FA nf fc] rfl rfl p3 pb_size (all_oneCell_toArray (fun y hy=>by simp at hy;rcases hy with rfl | rfl | rfl | rfl | rfl | rfl <;> rfl)) ?_
 have hlo:w.heap.size + 1 < w2.heap.size:=by have:=HS2.out;omega
 have HOF:=Lib.hid ((HO7.out.low p2 hlo).rd)
 have HUF:=Lib.hid (own_kept_low HU7.out p2 (by have:=HZ6.out;omega))
 have HFF:=Lib.hid (own_kept_low HF7.out p2 (by have:=HZ7.out;omega))
 have HP1:=Lib.hid (show Blk (w7.setCells (w.heap.size + 1) 0 [.slice A na ca,.int .i64 (n:Int),.slice M nm cm,.slice E ne ce,.slice UA nu uc,.slice FA nf fc]) (w.heap.size + 1) 34 [.slice A na ca,.int .i64 (n:Int),.slice M nm cm,.slice E ne ce,.slice UA nu uc,.slice FA nf fc] from p1)
 have HBF:=Lib.hid ((HB2.out.trans (HB7.out.mono HB2.out.size)).grown p2 (HB2.out.trans (HB7.out.mono HB2.out.size)).size (fun j e=>by injection e with e;subst e;omega))
 have HAF:=Lib.hid (show Below w4.heap.size w4 w7 from HD7.out)
 have hA9:C4 (w7.setCells (w.heap.size + 1) 0 [.slice A na ca,.int .i64 (n:Int),.slice M nm cm,.slice E ne ce,.slice UA nu uc,.slice FA nf fc]) ba (.slice A na ca) (.int .i64 (n:Int)) (.slice M nm cm) (.slice E ne ce)∧(w7.setCells (w.heap.size + 1) 0 [.slice A na ca,.int .i64 (n:Int),.slice M nm cm,.slice E ne ce,.slice UA nu uc,.slice FA nf fc]).cell? ⟨w.heap.size,26,none⟩ = some (.int .u8 u)∧(w7.setCells (w.heap.size + 1) 0 [.slice A na ca,.int .i64 (n:Int),.slice M nm cm,.slice E ne ce,.slice UA nu uc,.slice FA nf fc]).cell? ⟨w.heap.size,27,none⟩ = some (.int .u8 f):=by
  have k4:=(ka'.below HAF.out ka'.lt).kept p2 (fun e=>by injection e with e;exact blk_apart (ka'.below HAF.out ka'.lt) kr (by decide) e)
  have kx9:=(HKX.out w7 HB7.out).kept p2 (fun e=>by injection e with e;omega)
  exact ⟨Blk.c4 k4,kx9.cell HUC.out,kx9.cell HFC.out⟩
 (refine hK _ _ ⟨hA9,fun h=>absurd (h.symm.trans (by kernel_rfl:_ = true)) Bool.false_ne_true⟩ ?_;clear hK K;simp only [Act.put])
 refine anyU_done (by kernel_rfl) ?_ _
 clear hA0 hA9 hB0 p1 p2 p3 kr
 generalize w7.setCells (w.heap.size + 1) 0 [.slice A na ca,.int .i64 (n:Int),.slice M nm cm,.slice E ne ce,.slice UA nu uc,.slice FA nf fc] = w9 at HOF HUF HFF HP1 HBF ⊢
 have z0:=HP1.out.cell (j:=0) rfl
 have z1:=HP1.out.cell (j:=1) rfl
 have z2:=HP1.out.cell (j:=2) rfl
 have z3:=HP1.out.cell (j:=3) rfl
 have z4:=HP1.out.cell (j:=4) rfl
 have z5:=HP1.out.cell (j:=5) rfl
 go_wp2
 refine bodyPost_ret (v:=.agg #[.slice A na ca,.int .i64 (n:Int),.slice M nm cm,.slice E ne ce,.slice UA nu uc,.slice FA nf fc]) (by simp [results,Try.results11,go_sem,z0,z1,z2,z3,z4,z5]) rfl ?_
 have hst:(aut4 g).st = (n:Int):=by unfold aut4;rw [HN.out]
 refine ⟨⟨⟨A,na,ca,M,nm,cm,E,ne,ce,aut4 g⟩,⟨UA,nu,uc,setB u 6⟩,⟨FA,nf,fc,setB f n⟩⟩,?_,⟨HOF.out,⟨HNU.out,(own_cap' HUF.out).1,(own_cap' HUF.out).2,rdI_own HNU.out HUF.out⟩,⟨HNF.out,(own_cap' HFF.out).1,(own_cap' HFF.out).2,rdI_own HNF.out HFF.out⟩⟩,?_,HBF.out⟩
 ·unfold pbc;dsimp only;rw [hst]
 ·unfold PB.m prb4;dsimp only;rw [HN.out]
end Go.Proofs.Ytdnmpndnpfklcaa
/- The opening of a described problem (chapter 28); the union of bits. -/
namespace Go.Proofs.Ytdnmpndnpfklcaa
open Go.ChangeShapes Go.WideShapes Go.ChangeAt Go.RowKit Go.Deep Go
section
variable {H:Type} {enc:TypeId × Value → H} {W:World} {base:Nat} {spare:Nat → Bool} {held:Bool}
theorem row4_of {fuel:Nat} {cs:List Value} {x:DataW H × List MemPlace} (h:DataW.trod enc Try.prog W base spare held fuel 22 cs = some x):∀ j,j < 4 → ∃ z:Int,cs[j]? = some (.int .u8 z)∧0 ≤ z∧z ≤ 255:=by
 obtain ⟨xs,m,_,_,_,hn,hi⟩:=DataW.trod_array Try.underlying22 h
 intro j hj
 have h1:=hi j hj
 rw [show Try.prog.cellsOf 5 = 1 by kernel_rfl,Nat.mul_one,List.getElem?_eq_getElem (by omega:j < xs.length)] at h1
 obtain ⟨z,hz,_,hw⟩:=DataW.trod_int Try.underlying5 h1
 exact ⟨z,one_of hz,u8_wf hw⟩
theorem row24_of {fuel:Nat} {cs:List Value} {x:DataW H × List MemPlace} (h:DataW.trod enc Try.prog W base spare held fuel 23 cs = some x):∃ l:List Int,l.length = 24∧cs = l.map (Value.int .u8)∧∀ z ∈ l,0 ≤ z∧z ≤ 255:=by
 obtain ⟨xs,m,_,_,hl,hn,hi⟩:=DataW.trod_array Try.underlying23 h
 have hl24:cs.length = 24:=by rw [hl];kernel_rfl
 obtain ⟨l,hll,hp⟩:=list_of (P:=fun (k:Nat) (z:Int)=>cs[k]? = some (.int .u8 z)∧0 ≤ z∧z ≤ 255) 24 (fun k hk=>by
  have h1:=hi (k / 4) (by omega)
  rw [show Try.prog.cellsOf 22 = 4 by kernel_rfl,List.getElem?_eq_getElem (by omega:k / 4 < xs.length)] at h1
  obtain ⟨z,hz,hw⟩:=row4_of h1 (k % 4) (by omega)
  rw [List.getElem?_take,if_pos (by omega),List.getElem?_drop,show k / 4 * 4 + k % 4 = k by omega] at hz
  exact ⟨z,hz,hw⟩)
 refine ⟨l,hll,?_,fun z hz=>?_⟩
 ·refine List.ext_getElem? fun k=>?_
  rcases Nat.lt_or_ge k 24 with hk | hk
  ·have hg:l[k]? = some l[k]:=List.getElem?_eq_getElem (by omega)
   rw [(hp k _ hg).1]
   simp [hg]
  ·rw [List.getElem?_eq_none (by omega),List.getElem?_eq_none (by simp;omega)]
 ·obtain ⟨k,hk⟩:=List.getElem?_of_mem hz
  exact (hp k z hk).2
theorem small_of {fuel:Nat} {cs:List Value} {x:DataW H × List MemPlace} (h:DataW.trod enc Try.prog W base spare held fuel 25 cs = some x):∃ g:Sm4,g.ok∧cs = smc g:=by
 obtain ⟨y0,y1,y2,n,_,hl,h0,h1,h2⟩:=trod_struct3 Try.underlying25 h
 have hl26:cs.length = 26:=by rw [hl];kernel_rfl
 obtain ⟨st,hs,hsr⟩:=cells_one Try.underlying5 (by kernel_rfl) h0
 obtain ⟨mb,hm,hmr⟩:=cells_one Try.underlying5 (by kernel_rfl) h1
 simp only at hs hm
 rw [show Try.prog.cellsOf 23 = 24 by kernel_rfl] at h2
 obtain ⟨tg,ht,hto,htr⟩:=row24_of h2
 refine ⟨⟨st,mb,tg⟩,⟨hsr,hmr,ht,htr⟩,?_⟩
 have e1:=cons_of hs
 have e2:cs.drop 1 = .int .u8 mb :: (cs.drop 1).drop 1:=cons_of (by rw [List.getElem?_drop];exact hm)
 rw [e1,e2,List.drop_drop]
 show _ = Value.int .u8 st :: Value.int .u8 mb :: tg.map (Value.int .u8)
 rw [← hto,List.take_of_length_le (by rw [List.length_drop];simp only;omega)]
end
section
variable {H:Type} {enc:TypeId × Value → H} {W:World} {spare:Nat → Bool} {held:Bool}
set_option maxRecDepth 100000 in
theorem sp4Arg_of {b0:Nat} {v:Value} {d:DataW H} {p:List MemPlace} (hv:Value.okWide Try.prog W .any b0 27 v) (h:DataW.Trod enc Try.prog W 0 spare held 27 v d p):∃ (g:Sm4) (u f:Int),(g.ok∧(0 ≤ u∧u ≤ 255)∧0 ≤ f∧f ≤ 255)∧v = .agg (sp4 g u f).toArray:=by
 obtain ⟨cs,rfl,hsz⟩:=okWide_struct Try.underlying27 hv
 obtain ⟨fuel,hf⟩:=h
 have hf:DataW.trod enc Try.prog W 0 spare held fuel 27 cs.toList = some (d,p):=hf
 obtain ⟨y0,y1,y2,n,_,hl,h0,h1,h2⟩:=trod_struct3 Try.underlying27 hf
 have hl28:cs.toList.length = 28:=by rw [hl];kernel_rfl
 rw [show Try.prog.cellsOf 25 = 26 by kernel_rfl] at h0
 obtain ⟨g,hg,hc0⟩:=small_of h0
 obtain ⟨u,hu,hur⟩:=cells_one Try.underlying5 (by kernel_rfl) h1
 obtain ⟨f,hff,hfr⟩:=cells_one Try.underlying5 (by kernel_rfl) h2
 simp only at hu hff
 refine ⟨g,u,f,⟨hg,hur,hfr⟩,?_⟩
 have e:cs.toList = sp4 g u f:=by
  unfold sp4
  rw [← hc0]
  have k1:cs.toList.drop 26 = .int .u8 u :: (cs.toList.drop 26).drop 1:=cons_of (by rw [List.getElem?_drop];exact hu)
  have k2:cs.toList.drop 27 = .int .u8 f :: (cs.toList.drop 27).drop 1:=cons_of (by rw [List.getElem?_drop];exact hff)
  rw [List.drop_drop] at k1 k2
  have k3:cs.toList.drop 28 = []:=List.drop_eq_nil_of_le (by omega)
  rw [show 27 + 1 = 28 from rfl,k3] at k2
  rw [show 26 + 1 = 27 from rfl,k2] at k1
  rw [← k1,List.drop_zero,List.take_append_drop]
 rw [← e,Array.toArray_toList]
end
end Go.Proofs.Ytdnmpndnpfklcaa

/- Synthesis's problem in memory; walk: synthesis.start. -/
namespace Go.Proofs.Ytdnmpndnpfklcaa
open Go.RowKit Go Go.Maps
structure InF (B:Nat) (w0 w:World) (o n:Nat) (es:List Ed) (g:Int → Option Hd):Prop where
 bel:Below B w0 w
 siz:B ≤ w.heap.size
 tab:TabH Try.prog 3 (Value.int .i64) w o n g
 lt:B ≤ o
 row:∀ t,w.ownsRow B 3 1 (hvl (g t)) (preL es t).length (iv ((preL es t).map Ed.f))
 apt:∀ t u h k,g t = some h → g u = some k → h.1 = k.1 → t = u
section
variable {B:Nat} {w0 w w':World} {o n:Nat} {es:List Ed} {g:Int → Option Hd}
theorem InF.quiet (h:InF B w0 w o n es g) (hb:Below w.heap.size w w'):InF B w0 w' o n es g :=
 ⟨h.bel.trans (hb.mono h.siz),Nat.le_trans h.siz hb.size,h.tab.below hb,h.lt,fun t=>own_below (h.row t) hb,h.apt⟩
theorem InF.step (h:InF B w0 w o n es g) {x:Ed} {gb c:Nat} {w1 w2:World}
  (ho:w1.ownsRow B 3 1 (.slice (some ⟨gb,0,none⟩) ((preL es x.t).length + 1) c) ((preL es x.t).length + 1) (iv ((preL es x.t).map Ed.f) ++ [.int .i64 x.f])) (hg:w.grownBy w1 (hvl (g x.t)).ownBlock)
  (hgb:(hvl (g x.t)).ownBlock = some gb ∨ w.heap.size ≤ gb)
  (ht:TabH Try.prog 3 (Value.int .i64) w2 o (n + 1) (fun u=>if u = x.t then some (gb,(preL es x.t).length + 1,c) else g u)) (hg2:w1.grownBy w2 (some o)) :
  InF B w0 w2 o (n + 1) (es ++ [x]) (fun u=>if u = x.t then some (gb,(preL es x.t).length + 1,c) else g u):=by
 have htab1:=h.tab.kept hg (h.tab.ne (h.row x.t))
 have hb1:Below B w0 w1:=h.bel.grown hg h.siz (fun j hj=>((h.row x.t).lt j hj).1)
 have hs1:=Nat.le_trans h.siz hg.size
 refine ⟨hb1.grown hg2 hs1 (fun j hj=>by injection hj with hj;have:=h.lt;omega),Nat.le_trans hs1 hg2.size,ht,h.lt,fun t=>?_,?_⟩
 ·rw [preL_snoc]
  by_cases hx:x.t = t
  ·subst hx
   rw [if_pos rfl,if_pos rfl,List.map_append,iv_append,List.length_append]
   exact ho.kept hg2 (.inr (fun e=>htab1.ne ho e.symm))
  ·have hx':¬ t = x.t:=fun e=>hx e.symm
   rw [if_neg hx,if_neg hx']
   have h1:w1.ownsRow B 3 1 (hvl (g t)) (preL es t).length (iv ((preL es t).map Ed.f)):=by
    refine (h.row t).kept hg ?_
    cases hgt:g t with
    | none=>exact .inl rfl
    | some k =>
     refine .inr ?_
     intro e
     cases hgx:g x.t with
     | none=>rw [hgx] at e;cases e
     | some k2 =>
      rw [hgx] at e
      have:k.1 = k2.1:=by simpa [hvl,Value.ownBlock] using e
      exact hx (h.apt _ _ _ _ hgt hgx this).symm
   exact h1.kept hg2 (.inr (fun e=>htab1.ne h1 e.symm))
 ·have key:∀ u k,u ≠ x.t → g u = some k → k.1 ≠ gb:=by
   intro u k hu hk e
   rcases hgb with h9 | h9
   ·cases hgx:g x.t with
    | none=>rw [hgx] at h9;cases h9
    | some k2 =>
     rw [hgx] at h9
     have:k2.1 = gb:=by simpa [hvl,Value.ownBlock] using h9
     exact hu (h.apt _ _ _ _ hk hgx (by omega))
   ·have h8:=h.row u
    rw [hk] at h8
    have:=(h8.lt k.1 rfl).2
    omega
  intro t u h1 k1 e1 e2 e3
  by_cases ht1:t = x.t
  ·rw [if_pos ht1] at e1
   by_cases hu1:u = x.t
   ·rw [ht1,hu1]
   ·rw [if_neg hu1] at e2
    injection e1 with e1
    subst e1
    exact absurd e3.symm (key u k1 hu1 e2)
  ·rw [if_neg ht1] at e1
   by_cases hu1:u = x.t
   ·rw [if_pos hu1] at e2
    injection e2 with e2
    subst e2
    exact absurd e3 (key t h1 ht1 e1)
   ·rw [if_neg hu1] at e2
    exact h.apt _ _ _ _ e1 e2 e3
theorem InF.rdx (h:InF B w0 w o n es g) (t:Int):∃ (A:Option Addr) (c:Nat),hvl (g t) = .slice A (preL es t).length c∧RdI w w.heap.size A ((preL es t).map Ed.f):=by
 have h1:=h.row t
 obtain ⟨A,c,e⟩:=own_shape h1
 rw [e] at h1
 exact ⟨A,c,e,RdI.of_own h1⟩
theorem InF.rdx_at {t:Int} {A:Option Addr} {m c:Nat} (h:InF B w0 w o n es g) (e:hvl (g t) = .slice A m c):RdI w w.heap.size A ((preL es t).map Ed.f):=by
 obtain ⟨A',c',e',h1⟩:=h.rdx t
 rw [e] at e'
 injection e' with e1 e2 e3
 rw [e1]
 exact h1
theorem InF.kept {b:Nat} {t:TypeId} {vs:List Value} (h:InF B w0 w o n es g) (hg:w.grownBy w' (some b)) (hk:Blk w b t vs) (ht:3 ≠ t) (hb:B ≤ b):InF B w0 w' o n es g :=
 ⟨h.bel.grown hg h.siz (fun j hj=>by injection hj with hj;omega),Nat.le_trans h.siz hg.size,h.tab.kept hg (fun e=>by injection e with e;exact h.tab.neB hk e),h.lt,fun t=>(h.row t).kept hg (own_ne_blk (h.row t) hk ht),h.apt⟩
theorem InF.keptO {B' m sz:Nat} {e:TypeId} {v:Value} {xs:List Value} (h:InF B w0 w o n es g) (ho:w.ownsRow B' e sz v m xs) (hg:w.grownBy w' v.ownBlock) (he:3 ≠ e) (hB:B ≤ B'):InF B w0 w' o n es g :=
 ⟨h.bel.grown hg h.siz (fun j hj=>by have:=(ho.lt j hj).1;omega),Nat.le_trans h.siz hg.size,h.tab.kept hg (h.tab.ne ho),h.lt,fun t=>own_kept_ne (h.row t) ho he hg,h.apt⟩
end
def syc (x:AV) (u:IV) (o lb n:Nat):List Value:=[.slice x.A x.na x.ca,.int .i64 (n:Int),.slice x.M x.nm x.cm,.slice x.E x.ne x.ce,.slice u.A u.n u.c,.map (some o),.slice (some ⟨lb,0,none⟩) n n]
structure StM (w:World) (x:AV) (u:IV) (pb o lb n:Nat) (W:World) (m:Nat) (es:List Ed) (g:Int → Option Hd) (N:List Bool):Prop where
 kp:Blk W pb 157 (syc x u o lb n)
 kl:Blk W lb 4 (bvl N)
 nl:N.length = n
 into:InF w.heap.size w W o m es g
 l1:w.heap.size ≤ pb
 l2:w.heap.size ≤ lb
section
variable {w W W':World} {x:AV} {u:IV} {pb o lb n m:Nat} {es:List Ed} {g:Int → Option Hd} {N:List Bool}
theorem StM.quiet (h:StM w x u pb o lb n W m es g N) (hb:Below W.heap.size W W'):StM w x u pb o lb n W' m es g N :=
 ⟨h.kp.below hb h.kp.lt,h.kl.below hb h.kl.lt,h.nl,h.into.quiet hb,h.l1,h.l2⟩
theorem StM.set (h:StM w x u pb o lb n W m es g N) {s:Nat} (hs:s < n) (b:Bool):StM w x u pb o lb n (W.setCell ⟨lb,s,none⟩ (.bool b)) m es g (N.set s b):=by
 have hg:=grown_setCell W lb s (.bool b)
 refine ⟨h.kp.kept hg (fun e=>by injection e with e;exact blk_apart h.kp h.kl (by decide) e),?_,by rw [List.length_set];exact h.nl,h.into.kept hg h.kl (by decide) h.l2,h.l1,h.l2⟩
 have:=h.kl.set (j:=s) (by rw [bvl_length,h.nl];exact hs) (.bool b)
 rwa [bvl_set] at this
theorem StM.kept (h:StM w x u pb o lb n W m es g N) {b:Nat} {t:TypeId} {vs:List Value} (hg:W.grownBy W' (some b)) (hk:Blk W b t vs) (h1:t ≠ 157) (h2:t ≠ 4) (h3:t ≠ 3) (hb:w.heap.size ≤ b):StM w x u pb o lb n W' m es g N :=
 ⟨h.kp.kept hg (fun e=>by injection e with e;exact blk_apart hk h.kp h1 e.symm),h.kl.kept hg (fun e=>by injection e with e;exact blk_apart hk h.kl h2 e.symm),h.nl,h.into.kept hg hk (fun e=>h3 e.symm) hb,h.l1,h.l2⟩
theorem StM.keptO (h:StM w x u pb o lb n W m es g N) {B' k sz:Nat} {e:TypeId} {v:Value} {xs:List Value} (ho:W.ownsRow B' e sz v k xs) (hg:W.grownBy W' v.ownBlock) (h1:e ≠ 157) (h2:e ≠ 4) (h3:e ≠ 3) (hB:w.heap.size ≤ B'):StM w x u pb o lb n W' m es g N :=
 ⟨h.kp.kept hg (blk_ne_own ho h.kp h1),h.kl.kept hg (blk_ne_own ho h.kl h2),h.nl,h.into.keptO ho hg (fun e=>h3 e.symm) hB,h.l1,h.l2⟩
end
end Go.Proofs.Ytdnmpndnpfklcaa

/- The law's Make of chapter 28. -/
import Derived.Test.YtdnmpndnpfklcaaBa
import Derived.Test.YtdnmpndnpfklcaaRow
import Derived.Test.YtdnmpndnpfklcaaMi
import Derived.Deep.Strs
import Derived.Laws.BitsAllLaws
import Derived.WalkKit
import Derived.ProofKit
import Derived.OpenShut
import Derived.Test.YtdnmpndnpfklcaaAa
import Derived.Maps.OwnOps

namespace Go.Proofs.Ytdnmpndnpfklcaa
open Go.RowKit Go Go.Maps
def sp4 (g:Sm4) (u f:Int):List Value:=smc g ++ [.int .u8 u,.int .u8 f]
theorem smc_len {g:Sm4} (h:g.ok):(smc g).length = 26:=by unfold smc;simp [h.len]
theorem pb_size:(Try.prog.info? 34).map (·.size) = some 6:=by kernel_rfl
set_option maxRecDepth 100000 in
set_option maxHeartbeats 3200000 in
theorem law_Make28 (g:Sm4) (u f:Int) (w:World) (hg:g.ok) (hu:0 ≤ u∧u ≤ 255) (hf:0 ≤ f∧f ≤ 255) :
  Calls Try.prog 11 #[.agg (sp4 g u f).toArray] w fun e w'=>∃ z:PB,e = .returned (.agg (pbc z).toArray)∧z.ok w' w'.heap.size∧z.m = prb4 g u f∧Below w.heap.size w w':=by
 have hlen:=smc_len hg
 have hb1:=box_below w (.cells (sp4 g u f).toArray 27)
 have kx:=Blk.new w 27 (sp4 g u f)
 obtain ⟨w1,hw1⟩:∃ w1,w1 = w.alloc (.cells (sp4 g u f).toArray 27):=⟨_,rfl⟩
 rw [← hw1] at hb1 kx
 have hb2:=box_below w1 (.cells #[.slice none 0 0,.int .i64 0,.slice none 0 0,.slice none 0 0,.slice none 0 0,.slice none 0 0] 34)
 have kr:Blk (w1.alloc (.cells #[.slice none 0 0,.int .i64 0,.slice none 0 0,.slice none 0 0,.slice none 0 0,.slice none 0 0] 34)) w1.heap.size 34 [.slice none 0 0,.int .i64 0,.slice none 0 0,.slice none 0 0,.slice none 0 0,.slice none 0 0]:=Blk.new _ _ [_,_,_,_,_,_]
 have hs1:w1.heap.size = w.heap.size + 1:=by rw [hw1];simp
 rw [hs1] at kr
 obtain ⟨w2,hw2⟩:∃ w2,w2 = w1.alloc (.cells #[.slice none 0 0,.int .i64 0,.slice none 0 0,.slice none 0 0,.slice none 0 0,.slice none 0 0] 34):=⟨_,rfl⟩
 have hs2:w2.heap.size = w.heap.size + 1 + 1:=by rw [hw2];simp [hs1]
 rw [← hw2] at hb2 kr
 have hb12:=hb1.trans (hb2.mono hb1.size)
 have kx2:=kx.below hb2 kx.lt
 have HKX:=Lib.hid (fun (W:World) (hb:Below w2.heap.size w2 W)=>kx2.below hb kx2.lt)
 have HKR:=Lib.hid (fun (W:World) (hb:Below w2.heap.size w2 W)=>kr.below hb kr.lt)
 have HB2:=Lib.hid hb12
 have HS2:=Lib.hid hs2
 have HW2:=Lib.hid (show (w.alloc (.cells (sp4 g u f).toArray 27)).alloc (.cells #[.slice none 0 0,.int .i64 0,.slice none 0 0,.slice none 0 0,.slice none 0 0,.slice none 0 0] 34) = w2 by rw [hw2,hw1])
 have hrg:w2.rangeAt w.heap.size 0 (smc g):=fun j v hj=>by
  rw [Nat.zero_add]
  refine kx2.cell ?_
  unfold sp4
  rw [List.getElem?_append_left (List.getElem?_eq_some_iff.1 hj).1,hj]
 have HLN:=Lib.hid hlen
 have HMK:=Lib.hid (law_Make4 g w2 hg)
 have HU:=Lib.hid hu
 have HF:=Lib.hid hf
 have HUC:=Lib.hid (show (sp4 g u f)[26]? = some (.int .u8 u) by unfold sp4;rw [List.getElem?_append_right (by omega),hlen];rfl)
 have HFC:=Lib.hid (show (sp4 g u f)[27]? = some (.int .u8 f) by unfold sp4;rw [List.getElem?_append_right (by omega),hlen];rfl)
 clear hb1 kx hw1 hb2 kr hw2 hs1 hb12 kx2 hs2 hg hlen hu hf
 go_enter Try.func11,Try.ntmps11
 go_upto_region 1 with fail
 rw [HW2.out]
 go_wp2_with (first | (refine wpList_load_mid rfl 25 (.tmp 4) rfl w.heap.size 0 rfl (smc g) _ hrg Try.underlying25 rfl (by rw [HLN.out];kernel_rfl) ?_) | fail)
 refine HMK.out.mono ?_
 rintro e w3 ⟨⟨A,na,ca,M,nm,cm,E,ne,ce,a⟩,rfl,hx,ha,hb3⟩
 dsimp only at ha hx ⊢
 subst ha
 obtain ⟨n,hn⟩:∃ n,g.n = n:=⟨_,rfl⟩
 have hst:(aut4 g).st = (n:Int):=by unfold aut4;rw [hn]
 rw [hst]
 have hn6:=g.n_le
 rw [hn] at hn6
 have HN:=Lib.hid hn
 clear hrg HMK hn hst
 have hba:=box_below w3 (.cells #[.slice A na ca,.int .i64 (n:Int),.slice M nm cm,.slice E ne ce] 32)
 have ka:=Blk.new w3 32 [.slice A na ca,.int .i64 (n:Int),.slice M nm cm,.slice E ne ce]
 have HO4:=Lib.hid (hx.below hba)
 have HB4:=Lib.hid (hb3.trans (hba.mono hb3.size))
 go_upto_region 2 with fail
 obtain ⟨ba,hbae⟩:∃ b,w3.heap.size = b:=⟨_,rfl⟩
 rw [hbae] at ka ⊢
 have ka':Blk (w3.alloc (.cells #[.slice A na ca,.int .i64 (n:Int),.slice M nm cm,.slice E ne ce] 32)) ba 32 [.slice A na ca,.int .i64 (n:Int),.slice M nm cm,.slice E ne ce]:=ka
 clear hba ka hbae hx hb3
 generalize w3.alloc (.cells #[.slice A na ca,.int .i64 (n:Int),.slice M nm cm,.slice E ne ce] 32) = w4 at ka' HO4 HB4 ⊢
 have HBD:=Lib.hid (HB4.out.trans ((below_dr w4).mono HB4.out.size))
 have HAV:=Lib.hid (fun (V:World) (hb:Below w4.heap.size w4 V)=>And.intro (Blk.c4 (ka'.below hb ka'.lt)) (And.intro ((HKX.out V (HB4.out.trans (hb.mono HB4.out.size))).cell HUC.out) ((HKX.out V (HB4.out.trans (hb.mono HB4.out.size))).cell HFC.out)))
 refine wp_region_U (fun V=>C4 V ba (.slice A na ca) (.int .i64 (n:Int)) (.slice M nm cm) (.slice E ne ce)∧V.cell? ⟨w.heap.size,26,none⟩ = some (.int .u8 u)∧V.cell? ⟨w.heap.size,27,none⟩ = some (.int .u8 f)) (fun _=>True) 99 (by kernel_rfl) ?_
 change anyU _ _ _ _ _ _ _ 11 _ _ _
 have HD:=Lib.hid (below_dr w4)
 have HO5:=Lib.hid (HO4.out.below (below_dr w4))
 generalize w4.drew = w5 at HD HBD HO5 ⊢
 have hA0:=HAV.out w5 HD.out
 have hB0:True:=trivial
 (refine uA 0 ?_ rfl hA0 hB0 (fun W hA=>?_) ?_;rotate_left;(· (obtain ⟨⟨a0,a1,a2,a3⟩,_⟩:=hA;go_simp;try with_reducible rfl));(try simp only [Act.put,List.setIfInBounds_toArray,List.set_cons_zero,List.set_cons_succ]))
 (refine uA 1 ?_ rfl hA0 hB0 (fun W hA=>?_) ?_;rotate_left;(· (go_simp;try with_reducible rfl));(try simp only [Act.put,List.setIfInBounds_toArray,List.set_cons_zero,List.set_cons_succ]))
 (refine uA 2 ?_ rfl hA0 hB0 (fun W hA=>?_) ?_;rotate_left;(· (obtain ⟨_,a4,a5⟩:=hA;go_simp;try with_reducible rfl));(try simp only [Act.put,List.setIfInBounds_toArray,List.set_cons_zero,List.set_cons_succ]))
 (refine uA 4 ?_ rfl hA0 hB0 (fun W hA=>?_) ?_;rotate_left;(· (go_simp;try with_reducible rfl));(try simp only [Act.put,List.setIfInBounds_toArray,List.set_cons_zero,List.set_cons_succ]))
 (refine uA 5 ?_ rfl hA0 hB0 (fun W hA=>?_) ?_;rotate_left;(· (obtain ⟨_,a4,a5⟩:=hA;go_simp;try with_reducible rfl));(try simp only [Act.put,List.setIfInBounds_toArray,List.set_cons_zero,List.set_cons_succ]))
 (refine uA 6 ?_ rfl hA0 hB0 (fun W hA=>?_) ?_;rotate_left;(· (go_simp;try with_reducible rfl));(try simp only [Act.put,List.setIfInBounds_toArray,List.set_cons_zero,List.set_cons_succ]))
 (refine uA 7 ?_ rfl hA0 hB0 (fun W hA=>?_) ?_;rotate_left;(· (obtain ⟨⟨a0,a1,a2,a3⟩,_⟩:=hA;go_simp;try with_reducible rfl));(try simp only [Act.put,List.setIfInBounds_toArray,List.set_cons_zero,List.set_cons_succ]))
 refine uOne (i:=3) rfl (by kernel_rfl) (fun K hK=>?_)
 go_simp
 go_at_call 26
 refine (law_Bits u 6 w5 HU.out (by omega)).mono ?_
 rintro e w6 ⟨v,rfl,ho,hb6⟩
 obtain ⟨UA,uc,rfl⟩:=own_shape ho
 have HD6:=Lib.hid (HD.out.trans (hb6.mono HD.out.size))
 have HU6:=Lib.hid ho
 have HO6:=Lib.hid (HO5.out.below hb6)
 have HB6:=Lib.hid (HBD.out.trans (hb6.mono HBD.out.size))
 have HZ6:=Lib.hid (show w2.heap.size ≤ w5.heap.size from HBD.out.size)
 clear hA0 ho hb6
 have hA0:=HAV.out w6 HD6.out
 go_simp
 (refine hK _ _ ⟨hA0,fun h=>absurd (h.symm.trans (by kernel_rfl:_ = true)) Bool.false_ne_true⟩ ?_;clear hK K;(try simp only [Act.put,List.setIfInBounds_toArray,List.set_cons_zero,List.set_cons_succ]))
 refine uOne (i:=8) rfl (by kernel_rfl) (fun K hK=>?_)
 go_simp
 go_at_call 26
 refine (law_Bits f n w6 HF.out (by omega)).mono ?_
 rintro e w7 ⟨v,rfl,ho,hb7⟩
 obtain ⟨FA,fc,rfl⟩:=own_shape ho
 have HD7:=Lib.hid (HD6.out.trans (hb7.mono HD6.out.size))
 have HF7:=Lib.hid ho
 have HU7:=Lib.hid (own_below HU6.out hb7)
 have HO7:=Lib.hid (HO6.out.below hb7)
 have HB7:=Lib.hid (HB6.out.trans (hb7.mono HB6.out.size))
 have HZ7:=Lib.hid (show w2.heap.size ≤ w6.heap.size from HB6.out.size)
 clear hA0 ho hb7
 have hA0:=HAV.out w7 HD7.out
 obtain ⟨nu,hnu⟩:∃ q,(setB u 6).length = q:=⟨_,rfl⟩
 obtain ⟨nf,hnf⟩:∃ q,(setB f n).length = q:=⟨_,rfl⟩
 rw [hnu] at HU7 ⊢
 rw [hnf] at HF7 ⊢
 have HNU:=Lib.hid hnu
 have HNF:=Lib.hid hnf
 clear hnu hnf
 go_simp
 (refine hK _ _ ⟨hA0,fun h=>absurd (h.symm.trans (by kernel_rfl:_ = true)) Bool.false_ne_true⟩ ?_;clear hK K;(try simp only [Act.put,List.setIfInBounds_toArray,List.set_cons_zero,List.set_cons_succ]))
 refine uOne (i:=9) rfl (by kernel_rfl) (fun K hK=>?_)
 go_simp
 (refine hK _ _ ⟨hA0,fun h=>absurd (h.symm.trans (by kernel_rfl:_ = true)) Bool.false_ne_true⟩ ?_;clear hK K;(try simp only [Act.put,List.setIfInBounds_toArray,List.set_cons_zero,List.set_cons_succ]))
 refine uOne (i:=10) rfl (by kernel_rfl) (fun K hK=>?_)
 have kr:=HKR.out w7 HB7.out
 obtain ⟨p1,p2⟩:=kr.sets [.slice A na ca,.int .i64 (n:Int),.slice M nm cm,.slice E ne ce,.slice UA nu uc,.slice FA nf fc] (o:=0) (by simp)
 have p3:=kr.there (o:=0) (n:=6) (by simp)
 refine step_store rfl 34 (.tmp 2) (.tmp 16) rfl (w.heap.size + 1) 0 #[.slice A na ca,.int .i64 (n:Int),.slice M nm cm,.slice E ne ce,.slice UA nu uc,.slice FA nf fc] rfl rfl p3 pb_size (all_oneCell_toArray (fun y hy=>by simp at hy;rcases hy with rfl | rfl | rfl | rfl | rfl | rfl <;> rfl)) ?_
 have hlo:w.heap.size + 1 < w2.heap.size:=by have:=HS2.out;omega
 have HOF:=Lib.hid ((HO7.out.low p2 hlo).rd)
 have HUF:=Lib.hid (own_kept_low HU7.out p2 (by have:=HZ6.out;omega))
 have HFF:=Lib.hid (own_kept_low HF7.out p2 (by have:=HZ7.out;omega))
 have HP1:=Lib.hid (show Blk (w7.setCells (w.heap.size + 1) 0 [.slice A na ca,.int .i64 (n:Int),.slice M nm cm,.slice E ne ce,.slice UA nu uc,.slice FA nf fc]) (w.heap.size + 1) 34 [.slice A na ca,.int .i64 (n:Int),.slice M nm cm,.slice E ne ce,.slice UA nu uc,.slice FA nf fc] from p1)
 have HBF:=Lib.hid ((HB2.out.trans (HB7.out.mono HB2.out.size)).grown p2 (HB2.out.trans (HB7.out.mono HB2.out.size)).size (fun j e=>by injection e with e;subst e;omega))
 have HAF:=Lib.hid (show Below w4.heap.size w4 w7 from HD7.out)
 have hA9:C4 (w7.setCells (w.heap.size + 1) 0 [.slice A na ca,.int .i64 (n:Int),.slice M nm cm,.slice E ne ce,.slice UA nu uc,.slice FA nf fc]) ba (.slice A na ca) (.int .i64 (n:Int)) (.slice M nm cm) (.slice E ne ce)∧(w7.setCells (w.heap.size + 1) 0 [.slice A na ca,.int .i64 (n:Int),.slice M nm cm,.slice E ne ce,.slice UA nu uc,.slice FA nf fc]).cell? ⟨w.heap.size,26,none⟩ = some (.int .u8 u)∧(w7.setCells (w.heap.size + 1) 0 [.slice A na ca,.int .i64 (n:Int),.slice M nm cm,.slice E ne ce,.slice UA nu uc,.slice FA nf fc]).cell? ⟨w.heap.size,27,none⟩ = some (.int .u8 f):=by
  have k4:=(ka'.below HAF.out ka'.lt).kept p2 (fun e=>by injection e with e;exact blk_apart (ka'.below HAF.out ka'.lt) kr (by decide) e)
  have kx9:=(HKX.out w7 HB7.out).kept p2 (fun e=>by injection e with e;omega)
  exact ⟨Blk.c4 k4,kx9.cell HUC.out,kx9.cell HFC.out⟩
 (refine hK _ _ ⟨hA9,fun h=>absurd (h.symm.trans (by kernel_rfl:_ = true)) Bool.false_ne_true⟩ ?_;clear hK K;simp only [Act.put])
 refine anyU_done (by kernel_rfl) ?_ _
 clear hA0 hA9 hB0 p1 p2 p3 kr
 generalize w7.setCells (w.heap.size + 1) 0 [.slice A na ca,.int .i64 (n:Int),.slice M nm cm,.slice E ne ce,.slice UA nu uc,.slice FA nf fc] = w9 at HOF HUF HFF HP1 HBF ⊢
 have z0:=HP1.out.cell (j:=0) rfl
 have z1:=HP1.out.cell (j:=1) rfl
 have z2:=HP1.out.cell (j:=2) rfl
 have z3:=HP1.out.cell (j:=3) rfl
 have z4:=HP1.out.cell (j:=4) rfl
 have z5:=HP1.out.cell (j:=5) rfl
 go_wp2
 refine bodyPost_ret (v:=.agg #[.slice A na ca,.int .i64 (n:Int),.slice M nm cm,.slice E ne ce,.slice UA nu uc,.slice FA nf fc]) (by simp [results,Try.results11,go_sem,z0,z1,z2,z3,z4,z5]) rfl ?_
 have hst:(aut4 g).st = (n:Int):=by unfold aut4;rw [HN.out]
 refine ⟨⟨⟨A,na,ca,M,nm,cm,E,ne,ce,aut4 g⟩,⟨UA,nu,uc,setB u 6⟩,⟨FA,nf,fc,setB f n⟩⟩,?_,⟨HOF.out,⟨HNU.out,(own_cap' HUF.out).1,(own_cap' HUF.out).2,rdI_own HNU.out HUF.out⟩,⟨HNF.out,(own_cap' HFF.out).1,(own_cap' HFF.out).2,rdI_own HNF.out HFF.out⟩⟩,?_,HBF.out⟩
 ·unfold pbc;dsimp only;rw [hst]
 ·unfold PB.m prb4;dsimp only;rw [HN.out]
end Go.Proofs.Ytdnmpndnpfklcaa
/- The opening of a described problem (chapter 28); the union of bits. -/
namespace Go.Proofs.Ytdnmpndnpfklcaa
open Go.ChangeShapes Go.WideShapes Go.ChangeAt Go.RowKit Go.Deep Go
section
variable {H:Type} {enc:TypeId × Value → H} {W:World} {base:Nat} {spare:Nat → Bool} {held:Bool}
theorem row4_of {fuel:Nat} {cs:List Value} {x:DataW H × List MemPlace} (h:DataW.trod enc Try.prog W base spare held fuel 22 cs = some x):∀ j,j < 4 → ∃ z:Int,cs[j]? = some (.int .u8 z)∧0 ≤ z∧z ≤ 255:=by
 obtain ⟨xs,m,_,_,_,hn,hi⟩:=DataW.trod_array Try.underlying22 h
 intro j hj
 have h1:=hi j hj
 rw [show Try.prog.cellsOf 5 = 1 by kernel_rfl,Nat.mul_one,List.getElem?_eq_getElem (by omega:j < xs.length)] at h1
 obtain ⟨z,hz,_,hw⟩:=DataW.trod_int Try.underlying5 h1
 exact ⟨z,one_of hz,u8_wf hw⟩
theorem row24_of {fuel:Nat} {cs:List Value} {x:DataW H × List MemPlace} (h:DataW.trod enc Try.prog W base spare held fuel 23 cs = some x):∃ l:List Int,l.length = 24∧cs = l.map (Value.int .u8)∧∀ z ∈ l,0 ≤ z∧z ≤ 255:=by
 obtain ⟨xs,m,_,_,hl,hn,hi⟩:=DataW.trod_array Try.underlying23 h
 have hl24:cs.length = 24:=by rw [hl];kernel_rfl
 obtain ⟨l,hll,hp⟩:=list_of (P:=fun (k:Nat) (z:Int)=>cs[k]? = some (.int .u8 z)∧0 ≤ z∧z ≤ 255) 24 (fun k hk=>by
  have h1:=hi (k / 4) (by omega)
  rw [show Try.prog.cellsOf 22 = 4 by kernel_rfl,List.getElem?_eq_getElem (by omega:k / 4 < xs.length)] at h1
  obtain ⟨z,hz,hw⟩:=row4_of h1 (k % 4) (by omega)
  rw [List.getElem?_take,if_pos (by omega),List.getElem?_drop,show k / 4 * 4 + k % 4 = k by omega] at hz
  exact ⟨z,hz,hw⟩)
 refine ⟨l,hll,?_,fun z hz=>?_⟩
 ·refine List.ext_getElem? fun k=>?_
  rcases Nat.lt_or_ge k 24 with hk | hk
  ·have hg:l[k]? = some l[k]:=List.getElem?_eq_getElem (by omega)
   rw [(hp k _ hg).1]
   simp [hg]
  ·rw [List.getElem?_eq_none (by omega),List.getElem?_eq_none (by simp;omega)]
 ·obtain ⟨k,hk⟩:=List.getElem?_of_mem hz
  exact (hp k z hk).2
theorem small_of {fuel:Nat} {cs:List Value} {x:DataW H × List MemPlace} (h:DataW.trod enc Try.prog W base spare held fuel 25 cs = some x):∃ g:Sm4,g.ok∧cs = smc g:=by
 obtain ⟨y0,y1,y2,n,_,hl,h0,h1,h2⟩:=trod_struct3 Try.underlying25 h
 have hl26:cs.length = 26:=by rw [hl];kernel_rfl
 obtain ⟨st,hs,hsr⟩:=cells_one Try.underlying5 (by kernel_rfl) h0
 obtain ⟨mb,hm,hmr⟩:=cells_one Try.underlying5 (by kernel_rfl) h1
 simp only at hs hm
 rw [show Try.prog.cellsOf 23 = 24 by kernel_rfl] at h2
 obtain ⟨tg,ht,hto,htr⟩:=row24_of h2
 refine ⟨⟨st,mb,tg⟩,⟨hsr,hmr,ht,htr⟩,?_⟩
 have e1:=cons_of hs
 have e2:cs.drop 1 = .int .u8 mb :: (cs.drop 1).drop 1:=cons_of (by rw [List.getElem?_drop];exact hm)
 rw [e1,e2,List.drop_drop]
 show _ = Value.int .u8 st :: Value.int .u8 mb :: tg.map (Value.int .u8)
 rw [← hto,List.take_of_length_le (by rw [List.length_drop];simp only;omega)]
end
section
variable {H:Type} {enc:TypeId × Value → H} {W:World} {spare:Nat → Bool} {held:Bool}
set_option maxRecDepth 100000 in
theorem sm4Arg_of {b0:Nat} {v:Value} {d:DataW H} {p:List MemPlace} (hv:Value.okWide Try.prog W .any b0 25 v) (h:DataW.Trod enc Try.prog W 0 spare held 25 v d p):∃ g:Sm4,g.ok∧v = .agg (smc g).toArray:=by
 obtain ⟨cs,rfl,hsz⟩:=okWide_struct Try.underlying25 hv
 obtain ⟨fuel,hf⟩:=h
 obtain ⟨g,hg,hc⟩:=small_of (show DataW.trod enc Try.prog W 0 spare held fuel 25 cs.toList = some (d,p) from hf)
 exact ⟨g,hg,by rw [← hc,Array.toArray_toList]⟩
set_option maxRecDepth 100000 in
theorem sp4Arg_of {b0:Nat} {v:Value} {d:DataW H} {p:List MemPlace} (hv:Value.okWide Try.prog W .any b0 27 v) (h:DataW.Trod enc Try.prog W 0 spare held 27 v d p):∃ (g:Sm4) (u f:Int),(g.ok∧(0 ≤ u∧u ≤ 255)∧0 ≤ f∧f ≤ 255)∧v = .agg (sp4 g u f).toArray:=by
 obtain ⟨cs,rfl,hsz⟩:=okWide_struct Try.underlying27 hv
 obtain ⟨fuel,hf⟩:=h
 have hf:DataW.trod enc Try.prog W 0 spare held fuel 27 cs.toList = some (d,p):=hf
 obtain ⟨y0,y1,y2,n,_,hl,h0,h1,h2⟩:=trod_struct3 Try.underlying27 hf
 have hl28:cs.toList.length = 28:=by rw [hl];kernel_rfl
 rw [show Try.prog.cellsOf 25 = 26 by kernel_rfl] at h0
 obtain ⟨g,hg,hc0⟩:=small_of h0
 obtain ⟨u,hu,hur⟩:=cells_one Try.underlying5 (by kernel_rfl) h1
 obtain ⟨f,hff,hfr⟩:=cells_one Try.underlying5 (by kernel_rfl) h2
 simp only at hu hff
 refine ⟨g,u,f,⟨hg,hur,hfr⟩,?_⟩
 have e:cs.toList = sp4 g u f:=by
  unfold sp4
  rw [← hc0]
  have k1:cs.toList.drop 26 = .int .u8 u :: (cs.toList.drop 26).drop 1:=cons_of (by rw [List.getElem?_drop];exact hu)
  have k2:cs.toList.drop 27 = .int .u8 f :: (cs.toList.drop 27).drop 1:=cons_of (by rw [List.getElem?_drop];exact hff)
  rw [List.drop_drop] at k1 k2
  have k3:cs.toList.drop 28 = []:=List.drop_eq_nil_of_le (by omega)
  rw [show 27 + 1 = 28 from rfl,k3] at k2
  rw [show 26 + 1 = 27 from rfl,k2] at k1
  rw [← k1,List.drop_zero,List.take_append_drop]
 rw [← e,Array.toArray_toList]
end
end Go.Proofs.Ytdnmpndnpfklcaa

/- Words on maps with bool elements that the call has made: a set. Any program. -/
namespace Go.Proofs.Ytdnmpndnpfklcaa
open Go.RowKit Go Go.Maps
def TabB {α:Type} (P:Program) (K E:TypeId) (key:α → Value) (w:World) (b n:Nat) (g:α → Bool):Prop :=
 ∃ D:DataW Unit,w.ownsMap P K (plainElem P E) b n D∧∀ a kl,keyOf P K (key a) = some kl → D.atKey kl (.lit (.bool false)) = .lit (.bool (g a))
theorem plainElem_bool_out {H:Type} {P:Program} {e:TypeId} (he:P.underlying e = some .bool) {v:Value} {z:DataW H × List MemPlace} (h:plainElem P e v = some z):∃ x,v = .bool x∧z = (.lit (.bool x),[]):=by
 unfold plainElem at h
 rw [he] at h
 cases v <;> simp at h
 exact ⟨_,rfl,h.symm⟩
section
variable {α:Type} {P:Program} {K E:TypeId} {key:α → Value} {w w':World} {b n:Nat} {g:α → Bool}
theorem TabB.made (w:World) (P:Program) (K E:TypeId) (key:α → Value):TabB P K E key (w.alloc (.map #[] 0)) w.heap.size 0 (fun _=>false) :=
 ⟨_,World.ownsMap_made _ _ _ _,fun a kl _=>by
  have h:Maps.has (DataW.map []:DataW Unit) kl = false:=by simp [Maps.has_eq]
  exact Maps.atKey_of_not_has h _⟩
theorem TabB.lt (h:TabB P K E key w b n g):b < w.heap.size:=by
 obtain ⟨D,h1,h2⟩:=h
 exact h1.lt
theorem TabB.kept (h:TabB P K E key w b n g) {row:Option Nat} (hg:w.grownBy w' row) (hne:some b ≠ row):TabB P K E key w' b n g:=by
 obtain ⟨D,h1,h2⟩:=h
 exact ⟨D,h1.kept hg hne,h2⟩
theorem TabB.block (h:TabB P K E key w b n g) (he:w'.heap[b]? = w.heap[b]?):TabB P K E key w' b n g:=by
 obtain ⟨D,⟨es,clock,hb,F,hs,hD⟩,h2⟩:=h
 exact ⟨D,⟨es,clock,he.trans hb,F,hs,hD⟩,h2⟩
theorem TabB.below {B:Nat} (h:TabB P K E key w b n g) (hb:Below B w w') (hB:b < B):TabB P K E key w' b n g:=h.block (hb.block b hB)
theorem TabB.alloc (h:TabB P K E key w b n g) (o:Obj):TabB P K E key (w.alloc o) b n g:=h.kept (World.grownBy_alloc w o none) (by simp)
theorem wpList_tabB_get {ops:Array Oper} {rest:List Oper} {o:Oper} {a:Act} {Q:Exit → Act → World → Prop} (hg:o.guard = none) (m x:Operand) (t:TypeId) (hop:o.op = Op.lookup t m x false)
  (KK:Keyed P K) (ht:P.underlying t = some (.map K E)) (he:P.underlying E = some .bool) (hz:(zeroValue E).run P w = .ok (.bool false) w)
  (hm:a.eval m = .map (some b)) (h:TabB P K E key w b n g) (c:α) (hx:a.eval x = key c) (hk:∃ kl,keyOf P K (key c) = some kl)
  (hK:wpList P ops Q rest (a.put o.dst (.bool (g c))) w):wpList P ops Q (o :: rest) a w:=by
 obtain ⟨D,h1,h2⟩:=h
 obtain ⟨kl,hkl⟩:=hk
 refine wpList_plain hg fun K' hK'=>?_
 obtain ⟨v,ps,hrun,hv⟩:=h1.lookup KK ht hz (plainElem_bool he false) hkl
 rw [h2 c kl hkl] at hv
 obtain ⟨y,rfl,hy⟩:=plainElem_bool_out he hv
 simp only [Prod.mk.injEq,DataW.lit.injEq,Lit.bool.injEq] at hy
 unfold Oper.wp
 simp [execOp,hop,hm,hx,hrun,Result.andThen]
 rw [← hy.1]
 exact hK' _ _ hK
theorem wpList_tabB_put {ops:Array Oper} {rest:List Oper} {o:Oper} {a:Act} {Q:Exit → Act → World → Prop} (hg:o.guard = none) (m x v:Operand) (t:TypeId) (hop:o.op = Op.mapUpdate t m x v)
  (KK:Keyed P K) (ht:P.underlying t = some (.map K E)) (he:P.underlying E = some .bool)
  (hm:a.eval m = .map (some b)) (h:TabB P K E key w b n g) (hn:n ≤ 1000000000) (c:α) (hx:a.eval x = key c) (hk:∃ kl,keyOf P K (key c) = some kl) (hv:a.eval v = .bool true)
  (g':α → Bool) (hg1:∀ d,key d = key c → g' d = true) (hg2:∀ d,key d ≠ key c → g' d = g d)
  (hK:∀ w',TabB P K E key w' b (n + 1) g' → w.grownBy w' (some b) → wpList P ops Q rest (a.put o.dst undef) w'):wpList P ops Q (o :: rest) a w:=by
 obtain ⟨D,h1,h2⟩:=h
 obtain ⟨kl,hkl⟩:=hk
 refine wpList_mapUpdate_own w hg m x v t hop K E KK ht _ b n D hm h1 (by unfold maxLen;omega) _ _ kl hx hv hkl (.lit (.bool true)) [] (plainElem_bool he true) ?_
 intro w' h3 h4
 refine hK w' ⟨_,h3,fun d kd hkd=>?_⟩ h4
 by_cases hd:key d = key c
 ·have:kd = kl:=by rw [hd,hkl] at hkd;injection hkd with e;exact e.symm
  subst this
  rw [hg1 d hd]
  exact Maps.atKey_put_same h1.isMap (KK.key hkl) _ _
 ·have hne:kd ≠ kl:=fun e=>hd (KK.inj (by rw [← e];exact hkd) hkl)
  rw [hg2 d hd,Maps.atKey_put_other hne]
  exact h2 d kd hkd
end
end Go.Proofs.Ytdnmpndnpfklcaa

/- The law's equal. -/
namespace Go.Proofs.Ytdnmpndnpfklcaa
open Go.RowKit Go Go.Maps
end Go.Proofs.Ytdnmpndnpfklcaa

/- The law's admissible. -/
namespace Go.Proofs.Ytdnmpndnpfklcaa
open Go.RowKit Go Go.Maps
end Go.Proofs.Ytdnmpndnpfklcaa

/- The closures of Admissible. -/
namespace Go.Proofs.Ytdnmpndnpfklcaa
open Go.RowKit Go Go.Maps
end Go.Proofs.Ytdnmpndnpfklcaa

/- Walks of package language: step, in, the closure of Included. -/
namespace Go.Proofs.Ytdnmpndnpfklcaa
open Go.RowKit Go Go.Maps
structure LgM (w:World) (a:Aut) (bm bn bk m:Nat):Prop where
 box:Blk w bm 145 [.map (some bn),.map (some bk),.int .i64 (firA a)]
 tab:TabE w bn m a.ed
theorem LgM.below {w w':World} {a:Aut} {bm bn bk m:Nat} (h:LgM w a bm bn bk m) (hb:Below w.heap.size w w'):LgM w' a bm bn bk m:=⟨h.box.below hb h.box.lt,h.tab.below hb h.tab.lt⟩
set_option maxRecDepth 100000 in
set_option maxHeartbeats 1600000 in
theorem lng_step (a:Aut) (bm bn bk m:Nat) (s v:Int) (w:World) (h:LgM w a bm bn bk m) (hs:(Lit.int .i64 s).wf = true) (hv:(Lit.int .i64 v).wf = true) :
  Calls Try.prog 91 #[.pointer (some ⟨bm,0,none⟩),.int .i64 s,.int .i64 v] w fun e w'=>e = .returned (.int .i64 (nxt a s v))∧w = w':=by
 have HT:=Lib.hid h.tab
 have HKEY:=Lib.hid (pairKey w s v hs hv)
 have HNX:=Lib.hid (show nxt a s v = (lkE s v a.ed).getD (-1) from lkE_nxt a.ed)
 obtain ⟨c0,c1,c2⟩:=Blk.c3 h.box
 clear h hs hv
 obtain ⟨O,hO⟩:∃ q,lkE s v a.ed = q:=⟨_,rfl⟩
 rw [hO] at HNX
 have HO:=Lib.hid hO
 clear hO
 go_enter Try.func91,Try.ntmps91
 cases O with
 | some y =>
  have HR:=Lib.hid (show nxt a s v = y from HNX.out)
  go_wp2_with (first | (at_lookup;refine wpList_tab_hit rfl (.tmp 13) (.tmp 16) 142 rfl pairLaw Try.underlying142 Try.underlying3 rfl rfl HT.out (s,v) rfl HKEY.out y HO.out ?_) | fail)
  go_ret
  exact ⟨ret_int HR.out.symm,by first | rfl | trivial⟩
 | none =>
  have HR:=Lib.hid (show nxt a s v = -1 from HNX.out)
  go_wp2_with (first | (at_lookup;refine wpList_tab_miss rfl (.tmp 13) (.tmp 16) 142 rfl pairLaw Try.underlying142 Try.underlying3 rfl rfl HT.out (s,v) rfl HKEY.out HO.out ?_) | fail)
  go_ret
  exact ⟨ret_int HR.out.symm,by first | rfl | trivial⟩
set_option maxRecDepth 100000 in
set_option maxHeartbeats 1600000 in
theorem lng_in (P:Value) (s:Int) (w:World) :
  Calls Try.prog 74 #[P,.int .i64 s,.int .i64 1] w fun e w'=>e = .returned (.bool (decide (0 ≤ s)))∧w = w':=by
 go_enter Try.func74,Try.ntmps74
 by_cases hs:s ≥ 0
 ·have HR:=Lib.hid (show decide (0 ≤ s) = true by simpa using hs)
  go_wp2
  go_ret
  exact ⟨ret_bool HR.out.symm,by first | rfl | trivial⟩
 ·have hsd:decide (s ≥ 0) = false:=by simpa using hs
  have HR:=Lib.hid (show decide (0 ≤ s) = false by simpa using hs)
  go_wp2
  go_ret
  exact ⟨by first | exact ret_bool HR.out.symm | exact ret_bool rfl,by first | rfl | trivial⟩
set_option maxRecDepth 100000 in
set_option maxHeartbeats 1600000 in
theorem lng_choose (px pk py:Nat) (P1 P2:Value) (t1 t2 t3:TypeId) (p q:Int) (w:World) (h1:Blk w px t1 [P1]) (h2:Blk w pk t2 [.int .i64 1]) (h3:Blk w py t3 [P2]) :
  Calls Try.prog 73 #[.agg #[.int .i64 p,.int .i64 q],.pointer (some ⟨px,0,none⟩),.pointer (some ⟨pk,0,none⟩),.pointer (some ⟨py,0,none⟩)] w fun e w'=>e = .returned (.bool (decide (0 ≤ p) && !decide (0 ≤ q)))∧Below w.heap.size w w':=by
 have hb1:=box_below w (.cells #[.int .i64 p,.int .i64 q] 127)
 have kb:=Blk.new w 127 [.int .i64 p,.int .i64 q]
 obtain ⟨w1,hw1⟩:∃ q',w.alloc (.cells #[.int .i64 p,.int .i64 q] 127) = q':=⟨_,rfl⟩
 have h1':=(h1.below hb1 h1.lt).cell (j:=0) rfl
 have h2':=(h2.below hb1 h2.lt).cell (j:=0) rfl
 have h3':=(h3.below hb1 h3.lt).cell (j:=0) rfl
 have kb':Blk (w.alloc (.cells #[.int .i64 p,.int .i64 q] 127)) w.heap.size 127 [.int .i64 p,.int .i64 q]:=kb
 have hk0:=kb'.cell (j:=0) rfl
 have hk1:=kb'.cell (j:=1) rfl
 rw [hw1] at h1' h2' h3' hk0 hk1 hb1
 have HB:=Lib.hid hb1
 have HI1:=Lib.hid (lng_in P1 p w1)
 have HI2:=Lib.hid (lng_in P2 q w1)
 have HW:=Lib.hid hw1
 clear kb kb' hb1 hw1 h1 h2 h3
 go_enter Try.func73,Try.ntmps73
 go_upto_region 1 with fail
 rw [HW.out]
 go_wp2_with fail
 refine HI1.out.mono ?_
 rintro e w2 ⟨rfl,rfl⟩
 by_cases hp:0 ≤ p
 ·have hpd:decide (0 ≤ p) = true:=by simpa using hp
  rw [hpd]
  go_wp2_with fail
  refine HI2.out.mono ?_
  rintro e w2 ⟨rfl,rfl⟩
  obtain ⟨b,hb⟩:∃ b,decide (0 ≤ q) = b:=⟨_,rfl⟩
  have HBB:=Lib.hid (show (decide (0 ≤ p) && !decide (0 ≤ q)) = !b by rw [hpd,hb];rfl)
  rw [hb]
  clear hb
  cases b <;> (go_wp2;go_ret;exact ⟨ret_bool HBB.out.symm,HB.out⟩)
 ·have hpd:decide (0 ≤ p) = false:=by simpa using hp
  have HBB:=Lib.hid (show (decide (0 ≤ p) && !decide (0 ≤ q)) = false by rw [hpd];rfl)
  rw [hpd]
  go_wp2
  go_ret
  exact ⟨ret_bool HBB.out.symm,HB.out⟩
end Go.Proofs.Ytdnmpndnpfklcaa

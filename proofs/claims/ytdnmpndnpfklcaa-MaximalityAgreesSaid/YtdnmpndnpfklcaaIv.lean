/- Walks: reach.Coreachable, Distances, closure, list. -/
import Derived.Test.YtdnmpndnpfklcaaXp
import Derived.Test.YtdnmpndnpfklcaaIb
import Derived.Test.YtdnmpndnpfklcaaIu

namespace Go.Proofs.Ytdnmpndnpfklcaa
open Go.RowKit Go Go.Maps
def RetDs (D:List Int) (n:Nat) (w:World) (e:Ending) (w':World):Prop:=∃ ob,e = .returned (.tuple #[.slice (some ⟨ob,0,none⟩) n n,.int .i64 0])∧Blk w' ob 3 (iv D)∧D.length = n∧w.heap.size ≤ ob∧Below w.heap.size w w'
theorem reach_Distances (x:AV) (n:Nat) (T:Option Addr) (ct nt:Nat) (tl:List Int) (w:World) (hx:x.ok w w.heap.size) (hw:WF x.a) (hn:x.a.st = (n:Int)) (htl:tl.length = nt) (hT:RdI w w.heap.size T tl) (hc1:nt ≤ ct) (hc2:ct ≤ 9223372036854775807) (hti:Inc tl) (htr:∀ s ∈ tl,0 ≤ s∧s < (n:Int)) :
  Calls Try.prog 98 #[.agg #[.slice x.A x.na x.ca,.int .i64 x.a.st,.slice x.M x.nm x.cm,.slice x.E x.ne x.ce],.slice T nt ct] w (RetDs (bwS x.a tl) n w):=by
 have HLN:=Lib.hid (show (bwS x.a tl).length = n from by
  rw [(bwS_ok hw hti (by rw [hn];exact htr)).1,hn];rfl)
 have HRE:=Lib.hid (show bwS x.a tl = (dsS x.a.ed (List.replicate n true) tl).1 from by unfold bwS;rw [hn];rfl)
 have HSE:=Lib.hid (show setErr tl (n:Int) = 0 from setErr_fit hti htr)
 obtain ⟨z,hz⟩:∃ z,z = x:=⟨_,rfl⟩
 obtain ⟨A,na,ca,M,nm,cm,E,ne,ce,a⟩:=x
 have HXZ:=Lib.hid hz
 dsimp only at hw hn HLN HRE ⊢
 have hb1:=box_below w (.cells #[.slice A na ca,.int .i64 a.st,.slice M nm cm,.slice E ne ce] 32)
 obtain ⟨w1,hw9⟩:∃ w1,w1 = w.alloc (.cells #[.slice A na ca,.int .i64 a.st,.slice M nm cm,.slice E ne ce] 32):=⟨_,rfl⟩
 have kx:Blk w1 w.heap.size 32 [.slice A na ca,.int .i64 a.st,.slice M nm cm,.slice E ne ce]:=by rw [hw9];exact Blk.new _ _ [_,_,_,_]
 rw [← hw9] at hb1
 have HG0:=Lib.hid (fun (W:World) (hb:Below w1.heap.size w1 W)=>Blk.c4 (kx.below hb kx.lt))
 rw [hn] at HG0
 obtain ⟨a0,a1,a2,a3⟩:=HG0.out w1 (Below.refl _ _)
 have HCK:=Lib.hid (automaton_Check A na ca M nm cm E ne ce a w1 ((AutR.below hx hb1).more hb1.size))
 rw [hw.chk,hn] at HCK
 have HXK:=Lib.hid (fun (W:World) (hb:Below w1.heap.size w1 W)=>AutR.more (AutR.below hx (hb1.trans (hb.mono hb1.size))) (hb1.trans (hb.mono hb1.size)).size)
 have HTK:=Lib.hid (fun (W:World) (hb:Below w1.heap.size w1 W)=>(hT.below (hb1.trans (hb.mono hb1.size))).more (hb1.trans (hb.mono hb1.size)).size)
 rw [hn] at hw9 ⊢
 have HN:=Lib.hid hn
 have HW9:=Lib.hid hw9;clear hw9
 have HB1:=Lib.hid hb1;clear hb1
 have HWF:=Lib.hid hw;clear hw
 have HTI:=Lib.hid hti
 have HTR:=Lib.hid htr
 have HTL:=Lib.hid htl
 clear kx hx hn hT hti htr htl hz
 go_enter Try.func98,Try.ntmps98
 go_wp2_with fail
 rw [← HW9.out]
 refine HCK.out.mono ?_
 rintro e w2 ⟨rfl,hb2⟩
 have HB2:=Lib.hid hb2;clear hb2
 clear HCK a0 a1 a2 a3
 obtain ⟨a0,a1,a2,a3⟩:=HG0.out w2 HB2.out
 go_wp2_with fail
 refine (reach_checkStates A na ca M nm cm E ne ce (n:Int) T ct nt tl 0 w2 HTL.out HSE.out (HTK.out w2 HB2.out) hc1 hc2).mono ?_
 rintro e w3 ⟨rfl,hb23⟩
 have HB23:=Lib.hid (HB2.out.trans (hb23.mono HB2.out.size))
 clear a0 a1 a2 a3 hb23
 obtain ⟨a0,a1,a2,a3⟩:=HG0.out w3 HB23.out
 have HNG:=Lib.hid (newGraph_ok z w3 n (by rw [HXZ.out];exact HXK.out w3 HB23.out) (by rw [HXZ.out];exact HWF.out) (by rw [HXZ.out];exact HN.out))
 rw [HXZ.out] at HNG
 dsimp only at HNG
 rw [HN.out] at HNG
 rw [← HXZ.out] at HNG
 go_wp2_with fail
 refine HNG.out.mono ?_
 rintro e w4 ⟨ba,rfl,hba,hgr,hb3⟩
 have HB3:=Lib.hid (HB23.out.trans (hb3.mono HB23.out.size))
 have HBW:=Lib.hid (reach_backward z ba n T ct nt tl w4 hgr HTL.out (HTK.out w4 HB3.out) HTI.out HTR.out)
 clear HNG a0 a1 a2 a3 hgr hb3 hba
 go_wp2_with fail
 refine HBW.out.mono ?_
 rintro e w5 ⟨ob,rfl,hk,hl,hb5⟩
 have HK:=Lib.hid hk
 have HL:=Lib.hid hl
 have HB5:=Lib.hid (HB3.out.trans (hb5.mono HB3.out.size))
 clear hk hl hb5 HBW
 go_wp2
 refine bodyPost_ret (v:=.tuple #[_,.int .i64 0]) (by simp [results,Try.results98,go_sem];rfl) rfl ?_
 refine ⟨ob,rfl,?_,HLN.out,?_,HB1.out.trans (HB5.out.mono HB1.out.size)⟩
 ·rw [HRE.out]
  have h9:=HK.out
  rw [HXZ.out] at h9
  exact h9
 ·have h1:=HB1.out.size;have h2:=HB3.out.size;have h3:=HL.out;omega
theorem co_snoc {D:List Int} {k:Nat} {d:Int} (h:gI D (k:Int) = d):(rngI ((k + 1:Nat):Int)).filter (fun s=>decide (0 ≤ gI D s)) = (rngI (k:Int)).filter (fun s=>decide (0 ≤ gI D s)) ++ (if 0 ≤ d then [(k:Int)] else []):=by
 have e:rngI ((k + 1:Nat):Int) = rngI (k:Int) ++ [(k:Int)]:=by
  unfold rngI
  simp only [Int.toNat_natCast]
  rw [List.range_succ,List.map_append]
  rfl
 rw [e,List.filter_append]
 congr 1
 by_cases hd:0 ≤ d
 ·rw [if_pos hd,List.filter_cons_of_pos (by rw [h];simpa using hd)];rfl
 ·rw [if_neg hd,List.filter_cons_of_neg (by rw [h];simpa using hd)];rfl
set_option maxRecDepth 100000 in
set_option maxHeartbeats 1600000 in
theorem reach_Coreachable (x:AV) (n:Nat) (w:World) (hx:x.ok w w.heap.size) (hw:WF x.a) (hn:x.a.st = (n:Int)) :
  Calls Try.prog 20 #[.agg #[.slice x.A x.na x.ca,.int .i64 x.a.st,.slice x.M x.nm x.cm,.slice x.E x.ne x.ce]] w (RetLE (coS x.a) w):=by
 have hn4:n ≤ 4096:=by have:=hw.st1;omega
 have hmr:∀ s ∈ x.a.ma,0 ≤ s∧s < (n:Int):=fun s hs=>by have:=hw.mrng s hs;omega
 have HLN:=Lib.hid (show (bwS x.a x.a.ma).length = n from by
  rw [(bwS_ok hw hw.minc (by rw [hn];exact hmr)).1,hn];rfl)
 have HRE:=Lib.hid (show bwS x.a x.a.ma = (dsS x.a.ed (List.replicate n true) x.a.ma).1 from by unfold bwS;rw [hn];rfl)
 have HCO:=Lib.hid (show coS x.a = (rngI (n:Int)).filter (fun s=>decide (0 ≤ gI (bwS x.a x.a.ma) s)) from by unfold coS;rw [hn])
 obtain ⟨z,hz⟩:∃ z,z = x:=⟨_,rfl⟩
 obtain ⟨A,na,ca,M,nm,cm,E,ne,ce,a⟩:=x
 have HXZ:=Lib.hid hz
 dsimp only at hw hn HLN HRE HCO hmr ⊢
 have hb1:=box_below w (.cells #[.slice A na ca,.int .i64 a.st,.slice M nm cm,.slice E ne ce] 32)
 obtain ⟨w1,hw9⟩:∃ w1,w1 = w.alloc (.cells #[.slice A na ca,.int .i64 a.st,.slice M nm cm,.slice E ne ce] 32):=⟨_,rfl⟩
 have kx:Blk w1 w.heap.size 32 [.slice A na ca,.int .i64 a.st,.slice M nm cm,.slice E ne ce]:=by rw [hw9];exact Blk.new _ _ [_,_,_,_]
 rw [← hw9] at hb1
 have HG0:=Lib.hid (fun (W:World) (hb:Below w1.heap.size w1 W)=>Blk.c4 (kx.below hb kx.lt))
 rw [hn] at HG0
 obtain ⟨a0,a1,a2,a3⟩:=HG0.out w1 (Below.refl _ _)
 have HCK:=Lib.hid (automaton_Check A na ca M nm cm E ne ce a w1 ((AutR.below hx hb1).more hb1.size))
 rw [hw.chk,hn] at HCK
 have HXK:=Lib.hid (fun (W:World) (hb:Below w1.heap.size w1 W)=>AutR.more (AutR.below hx (hb1.trans (hb.mono hb1.size))) (hb1.trans (hb.mono hb1.size)).size)
 rw [hn] at hw9 ⊢
 have HN:=Lib.hid hn
 have HW9:=Lib.hid hw9;clear hw9
 have HB1:=Lib.hid hb1;clear hb1
 have HWF:=Lib.hid hw;clear hw
 have HMR:=Lib.hid hmr
 clear kx hx hn hmr hz
 go_enter Try.func20,Try.ntmps20
 go_wp2_with fail
 rw [← HW9.out]
 refine HCK.out.mono ?_
 rintro e w2 ⟨rfl,hb2⟩
 have HB2:=Lib.hid hb2;clear hb2
 clear HCK a0 a1 a2 a3
 go_upto_region 5 with fail
 refine wp_region_U (fun V=>C4 V w.heap.size (.slice A na ca) (.int .i64 (n:Int)) (.slice M nm cm) (.slice E ne ce)) (fun _=>True) 99 (by kernel_rfl) ?_
 change anyU _ _ _ _ _ _ _ 7 _ _ _
 have HBD:=Lib.hid (HB2.out.trans ((below_dr w2).mono HB2.out.size))
 generalize w2.drew = w3 at HBD ⊢
 have hA0:=HG0.out w3 HBD.out
 have hB0:True:=trivial
 (refine uA 0 ?_ rfl hA0 hB0 (fun W hA=>?_) ?_;rotate_left;(· (obtain ⟨a0,a1,a2,a3⟩:=hA;go_simp;try with_reducible rfl));(try simp only [Act.put,List.setIfInBounds_toArray,List.set_cons_zero,List.set_cons_succ]))
 (refine uA 2 ?_ rfl hA0 hB0 (fun W hA=>?_) ?_;rotate_left;(· (go_simp;try with_reducible rfl));(try simp only [Act.put,List.setIfInBounds_toArray,List.set_cons_zero,List.set_cons_succ]))
 (refine uA 3 ?_ rfl hA0 hB0 (fun W hA=>?_) ?_;rotate_left;(· (obtain ⟨a0,a1,a2,a3⟩:=hA;go_simp;try with_reducible rfl));(try simp only [Act.put,List.setIfInBounds_toArray,List.set_cons_zero,List.set_cons_succ]))
 (refine uA 6 ?_ rfl hA0 hB0 (fun W hA=>?_) ?_;rotate_left;(· (go_simp;try with_reducible rfl));(try simp only [Act.put,List.setIfInBounds_toArray,List.set_cons_zero,List.set_cons_succ]))
 have HNG:=Lib.hid (newGraph_ok z w3 n (by rw [HXZ.out];exact HXK.out w3 HBD.out) (by rw [HXZ.out];exact HWF.out) (by rw [HXZ.out];exact HN.out))
 rw [HXZ.out] at HNG
 dsimp only at HNG
 rw [HN.out] at HNG
 rw [← HXZ.out] at HNG
 refine uOne (i:=1) rfl (by kernel_rfl) (fun K hK=>?_)
 go_simp
 go_at_call 56
 refine HNG.out.mono ?_
 rintro e w4 ⟨ba,rfl,hba,hgr,hb3⟩
 have HB3:=Lib.hid (HBD.out.trans (hb3.mono HBD.out.size))
 have HBW:=Lib.hid (reach_backward z ba n M cm nm a.ma w4 hgr (HXK.out w4 HB3.out).lm (HXK.out w4 HB3.out).rm HWF.out.minc HMR.out)
 clear HNG hgr hb3 hba hA0
 have hA0:=HG0.out w4 HB3.out
 go_simp
 (refine hK _ _ ⟨hA0,fun h=>absurd (h.symm.trans (by kernel_rfl:_ = true)) Bool.false_ne_true⟩ ?_;clear hK K;(try simp only [Act.put,List.setIfInBounds_toArray,List.set_cons_zero,List.set_cons_succ]))
 refine uOne (i:=4) rfl (by kernel_rfl) (fun K hK=>?_)
 go_simp
 go_at_call 57
 refine HBW.out.mono ?_
 rintro e w5 ⟨ob,rfl,hk,hl,hb5⟩
 have HB5:=Lib.hid (HB3.out.trans (hb5.mono HB3.out.size))
 rw [HXZ.out] at hk
 dsimp only at hk
 rw [← HRE.out] at hk
 have HK:=Lib.hid hk
 clear hk hl hb5 HBW hA0
 have hA0:=HG0.out w5 HB5.out
 go_simp
 (refine hK _ _ ⟨hA0,fun h=>absurd (h.symm.trans (by kernel_rfl:_ = true)) Bool.false_ne_true⟩ ?_;clear hK K;(try simp only [Act.put,List.setIfInBounds_toArray,List.set_cons_zero,List.set_cons_succ]))
 (refine uA 5 ?_ rfl hA0 hB0 (fun W hA=>?_) ?_;rotate_left;(· (go_simp;try with_reducible rfl));(try simp only [Act.put,List.setIfInBounds_toArray,List.set_cons_zero,List.set_cons_succ]))
 refine anyU_done (by kernel_rfl) ?_ _
 clear hA0 hB0
 obtain ⟨DD,hDD⟩:∃ q,bwS a a.ma = q:=⟨_,rfl⟩
 rw [hDD] at HK HLN HCO
 clear hDD HRE
 go_wp2
 go_loopw [5,6,7,19] (fun s5 s6 s7 s19 wr=>∃ (k m:Nat) (v6 v7:Value),s19 = .int .i64 k∧s6 = v6∧s7 = v7∧k ≤ n∧m ≤ k∧Hid (((rngI (k:Int)).filter (fun s=>decide (0 ≤ gI DD s))).length = m)∧Hid (wr.ownsRow w5.heap.size 3 1 s5 m (iv ((rngI (k:Int)).filter (fun s=>decide (0 ≤ gI DD s)))))∧Hid (Below w5.heap.size w5 wr)) (fun _ _ _ s19 _=>n - (intOf s19).toNat)
 case atStart=>exact ⟨0,0,_,_,rfl,rfl,rfl,Nat.zero_le _,Nat.le_refl _,Lib.hid rfl,Lib.hid (World.ownsRow_nil _ _ _ _),Lib.hid (Below.refl _ _)⟩
 case round =>
  obtain ⟨k,m,v6,v7,rfl,rfl,rfl,hk,hmk,HM,HO,HBL⟩:=hrel
  by_cases hlt:k < n
  case pos =>
   obtain ⟨d,hd⟩:∃ d,gI DD (k:Int) = d:=⟨_,rfl⟩
   have c1:wr.cell? ⟨ob,k,none⟩ = some (.int .i64 d):=(HK.out.below HBL.out HK.out.lt).cell (by rw [iv_gI (by rw [HLN.out];exact hlt),hd])
   have HS:=Lib.hid (co_snoc hd)
   have b1:(k:Int) < (n:Int):=by omega
   have hsz:=HBL.out.size
   clear hd
   by_cases hd0:0 ≤ d
   ·have HS2:=Lib.hid (show (rngI ((k + 1:Nat):Int)).filter (fun s=>decide (0 ≤ gI DD s)) = (rngI (k:Int)).filter (fun s=>decide (0 ≤ gI DD s)) ++ [(k:Int)] from by rw [HS.out,if_pos hd0])
    have hd1:¬ d < 0:=by omega
    clear HS
    go_wp2_with (first | (at_builtin;refine wpList_push wr (.int .i64 (k:Int)) rfl (.tmp 26) (.tmp 28) 29 rfl w5.heap.size 3 (.int .i64 0) 8 Try.underlying29 int_info rfl _ m _ rfl HO.out rfl rfl (by omega) (by omega) hsz ?_;intro v' w' ho' hg' hb1) | fail)
    go_roundw
    case rel=>exact ⟨k + 1,m + 1,_,_,by go_num,rfl,rfl,by omega,by omega,Lib.hid (by rw [HS2.out,List.length_append,HM.out];rfl),Lib.hid (by rw [HS2.out,iv_append];exact ho'),Lib.hid (HBL.out.trans hb1)⟩
    case measure=>simp [intOf];omega
   ·have HS2:=Lib.hid (show (rngI ((k + 1:Nat):Int)).filter (fun s=>decide (0 ≤ gI DD s)) = (rngI (k:Int)).filter (fun s=>decide (0 ≤ gI DD s)) from by rw [HS.out,if_neg hd0,List.append_nil])
    clear HS
    go_wp2
    go_roundw
    case rel=>exact ⟨k + 1,m,_,_,by go_num,rfl,rfl,by omega,by omega,Lib.hid (by rw [HS2.out];exact HM.out),Lib.hid (by rw [HS2.out];exact HO.out),HBL⟩
    case measure=>simp [intOf];omega
  obtain rfl:k = n:=by omega
  have b1:¬ (k:Int) < (k:Int):=by omega
  have HB9:=Lib.hid (HB1.out.trans (HB5.out.mono HB1.out.size))
  go_wp2
  refine bodyPost_ret (v:=.tuple #[_,.int .i64 0]) (by simp [results,Try.results20,go_sem];rfl) rfl ?_
  exact ⟨_,rfl,by rw [HCO.out,HM.out];exact own_base HO.out HB9.out.size,HB9.out.trans (HBL.out.mono HB9.out.size)⟩
end Go.Proofs.Ytdnmpndnpfklcaa
/- Plain: the examples of chapters 4 and 28; Interior (chapter 28). -/
namespace Go.Proofs.Ytdnmpndnpfklcaa
open Go
def inX (V:List Int) (c:List Bool × Bool) (x:Ed):List Bool × Bool:=if (fl c.1 x.f && !fl c.1 x.t && hasB V x.e) = true then (c.1.set x.f.toNat false,true) else c
def inP (V:List Int) (ed:List Ed) (N:List Bool):List Bool × Bool:=ed.foldl (inX V) (N,false)
def inG (V:List Int) (ed:List Ed):Nat → List Bool → List Bool
 | 0,N=>N
 | g + 1,N=>if (inP V ed N).2 = true then inG V ed g (inP V ed N).1 else (inP V ed N).1
def inS (a:Aut) (set V:List Int):List Int:=onF (inG V a.ed (a.st.toNat + 1) ((rngI a.st).map fun s=>hasB set s))
def cntT (N:List Bool):Nat:=N.countP fun q=>q
theorem cntT_clr:∀ {N:List Bool} {k:Nat},N[k]? = some true → cntT (N.set k false) + 1 = cntT N
 | [],k,h=>by simp at h
 | q :: N,0,h=>by
  simp at h
  subst h
  unfold cntT
  rw [List.set_cons_zero,List.countP_cons,List.countP_cons]
  simp
 | q :: N,k + 1,h=>by
  have ih:=cntT_clr (N:=N) (k:=k) (by simpa using h)
  unfold cntT at ih ⊢
  rw [List.set_cons_succ,List.countP_cons,List.countP_cons]
  omega
theorem fl_true {N:List Bool} {s:Int} (h:fl N s = true):N[s.toNat]? = some true:=by
 unfold fl at h
 rw [List.getD_eq_getElem?_getD] at h
 cases hq:N[s.toNat]? with
 | none=>rw [hq] at h;cases h
 | some q=>rw [hq] at h;rw [show q = true from h]
theorem inF_cnt {V:List Int} {m:Nat}:∀ (ed:List Ed) (c:List Bool × Bool),cntT c.1 + (if c.2 = true then 1 else 0) ≤ m → cntT (ed.foldl (inX V) c).1 + (if (ed.foldl (inX V) c).2 = true then 1 else 0) ≤ m
 | [],c,h=>h
 | x :: ed,c,h=>by
  rw [List.foldl_cons]
  refine inF_cnt ed _ ?_
  unfold inX
  split
  ·rename_i hc
   simp only [Bool.and_eq_true,Bool.not_eq_true'] at hc
   have:=cntT_clr (fl_true hc.1.1)
   show cntT (c.1.set x.f.toNat false) + 1 ≤ m
   rw [this]
   split at h <;> omega
  ·exact h
theorem inP_cnt {V:List Int} {ed:List Ed} {N:List Bool} (h:(inP V ed N).2 = true):cntT (inP V ed N).1 < cntT N:=by
 have:=inF_cnt (V:=V) (m:=cntT N) ed (N,false) (by simp)
 unfold inP at h ⊢
 rw [h,if_pos rfl] at this
 omega
def exP8:Mx:=⟨⟨[0,1,2,3],4,[0],[⟨0,0,1⟩,⟨0,1,3⟩,⟨1,3,2⟩,⟨3,2,0⟩]⟩,[3],[2]⟩
def exC:Ce:=⟨[0,3],[0,1],[⟨1,2,2,3⟩,⟨2,1,1,-1⟩]⟩
def exD:Ce:=⟨[0],[0],[⟨1,2,2,3⟩,⟨2,1,1,-1⟩,⟨3,3,3,-1⟩]⟩
theorem exM_ok:exP8.ok:=by
 refine ⟨chkA_wf (by decide),show List.Pairwise (· < ·) ([3]:List Int) by decide,by decide,show List.Pairwise (· < ·) ([2]:List Int) by decide,by decide⟩
theorem exC_kp:(prvC exP8).kp = [0,3]:=by decide
theorem exC_ds:(prvC exP8).ds = [0,1]:=by decide
theorem exC_rm:(prvC exP8).rm = [⟨1,2,2,3⟩,⟨2,1,1,-1⟩]:=by decide
theorem exC_eq:prvC exP8 = exC:=Ce.eq_iff.2 ⟨exC_kp,exC_ds,exC_rm⟩
theorem exD_bad:VerIs exP8 exD 24:=by
 refine .inr ⟨by decide,.inr ⟨fun h=>?_,rfl⟩⟩
 have hb:=((h.rmv ⟨3,3,3,-1⟩ (by decide)).bl rfl).2.2 ⟨3,2,0⟩ (by decide) rfl
 obtain ⟨y,hy,hys,_⟩:=hb
 have hy:y ∈ ([⟨1,2,2,3⟩,⟨2,1,1,-1⟩,⟨3,3,3,-1⟩]:List Rm):=hy
 have hys:y.s = 0:=hys
 simp only [List.mem_cons,List.not_mem_nil,or_false] at hy
 rcases hy with rfl | rfl | rfl <;> exact absurd hys (by decide)
theorem exS:rsA exP8.a [0,3] = ⟨[0,1,2,3],2,[0],[⟨0,1,1⟩,⟨1,2,0⟩]⟩:=by decide
theorem exE:Exp exP8 exC 1 [⟨1,2,2,3⟩,⟨2,1,1,-1⟩]:=by
 refine .go (r:=⟨1,2,2,3⟩) (by decide) rfl ?_
 rw [show nxt exP8.a 1 3 = 2 by decide]
 exact .fin (by decide) (by decide)
def exL4:Aut:=⟨[0,1],4,[1],[⟨0,0,1⟩,⟨0,1,2⟩,⟨1,0,1⟩,⟨2,0,3⟩,⟨3,1,2⟩]⟩
theorem ex4_wf:WF exL4:=chkA_wf (by decide)
theorem ex4_co:coS exL4 = [0,1]:=by decide
theorem ex4_di:bwS exL4 [3] = [2,-1,1,0]:=by decide
theorem ex4_in:inS exL4 [0,1,2] [0] = [0,1]:=by decide
end Go.Proofs.Ytdnmpndnpfklcaa

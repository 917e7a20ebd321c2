/- Walks: reach.newGraph, the graph's edges. -/
import Derived.Test.YtdnmpndnpfklcaaTu
import Derived.Test.YtdnmpndnpfklcaaMe
import Derived.Test.YtdnmpndnpfklcaaUc
import Derived.Deep.CutRange
import Derived.IntWalk
namespace Go.Proofs.Ytdnmpndnpfklcaa
open Go.RowKit Go
def fstN (ed:List Ed) (k:Int):Nat:=(ed.filter (fun x=>decide (x.f < k))).length
def fsts (ed:List Ed) (n:Nat):List Int:=(List.range (n + 1)).map (fun k:Nat=>(fstN ed (k:Int):Int))
def gL (n s:Nat) (es:List Ed):List Int:=(List.range (n + 1)).map (fun k:Nat=>if k ≤ s then (fstN es (k:Int):Int) else ((es.filter (fun x=>decide (x.f + 1 = (k:Int)))).length:Int))
theorem gL_len (n s:Nat) (es:List Ed):(gL n s es).length = n + 1:=by simp [gL]
theorem gL_get {n s:Nat} {es:List Ed} {k:Nat} (h:k ≤ n):(gL n s es)[k]? = some (if k ≤ s then (fstN es (k:Int):Int) else ((es.filter (fun x=>decide (x.f + 1 = (k:Int)))).length:Int)):=by
 unfold gL
 rw [List.getElem?_map,List.getElem?_range (by omega)];rfl
theorem gL_start (n:Nat):gL n 0 [] = List.replicate (n + 1) 0:=by
 apply List.ext_getElem
 ·simp [gL]
 ·intro i h1 h2
  simp [gL,fstN]
theorem gL_end (n:Nat) (es:List Ed):gL n n es = fsts es n:=by
 unfold gL fsts
 refine List.map_congr_left fun k hk=>?_
 rw [if_pos (by have:=List.mem_range.1 hk;omega)]
theorem gL_edge {n:Nat} {es:List Ed} {x:Ed} (h0:0 ≤ x.f) (h1:x.f < (n:Int)) {k:Nat} (hk:(k:Int) = x.f + 1) {v:Int} (hv:(gL n 0 es)[k]? = some v):gL n 0 (es ++ [x]) = (gL n 0 es).set k (v + 1):=by
 rw [gL_get (by omega),if_neg (by omega)] at hv
 injection hv with hv
 apply List.ext_getElem
 ·simp [gL]
 ·intro i g1 g2
  rw [List.getElem_set]
  simp only [gL,List.getElem_map,List.getElem_range]
  by_cases hik:k = i
  ·subst hik
   rw [if_pos rfl,if_neg (by omega),← hv,List.filter_append,List.length_append]
   have:[x].filter (fun y=>decide (y.f + 1 = (k:Int))) = [x]:=by simp;omega
   rw [this]
   simp
  ·rw [if_neg hik]
   by_cases hi:i ≤ 0
   ·rw [if_pos hi,if_pos hi]
    obtain rfl:i = 0:=by omega
    unfold fstN
    rw [List.filter_append,List.length_append]
    have:[x].filter (fun y=>decide (y.f < ((0:Nat):Int))) = []:=by simp;omega
    rw [this]
    simp
   ·rw [if_neg hi,if_neg hi,List.filter_append,List.length_append]
    have:[x].filter (fun y=>decide (y.f + 1 = (i:Int))) = []:=by simp;omega
    rw [this]
    simp
theorem fstN_succ (es:List Ed) (k:Int):fstN es (k + 1) = fstN es k + (es.filter (fun x=>decide (x.f + 1 = k + 1))).length:=by
 unfold fstN
 induction es with
 | nil=>rfl
 | cons x es ih =>
  simp only [List.filter_cons]
  by_cases h1:x.f < k
  ·rw [if_pos (by simp;omega),if_pos (by simp;omega),if_neg (by simp;omega)]
   simp only [List.length_cons];omega
  ·by_cases h2:x.f = k
   ·rw [if_pos (by simp;omega),if_neg (by simp;omega),if_pos (by simp;omega)]
    simp only [List.length_cons];omega
   ·rw [if_neg (by simp;omega),if_neg (by simp;omega),if_neg (by simp;omega)]
    exact ih
theorem gL_sum {n s:Nat} {es:List Ed} (hs:s < n) {v u:Int} (hv:(gL n s es)[s + 1]? = some v) (hu:(gL n s es)[s]? = some u):gL n (s + 1) es = (gL n s es).set (s + 1) (v + u):=by
 rw [gL_get (by omega),if_neg (by omega)] at hv
 rw [gL_get (by omega),if_pos (by omega)] at hu
 injection hv with hv
 injection hu with hu
 apply List.ext_getElem
 ·simp [gL]
 ·intro i g1 g2
  rw [List.getElem_set]
  simp only [gL,List.getElem_map,List.getElem_range]
  by_cases hik:s + 1 = i
  ·subst hik
   rw [if_pos rfl,if_pos (Nat.le_refl _),← hv,← hu]
   have:=fstN_succ es (s:Int)
   rw [show ((s + 1:Nat):Int) = (s:Int) + 1 by omega,this]
   omega
  ·rw [if_neg hik]
   by_cases hi:i ≤ s
   ·rw [if_pos hi,if_pos (by omega)]
   ·rw [if_neg hi,if_neg (by omega)]
theorem flt_nil {es:List Ed} {k:Int} (h:∀ x ∈ es,k ≤ x.f):es.filter (fun x=>decide (x.f < k)) = []:=by
 rw [List.filter_eq_nil_iff]
 intro x hx
 have:=h x hx
 simp;omega
theorem fstN_le (es:List Ed) (k:Int):fstN es k ≤ es.length:=List.length_filter_le _ _
theorem fstN_mono (es:List Ed) (k:Int):fstN es k ≤ fstN es (k + 1):=by rw [fstN_succ];omega
theorem edges_of:∀ {es:List Ed} (s:Int),es.Pairwise edLt → (es.drop (fstN es s)).take (fstN es (s + 1) - fstN es s) = es.filter (fun x=>decide (x.f = s))
 | [],s,_=>by simp [fstN]
 | x :: es,s,h=>by
  obtain ⟨h1,h2⟩:=List.pairwise_cons.1 h
  have ih:=edges_of s h2
  have hge:∀ y ∈ es,x.f ≤ y.f:=fun y hy=>by have:=h1 y hy;unfold edLt at this;omega
  by_cases ha:x.f < s
  ·have e1:fstN (x :: es) s = fstN es s + 1:=by unfold fstN;rw [List.filter_cons_of_pos (by simp;omega)];rfl
   have e2:fstN (x :: es) (s + 1) = fstN es (s + 1) + 1:=by unfold fstN;rw [List.filter_cons_of_pos (by simp;omega)];rfl
   rw [e1,e2,List.drop_succ_cons,show fstN es (s + 1) + 1 - (fstN es s + 1) = fstN es (s + 1) - fstN es s by omega,ih,List.filter_cons_of_neg (by simp;omega)]
  ·have e1:fstN (x :: es) s = 0:=by
    unfold fstN
    rw [flt_nil fun y hy=>?_]
    ·rfl
    ·rcases List.mem_cons.1 hy with rfl | hy
     ·omega
     ·have:=hge y hy;omega
   have e1':fstN es s = 0:=by
    unfold fstN
    rw [flt_nil fun y hy=>?_]
    ·rfl
    ·have:=hge y hy;omega
   rw [e1'] at ih
   by_cases hb:x.f = s
   ·have e2:fstN (x :: es) (s + 1) = fstN es (s + 1) + 1:=by unfold fstN;rw [List.filter_cons_of_pos (by simp;omega)];rfl
    rw [e1,e2,List.filter_cons_of_pos (by simp;omega),← ih]
    rfl
   ·have e2:fstN (x :: es) (s + 1) = 0:=by
     unfold fstN
     rw [flt_nil fun y hy=>?_]
     ·rfl
     ·rcases List.mem_cons.1 hy with rfl | hy
      ·omega
      ·have:=hge y hy;omega
    rw [e1,e2,List.filter_cons_of_neg (by simp;omega)]
    show [] = _
    symm
    rw [List.filter_eq_nil_iff]
    intro y hy
    have:=hge y hy
    simp;omega
theorem row_out {a:Aut} (h:WF a) (s:Int):(a.ed.drop (fstN a.ed s)).take (fstN a.ed (s + 1) - fstN a.ed s) = outE a s:=edges_of s h.einc
structure GrR (w:World) (B:Nat) (x:AV) (ba:Nat) (n:Nat):Prop where
 ok:x.ok w B
 wf:WF x.a
 st:x.a.st = (n:Int)
 arr:Blk w ba 3 (iv (fsts x.a.ed n))
 lt:ba < B
theorem GrR.keep {w w':World} {B:Nat} {x:AV} {ba n:Nat} (h:GrR w B x ba n) (hb:Below B w w'):GrR w' B x ba n:=⟨AutR.below h.ok hb,h.wf,h.st,h.arr.below hb h.lt,h.lt⟩
theorem GrR.more {w:World} {B B':Nat} {x:AV} {ba n:Nat} (h:GrR w B x ba n) (hB:B ≤ B'):GrR w B' x ba n:=⟨AutR.more h.ok hB,h.wf,h.st,h.arr,Nat.lt_of_lt_of_le h.lt hB⟩
def C4 (W:World) (b:Nat) (v0 v1 v2 v3:Value):Prop:=W.cell? ⟨b,0,none⟩ = some v0∧W.cell? ⟨b,1,none⟩ = some v1∧W.cell? ⟨b,2,none⟩ = some v2∧W.cell? ⟨b,3,none⟩ = some v3
theorem Blk.c4 {w:World} {b:Nat} {t:TypeId} {v0 v1 v2 v3:Value} {vs:List Value} (h:Blk w b t (v0 :: v1 :: v2 :: v3 :: vs)):C4 w b v0 v1 v2 v3:=⟨h.cell (j:=0) rfl,h.cell (j:=1) rfl,h.cell (j:=2) rfl,h.cell (j:=3) rfl⟩
def grc (x:AV) (ba n:Nat):List Value:=[.slice x.A x.na x.ca,.int .i64 x.a.st,.slice x.M x.nm x.cm,.slice x.E x.ne x.ce,.slice (some ⟨ba,0,none⟩) (n + 1) (n + 1)]
set_option maxRecDepth 100000 in
set_option maxHeartbeats 1600000 in
theorem newGraph_ok (x:AV) (w:World) (n:Nat) (hx:x.ok w w.heap.size) (hw:WF x.a) (hn:x.a.st = (n:Int)) :
  Calls Try.prog 56 #[.agg #[.slice x.A x.na x.ca,.int .i64 x.a.st,.slice x.M x.nm x.cm,.slice x.E x.ne x.ce]] w fun e w'=>∃ ba,e = .returned (.agg (grc x ba n).toArray)∧w.heap.size ≤ ba∧GrR w' w'.heap.size x ba n∧Below w.heap.size w w':=by
 obtain ⟨A,na,ca,M,nm,cm,E,ne,ce,a⟩:=x
 dsimp only at hw hn ⊢
 have hn4:n ≤ 4096:=by have:=hw.st1;omega
 obtain ⟨sv,hsv⟩:∃ s,a.st = s:=⟨_,rfl⟩
 have hb1:=box_below w (.cells #[.slice A na ca,.int .i64 a.st,.slice M nm cm,.slice E ne ce] 32)
 have hb2:=hb1.alloc hb1.size (.cells #[.slice none 0 0,.int .i64 0,.slice none 0 0,.slice none 0 0,.slice none 0 0] 105)
 obtain ⟨w1,hw1⟩:∃ w1,w1 = (w.alloc (.cells #[.slice A na ca,.int .i64 a.st,.slice M nm cm,.slice E ne ce] 32)).alloc (.cells #[.slice none 0 0,.int .i64 0,.slice none 0 0,.slice none 0 0,.slice none 0 0] 105):=⟨_,rfl⟩
 have kx:Blk w1 w.heap.size 32 [.slice A na ca,.int .i64 a.st,.slice M nm cm,.slice E ne ce]:=by rw [hw1];exact (Blk.new _ _ [_,_,_,_]).al _
 have kr:Blk w1 (w.heap.size + 1) 105 [.slice none 0 0,.int .i64 0,.slice none 0 0,.slice none 0 0,.slice none 0 0]:=by rw [hw1];exact Blk.at_ _ _ [_,_,_,_,_] (by simp)
 rw [← hw1] at hb2
 have hm:∀ W:World,(Instr.makeSlice 29 (.int .i64 ((n:Int) + 1)) (.int .i64 ((n:Int) + 1))).run Try.prog W = .ok (.slice (some ⟨W.heap.size,0,none⟩) (n + 1) (n + 1)) (W.alloc (.cells (madeCells #[.int .i64 0] (n + 1)) 3)):=fun W=>run_make_row' 29 3 (.int .i64 0) 8 Try.underlying29 int_info rfl .i64 .i64 (n + 1) (by omega) (by omega) W
 have hwp:IntKind.i64.wrap ((n:Int) + 1) = (n:Int) + 1:=IntWalk.i64_in _ (by omega)
 rw [hn] at kx hb1 hw1 ⊢
 have HW1:=Lib.hid hw1;clear hw1
 have HB1:=Lib.hid hb2;clear hb2
 have KX:=Lib.hid kx;clear kx
 have KR:=Lib.hid kr;clear kr
 have HX:=Lib.hid hx;clear hx
 have HWF:=Lib.hid hw;clear hw
 have HN:=Lib.hid hn;clear hn
 clear hb1 hsv sv
 go_enter Try.func56,Try.ntmps56
 go_upto_region 1 with fail
 rw [← HW1.out]
 have HG0:=Lib.hid (fun (W:World) (hb:Below w1.heap.size w1 W)=>Blk.c4 (KX.out.below hb KX.out.lt))
 go_cut [3] from 7 (fun s3 wx=>∃ ba bg:Nat,s3 = .pointer (some ⟨bg,0,none⟩)∧Hid (Blk wx ba 3 (iv (gL n 0 [])))∧Hid (Blk wx bg 105 [.slice A na ca,.int .i64 (n:Int),.slice M nm cm,.slice E ne ce,.slice (some ⟨ba,0,none⟩) (n + 1) (n + 1)])∧ba ≠ bg∧w1.heap.size ≤ ba∧w1.heap.size ≤ bg∧Hid (Below w1.heap.size w1 wx))
 case first =>
  refine wp_region_U (fun W=>C4 W w.heap.size (.slice A na ca) (.int .i64 (n:Int)) (.slice M nm cm) (.slice E ne ce)) (fun _=>True) 7 (by kernel_rfl) ?_
  change anyU _ _ _ _ _ _ _ 8 _ _ _
  have hB0:True:=trivial
  have HBD:=Lib.hid (below_dr w1)
  generalize w1.drew = wd at HBD ⊢
  have hA0:=HG0.out wd HBD.out
  (refine uA 0 ?_ rfl hA0 hB0 (fun W hA=>?_) ?_;rotate_left;(· (obtain ⟨a0,a1,a2,a3⟩:=hA;go_simp;try with_reducible rfl));(try simp only [Act.put,List.setIfInBounds_toArray,List.set_cons_zero,List.set_cons_succ]))
  (refine uA 1 ?_ rfl hA0 hB0 (fun W hA=>?_) ?_;rotate_left;(· (go_simp;try with_reducible rfl));(try simp only [Act.put,List.setIfInBounds_toArray,List.set_cons_zero,List.set_cons_succ]))
  (refine uA 2 ?_ rfl hA0 hB0 (fun W hA=>?_) ?_;rotate_left;(· (obtain ⟨a0,a1,a2,a3⟩:=hA;go_simp;try with_reducible rfl));(try simp only [Act.put,List.setIfInBounds_toArray,List.set_cons_zero,List.set_cons_succ]))
  (refine uA 3 ?_ rfl hA0 hB0 (fun W hA=>?_) ?_;rotate_left;(· (go_simp;try with_reducible rfl));(try simp only [Act.put,List.setIfInBounds_toArray,List.set_cons_zero,List.set_cons_succ]))
  have lb:=HBD.out.size
  refine uTwo (i:=4) (j:=6) rfl rfl (by kernel_rfl) (fun K hK=>?_) (fun K hK=>?_)
  ·go_simp
   have hbx:=box_below wd (.cells (madeCells #[.int .i64 0] (n + 1)) 3)
   have HA1:=Lib.hid (show Blk (wd.alloc (.cells (madeCells #[.int .i64 0] (n + 1)) 3)) wd.heap.size 3 (iv (gL n 0 [])) from by rw [gL_start,made_ints];exact Blk.new _ _ _)
   have HBX:=Lib.hid (HBD.out.trans (hbx.mono HBD.out.size))
   replace hA0:=HG0.out _ HBX.out
   have HSZ:=Lib.hid (show (wd.alloc (.cells (madeCells #[.int .i64 0] (n + 1)) 3)).heap.size = wd.heap.size + 1 by simp)
   (refine hK _ _ ⟨hA0,fun _=>hB0⟩ ?_;clear hK K;(try simp only [Act.put,List.setIfInBounds_toArray,List.set_cons_zero,List.set_cons_succ]))
   generalize wd.alloc (.cells (madeCells #[.int .i64 0] (n + 1)) 3) = we at HA1 HBX hA0 HSZ ⊢
   (refine uA 5 ?_ rfl hA0 hB0 (fun W hA=>?_) ?_;rotate_left;(· (go_simp;try with_reducible rfl));(try simp only [Act.put,List.setIfInBounds_toArray,List.set_cons_zero,List.set_cons_succ]))
   refine uOne (i:=6) rfl (by kernel_rfl) (fun K hK=>?_)
   go_simp
   have hAz:=HG0.out _ (HBX.out.alloc HBX.out.size (.cells #[.slice none 0 0,.int .i64 0,.slice none 0 0,.slice none 0 0,.slice none 0 0] 105))
   (refine hK _ _ ⟨hAz,fun _=>hB0⟩ ?_;clear hK K;(try simp only [Act.put,List.setIfInBounds_toArray,List.set_cons_zero,List.set_cons_succ]))
   have hy:=box_below we (.cells #[.slice A na ca,.int .i64 (n:Int),.slice M nm cm,.slice E ne ce,.slice (some ⟨wd.heap.size,0,none⟩) (n + 1) (n + 1)] 105)
   have HV:=Lib.hid (show Blk (we.alloc (.cells #[.slice A na ca,.int .i64 (n:Int),.slice M nm cm,.slice E ne ce,.slice (some ⟨wd.heap.size,0,none⟩) (n + 1) (n + 1)] 105)) we.heap.size 105 [.slice A na ca,.int .i64 (n:Int),.slice M nm cm,.slice E ne ce,.slice (some ⟨wd.heap.size,0,none⟩) (n + 1) (n + 1)] from Blk.new _ _ [_,_,_,_,_])
   have HA2:=Lib.hid (HA1.out.below hy HA1.out.lt)
   have HF:=Lib.hid (HBX.out.trans (hy.mono HBX.out.size))
   have hAf:=HG0.out _ HF.out
   refine uOne (i:=7) rfl (by kernel_rfl) (fun K hK=>?_)
   go_simp
   (refine hK _ _ ⟨hAf,fun _=>hB0⟩ ?_;clear hK K;(try simp only [Act.put,List.setIfInBounds_toArray,List.set_cons_zero,List.set_cons_succ]))
   refine anyU_done (by kernel_rfl) ?_ _
   clear hAz hAf hy
   go_wp2_with fail
   go_meet
   case rel=>exact ⟨wd.heap.size,we.heap.size,rfl,HA2,HV,by have:=HSZ.out;omega,by omega,by have:=HSZ.out;omega,HF⟩
  ·go_simp
   have hbx:=box_below wd (.cells #[.slice none 0 0,.int .i64 0,.slice none 0 0,.slice none 0 0,.slice none 0 0] 105)
   have HK1:=Lib.hid (show Blk (wd.alloc (.cells #[.slice none 0 0,.int .i64 0,.slice none 0 0,.slice none 0 0,.slice none 0 0] 105)) wd.heap.size 105 [.slice none 0 0,.int .i64 0,.slice none 0 0,.slice none 0 0,.slice none 0 0] from Blk.new _ _ [_,_,_,_,_])
   have HBX:=Lib.hid (HBD.out.trans (hbx.mono HBD.out.size))
   replace hA0:=HG0.out _ HBX.out
   have HSZ:=Lib.hid (show (wd.alloc (.cells #[.slice none 0 0,.int .i64 0,.slice none 0 0,.slice none 0 0,.slice none 0 0] 105)).heap.size = wd.heap.size + 1 by simp)
   (refine hK _ _ ⟨hA0,fun _=>hB0⟩ ?_;clear hK K;(try simp only [Act.put,List.setIfInBounds_toArray,List.set_cons_zero,List.set_cons_succ]))
   generalize wd.alloc (.cells #[.slice none 0 0,.int .i64 0,.slice none 0 0,.slice none 0 0,.slice none 0 0] 105) = we at HK1 HBX hA0 HSZ ⊢
   refine uOne (i:=4) rfl (by kernel_rfl) (fun K hK=>?_)
   go_simp
   have hby:=box_below we (.cells (madeCells #[.int .i64 0] (n + 1)) 3)
   have HA1:=Lib.hid (show Blk (we.alloc (.cells (madeCells #[.int .i64 0] (n + 1)) 3)) we.heap.size 3 (iv (gL n 0 [])) from by rw [gL_start,made_ints];exact Blk.new _ _ _)
   have HK2:=Lib.hid (HK1.out.below hby HK1.out.lt)
   have HBY:=Lib.hid (HBX.out.trans (hby.mono HBX.out.size))
   replace hA0:=HG0.out _ HBY.out
   (refine hK _ _ ⟨hA0,fun _=>hB0⟩ ?_;clear hK K;(try simp only [Act.put,List.setIfInBounds_toArray,List.set_cons_zero,List.set_cons_succ]))
   generalize we.alloc (.cells (madeCells #[.int .i64 0] (n + 1)) 3) = wf at HA1 HK2 HBY hA0 ⊢
   (refine uA 5 ?_ rfl hA0 hB0 (fun W hA=>?_) ?_;rotate_left;(· (go_simp;try with_reducible rfl));(try simp only [Act.put,List.setIfInBounds_toArray,List.set_cons_zero,List.set_cons_succ]))
   refine uOne (i:=7) rfl (by kernel_rfl) (fun K hK=>?_)
   have f0:=HK2.out.free 0
   have f1:=HK2.out.free 1
   have f2:=HK2.out.free 2
   have f3:=HK2.out.free 3
   have f4:=HK2.out.free 4
   have e0:=HK2.out.cell (j:=0) rfl
   have e1:=HK2.out.cell (j:=1) rfl
   have e2:=HK2.out.cell (j:=2) rfl
   have e3:=HK2.out.cell (j:=3) rfl
   have e4:=HK2.out.cell (j:=4) rfl
   have l9:=HK2.out.lt
   have HV:=Lib.hid (((((HK2.out.set (j:=0) (by simp) (.slice A na ca)).set (j:=1) (by simp) (.int .i64 (n:Int))).set (j:=2) (by simp) (.slice M nm cm)).set (j:=3) (by simp) (.slice E ne ce)).set (j:=4) (by simp) (.slice (some ⟨we.heap.size,0,none⟩) (n + 1) (n + 1)))
   have hgr:=((((grown_setCell wf wd.heap.size 0 (.slice A na ca)).trans (grown_setCell _ wd.heap.size 1 (.int .i64 (n:Int)))).trans (grown_setCell _ wd.heap.size 2 (.slice M nm cm))).trans (grown_setCell _ wd.heap.size 3 (.slice E ne ce))).trans (grown_setCell _ wd.heap.size 4 (.slice (some ⟨we.heap.size,0,none⟩) (n + 1) (n + 1)))
   have HA2:=Lib.hid (HA1.out.kept hgr (by intro e;injection e with e;have:=HSZ.out;omega))
   have HF:=Lib.hid (HBY.out.grown hgr HBY.out.size (fun k e=>by injection e with e;omega))
   have hAf:=HG0.out _ HF.out
   go_simp
   (refine hK _ _ ⟨hAf,fun _=>hB0⟩ ?_;clear hK K;(try simp only [Act.put,List.setIfInBounds_toArray,List.set_cons_zero,List.set_cons_succ]))
   refine anyU_done (by kernel_rfl) ?_ _
   clear hAf f0 f1 f2 f3 f4 e0 e1 e2 e3 e4 l9 hgr
   go_wp2_with fail
   go_meet
   case rel=>exact ⟨we.heap.size,wd.heap.size,rfl,HA2,HV,by have:=HSZ.out;omega,by have:=HSZ.out;omega,by omega,HF⟩
 case rest =>
  obtain ⟨ba,bg,rfl,HAR,HGB,hne,hla,hlg,HBC⟩:=hcut
  have hle:=HX.out.le
  have hec:=HX.out.ec
  have hcE:=HX.out.cE
  have hedl:=HWF.out.ed_le
  rw [hle] at hedl
  have HLE:=Lib.hid hle
  have l1:w.heap.size + 1 < w1.heap.size:=KR.out.lt
  have c1:=(HG0.out wc HBC.out).2.1
  have c3:=(HG0.out wc HBC.out).2.2.2
  clear hm HW1 hle
  go_wp2
  clear c3
  go_loopw [5,16] (fun s5 s16 wr=>∃ (q:Nat) (v5:Value),s16 = .int .i64 q∧s5 = v5∧q ≤ ne∧Hid (Blk wr ba 3 (iv (gL n 0 (a.ed.take q))))∧Hid (Blk wr bg 105 [.slice A na ca,.int .i64 (n:Int),.slice M nm cm,.slice E ne ce,.slice (some ⟨ba,0,none⟩) (n + 1) (n + 1)])∧Hid (Below w1.heap.size w1 wr)) (fun _ s16 _=>ne - (intOf s16).toNat)
  case atStart=>exact ⟨0,_,rfl,rfl,Nat.zero_le _,HAR,HGB,HBC⟩
  case round =>
   clear HAR HGB HBC
   obtain ⟨q,v5,rfl,rfl,hq,HAR,HGB,HBC⟩:=hrel
   by_cases hlt:q < ne
   ·obtain ⟨ad,e,hA,hbb,he,q0,q1,q2⟩:=((HX.out.re.below (HB1.out.trans (HBC.out.mono HB1.out.size))).more (HB1.out.trans (HBC.out.mono HB1.out.size)).size).at_ (k:=q) (by rw [HLE.out];exact hlt)
    have b1:(q:Int) < (ne:Int):=by omega
    have p1:wr.cell? ⟨(ad.add (q * 3)).block,(ad.add (q * 3)).off + 1,none⟩ = some (.int .i64 e.e):=st_cells (j:=0) q1
    have p2:wr.cell? ⟨(ad.add (q * 3)).block,(ad.add (q * 3)).off + 2,none⟩ = some (.int .i64 e.t):=st_cells (j:=1) q2
    clear q1 q2
    have hev:=HWF.out.ev_rng (List.mem_of_getElem? he)
    rw [HN.out] at hev
    obtain ⟨kk,hkk⟩:∃ k:Nat,(k:Int) = e.f + 1:=⟨(e.f + 1).toNat,by omega⟩
    have hvk:=gL_get (n:=n) (s:=0) (es:=a.ed.take q) (k:=kk) (by omega)
    obtain ⟨vv,hvv⟩:∃ v,(if kk ≤ 0 then (fstN (a.ed.take q) (kk:Int):Int) else (((a.ed.take q).filter (fun y=>decide (y.f + 1 = (kk:Int)))).length:Int)) = v:=⟨_,rfl⟩
    rw [hvv] at hvk
    have hvr:0 ≤ vv∧vv ≤ 1000000:=by
     rw [if_neg (by omega)] at hvv
     have:=List.length_filter_le (fun y=>decide (y.f + 1 = (kk:Int))) (a.ed.take q)
     have:=List.length_take_le q a.ed
     omega
    have HGN:=Lib.hid (gL_edge (n:=n) (es:=a.ed.take q) hev.1 hev.2.1 hkk hvk)
    rw [← take_snoc' he] at HGN
    have g4:wr.cell? ⟨bg,4,none⟩ = some (.slice (some ⟨ba,0,none⟩) (n + 1) (n + 1)):=HGB.out.cell (j:=4) rfl
    have g1:wr.cell? ⟨ba,kk,none⟩ = some (.int .i64 vv):=HAR.out.cell (by unfold iv;rw [List.getElem?_map,hvk];rfl)
    have g2:wr.frozen? ⟨ba,kk,none⟩ = false:=HAR.out.free _
    have g3:ba < wr.heap.size:=HAR.out.lt
    have g5:bg < wr.heap.size:=HGB.out.lt
    have g6:(e.f + 1).toNat = kk:=by omega
    have hsv:=HAR.out.set (j:=kk) (by rw [show (iv (gL n 0 (a.ed.take q))).length = n + 1 by unfold iv;rw [List.length_map,gL_len]];omega) (.int .i64 (vv + 1))
    rw [iv_set,← HGN.out] at hsv
    have HAR2:=Lib.hid (hsv.al (.cells #[.int .i64 e.f,.int .i64 e.e,.int .i64 e.t] 67))
    have hgr:=grown_setCell wr ba kk (.int .i64 (vv + 1))
    have HGB2:=Lib.hid ((HGB.out.kept hgr (by intro e;injection e with e;omega)).al (.cells #[.int .i64 e.f,.int .i64 e.e,.int .i64 e.t] 67))
    have hbc2:=HBC.out.setCell (p:=⟨ba,kk,none⟩) hla (.int .i64 (vv + 1))
    have HBC2:=Lib.hid (hbc2.alloc hbc2.size (.cells #[.int .i64 e.f,.int .i64 e.e,.int .i64 e.t] 67))
    have hkn:kk < n + 1:=by omega
    replace hA:E = some ad:=hA
    subst hA
    clear hvk hvv hgr hbb he hsv hbc2
    go_wp2
    go_roundw
    case rel=>exact ⟨q + 1,_,by go_num,rfl,by omega,HAR2,HGB2,HBC2⟩
    case measure=>simp [intOf];omega
   ·obtain rfl:q = ne:=by omega
    have b1:¬ (q:Int) < (q:Int):=by omega
    have hta:a.ed.take q = a.ed:=List.take_of_length_le (by rw [HLE.out];exact Nat.le_refl _)
    rw [hta] at HAR
    clear hta
    have d1:=(HG0.out wr HBC.out).2.1
    go_wp2
    clear d1
    go_loopw [6,32] (fun s6 s32 wr=>∃ (t:Nat) (v6:Value),s32 = .int .i64 t∧s6 = v6∧t ≤ n∧Hid (Blk wr ba 3 (iv (gL n t a.ed)))∧Hid (Blk wr bg 105 [.slice A na ca,.int .i64 (n:Int),.slice M nm cm,.slice E q ce,.slice (some ⟨ba,0,none⟩) (n + 1) (n + 1)])∧Hid (Below w1.heap.size w1 wr)) (fun _ s32 _=>n - (intOf s32).toNat)
    case atStart=>exact ⟨0,_,rfl,rfl,Nat.zero_le _,HAR,HGB,HBC⟩
    case round =>
     clear HAR HGB HBC
     obtain ⟨t,v6,rfl,rfl,ht,HAR,HGB,HBC⟩:=hrel
     by_cases htn:t < n
     ·have b2:(t:Int) < (n:Int):=by omega
      obtain ⟨v,hv⟩:∃ v,(gL n t a.ed)[t + 1]? = some v:=⟨_,gL_get (by omega)⟩
      obtain ⟨u,hu⟩:∃ v,(gL n t a.ed)[t]? = some v:=⟨_,gL_get (by omega)⟩
      have HGN:=Lib.hid (gL_sum htn hv hu)
      have hvr:0 ≤ v∧v ≤ 1000000:=by
       rw [gL_get (by omega),if_neg (by omega)] at hv
       injection hv with hv
       have:=List.length_filter_le (fun y=>decide (y.f + 1 = ((t + 1:Nat):Int))) a.ed
       have:=HLE.out
       omega
      have hur:0 ≤ u∧u ≤ 1000000:=by
       rw [gL_get (by omega),if_pos (by omega)] at hu
       injection hu with hu
       have:=fstN_le a.ed (t:Int)
       have:=HLE.out
       omega
      have hsv:=HAR.out.set (j:=t + 1) (by rw [show (iv (gL n t a.ed)).length = n + 1 by unfold iv;rw [List.length_map,gL_len]];omega) (.int .i64 (v + u))
      rw [iv_set,← HGN.out] at hsv
      have g4:∀ W,Below wr.heap.size wr W → W.cell? ⟨bg,4,none⟩ = some (.slice (some ⟨ba,0,none⟩) (n + 1) (n + 1))∧W.cell? ⟨ba,t + 1,none⟩ = some (.int .i64 v)∧W.cell? ⟨ba,t,none⟩ = some (.int .i64 u):=fun W hb =>
       ⟨(HGB.out.below hb HGB.out.lt).cell (j:=4) rfl,(HAR.out.below hb HAR.out.lt).cell (by unfold iv;rw [List.getElem?_map,hv];rfl),(HAR.out.below hb HAR.out.lt).cell (by unfold iv;rw [List.getElem?_map,hu];rfl)⟩
      have hwt:IntKind.i64.wrap ((t:Int) + 1) = (t:Int) + 1:=IntWalk.i64_in _ (by omega)
      have hwu:IntKind.i64.wrap (v + u) = v + u:=IntWalk.i64_in _ (by omega)
      have ht1:((t:Int) + 1).toNat = t + 1:=by omega
      have ht2:t + 1 < n + 1:=by omega
      have ht3:t < n + 1:=by omega
      have ht0:(0:Int) ≤ (t:Int) + 1:=by omega
      have ht4:(t:Int) + 1 < (n:Int) + 1:=by omega
      have ht5:(t:Int) < (n:Int) + 1:=by omega
      go_upto_region 10 with fail
      refine wp_region_U (fun W=>W.cell? ⟨bg,4,none⟩ = some (.slice (some ⟨ba,0,none⟩) (n + 1) (n + 1))∧W.cell? ⟨ba,t,none⟩ = some (.int .i64 u)) (fun W=>W.cell? ⟨ba,t + 1,none⟩ = some (.int .i64 v)) 13 (by kernel_rfl) ?_
      change anyU _ _ _ _ _ _ _ 14 _ _ _
      have hbd:=below_dr wr
      have hA0:=show wr.drew.cell? ⟨bg,4,none⟩ = some (.slice (some ⟨ba,0,none⟩) (n + 1) (n + 1))∧wr.drew.cell? ⟨ba,t,none⟩ = some (.int .i64 u) from ⟨(g4 _ hbd).1,(g4 _ hbd).2.2⟩
      have hB0:=(g4 _ hbd).2.1
      have HAD:=Lib.hid (HAR.out.below hbd HAR.out.lt)
      have HGD:=Lib.hid (HGB.out.below hbd HGB.out.lt)
      have HBD:=Lib.hid (HBC.out.trans (hbd.mono HBC.out.size))
      clear hbd g4
      generalize wr.drew = wd at hA0 hB0 HAD HGD HBD ⊢
      (refine uA 0 ?_ rfl hA0 hB0 (fun W hA=>?_) ?_;rotate_left;(· (go_simp;try with_reducible rfl));(try simp only [Act.put,List.setIfInBounds_toArray,List.set_cons_zero,List.set_cons_succ]))
      (refine uA 1 ?_ rfl hA0 hB0 (fun W hA=>?_) ?_;rotate_left;(· (obtain ⟨a0,_⟩:=hA;go_simp;try with_reducible rfl));(try simp only [Act.put,List.setIfInBounds_toArray,List.set_cons_zero,List.set_cons_succ]))
      (refine uA 2 ?_ rfl hA0 hB0 (fun W hA=>?_) ?_;rotate_left;(· (go_simp;try with_reducible rfl));refine uA 3 ?_ rfl hA0 hB0 (fun W hA=>?_) ?_;rotate_left;(· (go_simp;try with_reducible rfl));refine uA 4 ?_ rfl hA0 hB0 (fun W hA=>?_) ?_;rotate_left;(· (go_simp;try with_reducible rfl));(try simp only [Act.put,List.setIfInBounds_toArray,List.set_cons_zero,List.set_cons_succ]))
      (refine uB 5 ?_ rfl hA0 hB0 (fun W hA hB=>?_) ?_;rotate_left;(· (go_simp;try with_reducible rfl));(try simp only [Act.put,List.setIfInBounds_toArray,List.set_cons_zero,List.set_cons_succ]))
      (refine uA 6 ?_ rfl hA0 hB0 (fun W hA=>?_) ?_;rotate_left;(· (go_simp;try with_reducible rfl));(try simp only [Act.put,List.setIfInBounds_toArray,List.set_cons_zero,List.set_cons_succ]))
      (refine uA 7 ?_ rfl hA0 hB0 (fun W hA=>?_) ?_;rotate_left;(· (obtain ⟨a0,_⟩:=hA;go_simp;try with_reducible rfl));(try simp only [Act.put,List.setIfInBounds_toArray,List.set_cons_zero,List.set_cons_succ]))
      (refine uA 8 ?_ rfl hA0 hB0 (fun W hA=>?_) ?_;rotate_left;(· (go_simp;try with_reducible rfl));refine uA 9 ?_ rfl hA0 hB0 (fun W hA=>?_) ?_;rotate_left;(· (go_simp;try with_reducible rfl));(try simp only [Act.put,List.setIfInBounds_toArray,List.set_cons_zero,List.set_cons_succ]))
      (refine uA 10 ?_ rfl hA0 hB0 (fun W hA=>?_) ?_;rotate_left;(· (obtain ⟨_,a0⟩:=hA;go_simp;try with_reducible rfl));(try simp only [Act.put,List.setIfInBounds_toArray,List.set_cons_zero,List.set_cons_succ]))
      (refine uA 11 ?_ rfl hA0 hB0 (fun W hA=>?_) ?_;rotate_left;(· (go_simp;try with_reducible rfl));refine uA 12 ?_ rfl hA0 hB0 (fun W hA=>?_) ?_;rotate_left;(· (go_simp;try with_reducible rfl));(try simp only [Act.put,List.setIfInBounds_toArray,List.set_cons_zero,List.set_cons_succ]))
      refine uOne (i:=13) rfl (by kernel_rfl) (fun K hK=>?_)
      have f1:=HAD.out.free (t + 1)
      have e1:=hB0
      have l2:=HAD.out.lt
      have hsv2:=HAD.out.set (j:=t + 1) (by rw [show (iv (gL n t a.ed)).length = n + 1 by unfold iv;rw [List.length_map,gL_len]];omega) (.int .i64 (v + u))
      rw [iv_set,← HGN.out] at hsv2
      have HAR2:=Lib.hid hsv2
      have HGB2:=Lib.hid (HGD.out.kept (grown_setCell wd ba (t + 1) (.int .i64 (v + u))) (by intro e;injection e with e;omega))
      have HBC2:=Lib.hid (HBD.out.setCell (p:=⟨ba,t + 1,none⟩) hla (.int .i64 (v + u)))
      have hA1:(wd.setCell ⟨ba,t + 1,none⟩ (.int .i64 (v + u))).cell? ⟨bg,4,none⟩ = some (.slice (some ⟨ba,0,none⟩) (n + 1) (n + 1))∧(wd.setCell ⟨ba,t + 1,none⟩ (.int .i64 (v + u))).cell? ⟨ba,t,none⟩ = some (.int .i64 u) :=
       ⟨HGB2.out.cell (j:=4) rfl,HAR2.out.cell (by
        have h1:=gL_get (n:=n) (s:=t) (es:=a.ed) (k:=t) (by omega)
        rw [hu] at h1
        have h2:=gL_get (n:=n) (s:=t + 1) (es:=a.ed) (k:=t) (by omega)
        rw [if_pos (by omega)] at h1 h2
        unfold iv
        rw [List.getElem?_map,h2,← h1];rfl)⟩
      clear hsv hsv2
      go_simp
      (refine hK _ _ ⟨hA1,fun h=>absurd (h.symm.trans (by kernel_rfl:_ = true)) Bool.false_ne_true⟩ ?_;clear hK K;(try simp only [Act.put,List.setIfInBounds_toArray,List.set_cons_zero,List.set_cons_succ]))
      refine anyU_done (by kernel_rfl) ?_ _
      clear hA0 hB0 hA1 f1 e1 l2 hv hu
      go_wp2
      go_roundw
      case rel=>exact ⟨t + 1,_,by go_num,rfl,by omega,HAR2,HGB2,HBC2⟩
      case measure=>simp [intOf];omega
     ·obtain rfl:t = n:=by omega
      have b2:¬ (t:Int) < (t:Int):=by omega
      rw [gL_end] at HAR
      have e0:=HGB.out.cell (j:=0) rfl
      have e1:=HGB.out.cell (j:=1) rfl
      have e2:=HGB.out.cell (j:=2) rfl
      have e3:=HGB.out.cell (j:=3) rfl
      have e4:=HGB.out.cell (j:=4) rfl
      have kr9:=KR.out.below HBC.out KR.out.lt
      have f0:=kr9.free 0
      have f1:=kr9.free 1
      have f2:=kr9.free 2
      have f3:=kr9.free 3
      have f4:=kr9.free 4
      have r0:=kr9.cell (j:=0) rfl
      have r1:=kr9.cell (j:=1) rfl
      have r2:=kr9.cell (j:=2) rfl
      have r3:=kr9.cell (j:=3) rfl
      have r4:=kr9.cell (j:=4) rfl
      have l9:=kr9.lt
      have HV5:=Lib.hid (((((kr9.set (j:=0) (by simp) (.slice A na ca)).set (j:=1) (by simp) (.int .i64 (t:Int))).set (j:=2) (by simp) (.slice M nm cm)).set (j:=3) (by simp) (.slice E q ce)).set (j:=4) (by simp) (.slice (some ⟨ba,0,none⟩) (t + 1) (t + 1)))
      have hgr:=((((grown_setCell wr (w.heap.size + 1) 0 (.slice A na ca)).trans (grown_setCell _ (w.heap.size + 1) 1 (.int .i64 (t:Int)))).trans (grown_setCell _ (w.heap.size + 1) 2 (.slice M nm cm))).trans (grown_setCell _ (w.heap.size + 1) 3 (.slice E q ce))).trans (grown_setCell _ (w.heap.size + 1) 4 (.slice (some ⟨ba,0,none⟩) (t + 1) (t + 1)))
      have HA2:=Lib.hid (HAR.out.kept hgr (by intro e;injection e with e;omega))
      have HB2:=Lib.hid ((HB1.out.trans (HBC.out.mono HB1.out.size)).grown hgr (by have:=HB1.out.size;have:=HBC.out.size;omega) (fun k e=>by injection e with e;omega))
      have HSZ:=Lib.hid hgr.size
      clear kr9 hgr
      go_wp2
      have z0:=HV5.out.cell (j:=0) rfl
      have z1:=HV5.out.cell (j:=1) rfl
      have z2:=HV5.out.cell (j:=2) rfl
      have z3:=HV5.out.cell (j:=3) rfl
      have z4:=HV5.out.cell (j:=4) rfl
      refine bodyPost_ret (v:=.agg #[.slice A na ca,.int .i64 (t:Int),.slice M nm cm,.slice E q ce,.slice (some ⟨ba,0,none⟩) (t + 1) (t + 1)]) (by simp [results,Try.results56,go_sem,z0,z1,z2,z3,z4]) rfl ?_
      refine ⟨ba,by rw [show (grc ⟨A,na,ca,M,nm,cm,E,q,ce,a⟩ ba t).toArray = #[.slice A na ca,.int .i64 a.st,.slice M nm cm,.slice E q ce,.slice (some ⟨ba,0,none⟩) (t + 1) (t + 1)] from rfl,HN.out],by have:=HB1.out.size;omega,⟨?_,HWF.out,HN.out,HA2.out,HA2.out.lt⟩,HB2.out⟩
      exact AutR.more (AutR.below HX.out HB2.out) HB2.out.size
end Go.Proofs.Ytdnmpndnpfklcaa

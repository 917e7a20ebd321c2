/- Walks: automaton.out. -/
import Derived.Test.YtdnmpndnpfklcaaUc
import Derived.Test.YtdnmpndnpfklcaaSa
import Derived.Test.YtdnmpndnpfklcaaQa
import Derived.Shelf.Abstract
import Derived.Test.YtdnmpndnpfklcaaUe
import Derived.Shelf.RegionOpen
import Derived.OwnWalkIn
import Derived.TacticsInMore
import Derived.LoopNIn
import Derived.LoopIn

namespace Go.Proofs.Ytdnmpndnpfklcaa
open Go.RowKit Go Go.Maps
theorem RdX.sub {w:World} {B:Nat} {E:Option Addr} {l:List Ed} (h:RdX w B E l) (i m:Nat):RdX w B (E.map (fun x=>x.add (i * 3))) ((l.drop i).take m):=fun k e he=>by
 rw [List.getElem?_take] at he
 split at he
 ·rw [List.getElem?_drop] at he
  obtain ⟨ad,rfl,hb,hc⟩:=h (i + k) e he
  refine ⟨ad.add (i * 3),rfl,by rw [block_of_add];exact hb,fun j u hj=>?_⟩
  rw [add_of_add,show i * 3 + (k * 3 + j) = (i + k) * 3 + j by omega]
  exact hc j u hj
 ·cases he
end Go.Proofs.Ytdnmpndnpfklcaa
/- Walks: automaton.next's closure, slices.IndexFunc at edges. -/
namespace Go.Proofs.Ytdnmpndnpfklcaa
open Go.RowKit Go Go.Maps
end Go.Proofs.Ytdnmpndnpfklcaa
/- Walks: automaton.next. -/
namespace Go.Proofs.Ytdnmpndnpfklcaa
open Go.RowKit Go Go.Maps
end Go.Proofs.Ytdnmpndnpfklcaa
/- Walks: automaton.follow, reached, Generates, Accepts. -/
namespace Go.Proofs.Ytdnmpndnpfklcaa
open Go.RowKit Go Go.Maps
end Go.Proofs.Ytdnmpndnpfklcaa
/- Walks: automaton.Run where nothing is amiss. -/
namespace Go.Proofs.Ytdnmpndnpfklcaa
open Go.RowKit Go
end Go.Proofs.Ytdnmpndnpfklcaa

/- Models of diagnosability in memory; walks: reach.Dead, diagnosability.Check, classed. -/
namespace Go.Proofs.Ytdnmpndnpfklcaa
open Go.RowKit Go
end Go.Proofs.Ytdnmpndnpfklcaa

/- Walks: the graph's edges, its iterator. -/
namespace Go.Proofs.Ytdnmpndnpfklcaa
open Go.RowKit Go
attribute [local go_sem] Oper.semAt_some
def evl (e:Ed):Value:=.agg #[.int .i64 e.f,.int .i64 e.e,.int .i64 e.t]
def KpG (n₀ b1 b2:Nat) (W W':World):Prop:=Below n₀ W W'∧(∀ t vs,Blk W b1 t vs → Blk W' b1 t vs)∧∀ t vs,Blk W b2 t vs → Blk W' b2 t vs
theorem KpG.t {n₀ b1 b2:Nat} {A B C:World} (h:KpG n₀ b1 b2 A B) (k:KpG n₀ b1 b2 B C):KpG n₀ b1 b2 A C :=
 ⟨h.1.trans k.1,fun t vs hb=>k.2.1 t vs (h.2.1 t vs hb),fun t vs hb=>k.2.2 t vs (h.2.2 t vs hb)⟩
theorem blk_putObj {W:World} {b l:Nat} {o o':Obj} {t:TypeId} {vs:List Value} (hb:Blk W b t vs) (h:W.heap[l]? = some o) (hc:o.isCells = false):Blk (W.putObj l o') b t vs:=by
 refine hb.kept (grownBy_putObj' W l o') ?_
 intro e
 injection e with e
 subst e
 rw [show W.heap[b]? = _ from hb] at h
 injection h with h
 subst h
 cases hc
theorem KpG.b {n₀ b1 b2:Nat} {w:World} (hn:n₀ ≤ w.heap.size) (W:World) (l:Nat) (o o':Obj) (hl:w.heap.size ≤ l) (h:W.heap[l]? = some o) (hc:o.isCells = false) (hw:o.isWalk = false):KpG n₀ b1 b2 W (W.putObj l o') :=
 ⟨belowK_b hn W l o o' hl h hc hw,fun _ _ hb=>blk_putObj hb h hc,fun _ _ hb=>blk_putObj hb h hc⟩
theorem edges_ok (x:AV) (ba n:Nat) (s:Int) (w:World) :
  Calls Try.prog 69 #[.agg (grc x ba n).toArray,.int .i64 s] w fun e w'=>e = .returned (.func (.func 89) #[] #[.pointer (some ⟨w.heap.size,0,none⟩),.pointer (some ⟨w.heap.size + 1,0,none⟩)])∧w' = (w.alloc (.cells (grc x ba n).toArray 105)).alloc (.cells #[.int .i64 s] 3):=by
 go_enter Try.func69,Try.ntmps69
 go_wp2
 go_ret
 exact ⟨rfl,rfl⟩
theorem abides_below {β:Type} {B:Nat} {J:β → World → Prop} (h:AbidesFrom B J) {s:β} {W W':World} (hj:J s W) (hb:Below W.heap.size W W'):J s W' :=
 h s W W' none hj ⟨hb.os,hb.tape,hb.output,hb.size,fun k hk _=>hb.block k hk⟩ (fun r e=>by cases e)
set_option maxRecDepth 100000 in
set_option maxHeartbeats 1600000 in
theorem edges1_in (m:Nat) (hm:1 ≤ m) (l bg bs n₀ n s ba:Nat) (x:AV) (hs:s < n) (J Jx:List Ed → World → Prop) (W:World)
  (hY:∀ pre e W1,e ∈ outE x.a s → J pre W1 → pre.length < (outE x.a s).length → YieldAt Fence.wide (m - 1) Try.prog l #[evl e] W1 fun r W' =>
   (r = .returned (.bool true)∧J (pre ++ [e]) W'∧KpG n₀ bg bs W1 W') ∨ (r = .returned (.bool false)∧Jx (pre ++ [e]) W'))
  (hJ:AbidesFrom W.heap.size J) (hg:Blk W bg 105 (grc x ba n)) (hbs:Blk W bs 3 [.int .i64 (s:Int)]) (hr:GrR W n₀ x ba n) (hn0:n₀ ≤ W.heap.size) (h0:J [] W) :
  CallsIn Fence.wide m Try.prog 89 #[.func (.yield l) #[] #[],.pointer (some ⟨bg,0,none⟩),.pointer (some ⟨bs,0,none⟩)] W fun e W'=>(∃ v,e = .returned v) ∧
   ((∃ ys,ys = outE x.a s∧J ys W') ∨ (∃ pre,pre <+: outE x.a s∧Jx pre W')):=by
 obtain ⟨A,na,ca,M,nm,cm,E,ne,ce,a⟩:=x
 dsimp only at hY ⊢
 have hst:a.st = (n:Int):=hr.st
 have hwf:WF a:=hr.wf
 have hrow:=row_out hwf (s:Int)
 have hn4:n ≤ 4096:=by have:=hwf.st1;omega
 have hle:a.ed.length = ne:=hr.ok.le
 have hec:ne ≤ ce:=hr.ok.ec
 have hcE:ce ≤ 9223372036854775807:=hr.ok.cE
 obtain ⟨f1,hf1⟩:∃ k,fstN a.ed (s:Int) = k:=⟨_,rfl⟩
 obtain ⟨f2,hf2⟩:∃ k,fstN a.ed ((s:Int) + 1) = k:=⟨_,rfl⟩
 have hf12:f1 ≤ f2:=by rw [← hf1,← hf2];exact fstN_mono a.ed s
 have hf2e:f2 ≤ ne:=by rw [← hf2,← hle];exact fstN_le a.ed _
 rw [hf1,hf2] at hrow
 have hk1:(fsts a.ed n)[s]? = some (f1:Int):=by unfold fsts;rw [List.getElem?_map,List.getElem?_range (by omega)];simp [hf1]
 have hk2:(fsts a.ed n)[s + 1]? = some (f2:Int):=by unfold fsts;rw [List.getElem?_map,List.getElem?_range (by omega)];simp only [Option.map_some];rw [show ((s + 1:Nat):Int) = (s:Int) + 1 by omega,hf2]
 have HFX:=Lib.hid (fun (V:World) (hb:Below W.heap.size W V)=>(show (V.cell? ⟨bg,3,none⟩ = some (.slice E ne ce)∧V.cell? ⟨bg,4,none⟩ = some (.slice (some ⟨ba,0,none⟩) (n + 1) (n + 1)))∧V.cell? ⟨bs,0,none⟩ = some (.int .i64 (s:Int))∧V.cell? ⟨ba,s,none⟩ = some (.int .i64 (f1:Int))∧V.cell? ⟨ba,s + 1,none⟩ = some (.int .i64 (f2:Int)) from
  ⟨⟨(hg.below hb hg.lt).cell (j:=3) rfl,(hg.below hb hg.lt).cell (j:=4) rfl⟩,(hbs.below hb hbs.lt).cell (j:=0) rfl,(hr.arr.below hb hr.arr.lt).cell (by show (iv (fsts a.ed n))[s]? = _;unfold iv;rw [List.getElem?_map,hk1];rfl),(hr.arr.below hb hr.arr.lt).cell (by show (iv (fsts a.ed n))[s + 1]? = _;unfold iv;rw [List.getElem?_map,hk2];rfl)⟩))
 have HRX:=Lib.hid (show RdX W n₀ E a.ed from hr.ok.re)
 have HROW:=Lib.hid hrow;clear hrow
 have HLE:=Lib.hid hle;clear hle
 have HY:=Lib.hid hY;clear hY
 have HJ:=Lib.hid hJ;clear hJ
 have H0:=Lib.hid h0;clear h0
 have hws:IntKind.i64.wrap ((s:Int) + 1) = (s:Int) + 1:=IntWalk.i64_in _ (by omega)
 have hs1:((s:Int) + 1).toNat = s + 1:=by omega
 have hs2:s + 1 < n + 1:=by omega
 have hs3:s < n + 1:=by omega
 have hs4:(0:Int) ≤ (s:Int) + 1:=by omega
 have hs5:(s:Int) + 1 < (n:Int) + 1:=by omega
 have hs6:(s:Int) < (n:Int) + 1:=by omega
 have hq1:(f1:Int) ≤ (f2:Int):=by omega
 have hq2:(f2:Int) ≤ (ce:Int):=by omega
 have hq3:(f2:Int) ≤ (ne:Int):=by omega
 have hq4:f2 ≤ ce:=by omega
 clear hst hwf hk1 hk2 hf1 hf2 hr hg hbs
 refine callsIn_of_wp Try.func89 rfl trivial ?_ rfl
 simp only [Try.ntmps89,List.size_toArray,List.length_cons,List.length_nil,Nat.reduceAdd,Nat.reduceSub,Array.replicate_succ,Array.replicate_zero,List.push_toArray,List.append_toArray,List.nil_append,List.cons_append]
 refine wpIn_wide.2 ?_
 go_upto_region 0 with fail
 refine wp_region_U (fun V=>(V.cell? ⟨bg,3,none⟩ = some (.slice E ne ce)∧V.cell? ⟨bg,4,none⟩ = some (.slice (some ⟨ba,0,none⟩) (n + 1) (n + 1)))∧V.cell? ⟨bs,0,none⟩ = some (.int .i64 (s:Int))∧V.cell? ⟨ba,s,none⟩ = some (.int .i64 (f1:Int))∧V.cell? ⟨ba,s + 1,none⟩ = some (.int .i64 (f2:Int))) (fun _=>True) 17 (by kernel_rfl) ?_
 change anyU _ _ _ _ _ _ _ 17 _ _ _
 have hB0:True:=trivial
 have HBD:=Lib.hid (below_dr W)
 have H0D:=Lib.hid (abides_below HJ.out H0.out HBD.out)
 have hA0:=HFX.out _ HBD.out
 generalize W.drew = wd at HBD H0D hA0 ⊢
 (refine uA 0 ?_ rfl hA0 hB0 (fun W hA=>?_) ?_;rotate_left;(· (go_simp;try with_reducible rfl));refine uA 1 ?_ rfl hA0 hB0 (fun W hA=>?_) ?_;rotate_left;(· (go_simp;try with_reducible rfl));(try simp only [Act.put,List.setIfInBounds_toArray,List.set_cons_zero,List.set_cons_succ]))
 (refine uA 2 ?_ rfl hA0 hB0 (fun W hA=>?_) ?_;rotate_left;(· (obtain ⟨⟨a0,_⟩,_⟩:=hA;go_simp;try with_reducible rfl));(try simp only [Act.put,List.setIfInBounds_toArray,List.set_cons_zero,List.set_cons_succ]))
 (refine uA 3 ?_ rfl hA0 hB0 (fun W hA=>?_) ?_;rotate_left;(· (go_simp;try with_reducible rfl));(try simp only [Act.put,List.setIfInBounds_toArray,List.set_cons_zero,List.set_cons_succ]))
 (refine uA 4 ?_ rfl hA0 hB0 (fun W hA=>?_) ?_;rotate_left;(· (obtain ⟨⟨_,a0⟩,_⟩:=hA;go_simp;try with_reducible rfl));(try simp only [Act.put,List.setIfInBounds_toArray,List.set_cons_zero,List.set_cons_succ]))
 (refine uA 5 ?_ rfl hA0 hB0 (fun W hA=>?_) ?_;rotate_left;(· (obtain ⟨_,a0,_⟩:=hA;go_simp;try with_reducible rfl));(try simp only [Act.put,List.setIfInBounds_toArray,List.set_cons_zero,List.set_cons_succ]))
 (refine uA 6 ?_ rfl hA0 hB0 (fun W hA=>?_) ?_;rotate_left;(· (go_simp;try with_reducible rfl));(try simp only [Act.put,List.setIfInBounds_toArray,List.set_cons_zero,List.set_cons_succ]))
 (refine uA 7 ?_ rfl hA0 hB0 (fun W hA=>?_) ?_;rotate_left;(· (obtain ⟨_,_,a0,_⟩:=hA;go_simp;try with_reducible rfl));(try simp only [Act.put,List.setIfInBounds_toArray,List.set_cons_zero,List.set_cons_succ]))
 (refine uA 8 ?_ rfl hA0 hB0 (fun W hA=>?_) ?_;rotate_left;(· (go_simp;try with_reducible rfl));(try simp only [Act.put,List.setIfInBounds_toArray,List.set_cons_zero,List.set_cons_succ]))
 (refine uA 9 ?_ rfl hA0 hB0 (fun W hA=>?_) ?_;rotate_left;(· (obtain ⟨⟨_,a0⟩,_⟩:=hA;go_simp;try with_reducible rfl));(try simp only [Act.put,List.setIfInBounds_toArray,List.set_cons_zero,List.set_cons_succ]))
 (refine uA 10 ?_ rfl hA0 hB0 (fun W hA=>?_) ?_;rotate_left;(· (obtain ⟨_,a0,_⟩:=hA;go_simp;try with_reducible rfl));(try simp only [Act.put,List.setIfInBounds_toArray,List.set_cons_zero,List.set_cons_succ]))
 (refine uA 11 ?_ rfl hA0 hB0 (fun W hA=>?_) ?_;rotate_left;(· (go_simp;try with_reducible rfl));refine uA 12 ?_ rfl hA0 hB0 (fun W hA=>?_) ?_;rotate_left;(· (go_simp;try with_reducible rfl));(try simp only [Act.put,List.setIfInBounds_toArray,List.set_cons_zero,List.set_cons_succ]))
 (refine uA 13 ?_ rfl hA0 hB0 (fun W hA=>?_) ?_;rotate_left;(· (obtain ⟨_,_,_,a0⟩:=hA;go_simp;try with_reducible rfl));(try simp only [Act.put,List.setIfInBounds_toArray,List.set_cons_zero,List.set_cons_succ]))
 (refine uA 14 ?_ rfl hA0 hB0 (fun W hA=>?_) ?_;rotate_left;(· (go_simp;try with_reducible rfl));refine uA 15 ?_ rfl hA0 hB0 (fun W hA=>?_) ?_;rotate_left;(· (go_simp;try with_reducible rfl));refine uA 16 ?_ rfl hA0 hB0 (fun W hA=>?_) ?_;rotate_left;(· (go_simp;try with_reducible rfl));(try simp only [Act.put,List.setIfInBounds_toArray,List.set_cons_zero,List.set_cons_succ]))
 refine anyU_done (by kernel_rfl) ?_ _
 clear hA0
 obtain ⟨EE,hEE⟩:∃ z,(if ce = f1 then E else Option.map (fun (z:Addr)=>z.add (f1 * 3)) E) = z:=⟨_,rfl⟩
 obtain ⟨cnt,hcnt⟩:∃ k,f2 - f1 = k:=⟨_,rfl⟩
 have HRE:=Lib.hid (show RdX W n₀ EE (outE a s) from by
  rw [← hEE,← HROW.out]
  by_cases hc:ce = f1
  ·rw [if_pos hc,show f2 - f1 = 0 by omega,List.take_zero]
   intro k e he
   simp at he
  ·rw [if_neg hc];exact HRX.out.sub f1 (f2 - f1))
 have HCN:=Lib.hid (show (outE a s).length = cnt from by
  rw [← HROW.out,List.length_take,List.length_drop,HLE.out];omega)
 rw [hEE,hcnt]
 have hcn:cnt ≤ 9223372036854775807:=by omega
 clear hEE HRX hcnt hq1 hq2 hq3 hq4 hf12 hf2e hs1 hs2 hs3 hs4 hs5 hs6 hws
 have HBN:=Lib.hid (show Below n₀ W wd from HBD.out.mono hn0)
 have hsz:=HBD.out.size
 go_wp2
 refine (wpIn_wide (n:=m)).1 ?_
 gi_loopw [5,22] (fun s5 s22 wr=>∃ (k:Nat) (v5:Value),s22 = .int .i64 k∧s5 = v5∧k ≤ cnt∧Hid (J ((outE a s).take k) wr)∧Hid (Below n₀ W wr)∧n₀ ≤ wr.heap.size) (fun _ s22 _=>cnt - (intOf s22).toNat)
 case atStart=>exact ⟨0,_,rfl,rfl,Nat.zero_le _,H0D,HBN,by omega⟩
 case round =>
  obtain ⟨k,v5,rfl,rfl,hk,HJ9,HB9,hsz9⟩:=hrel
  by_cases hlt:k < cnt
  ·obtain ⟨ad,e,hA,hbb,he,q0,q1,q2⟩:=(HRE.out.below HB9.out).at_ (k:=k) (by rw [HCN.out];exact hlt)
   subst hA
   have b1:(k:Int) < (cnt:Int):=by omega
   have p1:wr.cell? ⟨(ad.add (k * 3)).block,(ad.add (k * 3)).off + 1,none⟩ = some (.int .i64 e.e):=st_cells (j:=0) q1
   have p2:wr.cell? ⟨(ad.add (k * 3)).block,(ad.add (k * 3)).off + 2,none⟩ = some (.int .i64 e.t):=st_cells (j:=1) q2
   have hbx:=box_below wr (.cells #[.int .i64 e.f,.int .i64 e.e,.int .i64 e.t] 67)
   obtain ⟨fn,tmps,assign,body,hy,hR⟩:=HY.out _ e _ (List.mem_of_getElem? he) (abides_below HJ.out HJ9.out hbx) (by rw [List.length_take,HCN.out];omega)
   have HBX:=Lib.hid (HB9.out.trans (hbx.mono hsz9))
   have hsx:=hbx.size
   have HTK:=Lib.hid (take_snoc' he)
   dsimp only [evl] at hy
   clear q1 q2 hbx hbb
   gi_wp2
   refine hR.mono ?_
   rintro r W' (⟨rfl,hJ',hk'⟩ | ⟨rfl,hJx'⟩)
   ·gi_wp2
    go_roundw
    case rel=>exact ⟨k + 1,_,by go_num,rfl,by omega,Lib.hid (by rw [HTK.out];exact hJ'),Lib.hid (HBX.out.trans hk'.1),by have:=hk'.1.size;omega⟩
    case measure=>simp [intOf];omega
   ·gi_wp2
    refine bodyPost_ret (results_none rfl _ _ _) rfl ?_
    exact ⟨⟨_,rfl⟩,.inr ⟨(outE a s).take (k + 1),List.take_prefix _ _,by rw [HTK.out];exact hJx'⟩⟩
  ·obtain rfl:k = cnt:=by omega
   have b1:¬ (k:Int) < (k:Int):=by omega
   gi_wp2
   go_end0
   have hj9:=HJ9.out
   rw [List.take_of_length_le (by rw [HCN.out];exact Nat.le_refl _)] at hj9
   exact ⟨⟨_,rfl⟩,.inl hj9⟩
end Go.Proofs.Ytdnmpndnpfklcaa

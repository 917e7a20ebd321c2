/- reach.Restrict: its plain state and its memory. -/
import Derived.Test.YtdnmpndnpfklcaaI1
import Derived.Test.YtdnmpndnpfklcaaUx
namespace Go.Proofs.Ytdnmpndnpfklcaa
open Go.RowKit Go Go.Maps
def nmL (n:Nat) (ts:List Int):List Int:=(List.range n).map fun t:Nat=>idx ts (t:Int) + 1
theorem nmL_len (n:Nat) (ts:List Int):(nmL n ts).length = n:=by unfold nmL;rw [List.length_map,List.length_range]
theorem nmL_get {n:Nat} {ts:List Int} {t:Int} (h0:0 ≤ t) (h1:t < (n:Int)):(nmL n ts)[t.toNat]? = some (idx ts t + 1):=by
 unfold nmL
 rw [List.getElem?_map,List.getElem?_range (by omega)]
 show some (idx ts ((t.toNat:Nat):Int) + 1) = _
 rw [show ((t.toNat:Nat):Int) = t by omega]
theorem nmL_push {n:Nat} {ts:List Int} {t:Int} (hn:idx ts t < 0) (h0:0 ≤ t):(nmL n ts).set t.toNat ((ts.length:Int) + 1) = nmL n (ts ++ [t]):=by
 apply List.ext_getElem?
 intro i
 rw [List.getElem?_set,nmL_len]
 unfold nmL
 rw [List.getElem?_map,List.getElem?_map]
 by_cases hi:i < n
 ·rw [List.getElem?_range hi]
  by_cases hx:t.toNat = i
  ·rw [if_pos hx,if_pos (by omega)]
   show some ((ts.length:Int) + 1) = some (idx (ts ++ [t]) ((i:Nat):Int) + 1)
   rw [show ((i:Nat):Int) = t by omega,idx_new (idx_neg.1 hn)]
  ·rw [if_neg hx]
   show some (idx ts ((i:Nat):Int) + 1) = some (idx (ts ++ [t]) ((i:Nat):Int) + 1)
   by_cases hm:((i:Nat):Int) ∈ ts
   ·rw [idx_app hm]
   ·rw [idx_no hm,idx_no (fun h=>by
     rcases List.mem_append.1 h with h | h
     ·exact hm h
     ·have:=List.mem_singleton.1 h;omega)]
 ·rw [List.getElem?_eq_none (by rw [List.length_range];omega)]
  by_cases hx:t.toNat = i
  ·rw [if_pos hx,if_neg (by omega)];rfl
  ·rw [if_neg hx];rfl
theorem nmL_nil (n:Nat):nmL n [] = List.replicate n 0:=by
 unfold nmL
 show (List.range n).map (fun _=>(0:Int)) = _
 rw [List.map_const',List.length_range]
theorem nmL_start (n:Nat):(List.replicate n (0:Int)).set 0 1 = nmL n [0]:=by
 rw [← nmL_nil]
 exact nmL_push (ts:=[]) (t:=0) (by simp [idx]) (Int.le_refl _)
section
variable {n i k:Nat} {K:List Int} {s:Bs Int} {x:Ed}
structure RsW (n i k:Nat) (s:Bs Int):Prop where
 nd:s.ts.Nodup
 rng:∀ t ∈ s.ts,0 ≤ t∧t < (n:Int)
 es:s.es.length ≤ 32 * i + k
theorem RsW.len (h:RsW n i k s):s.ts.length ≤ n:=by
 have:=nodup_le h.nd (m:=rngI (n:Int)) (fun x hx=>rngI_mem.2 (h.rng x hx))
 rwa [rngI_len,Int.toNat_natCast] at this
theorem rsE_no (h:hasB K x.t = false):rsE K i s x = s:=by unfold rsE;rw [h];rfl
theorem rsE_old (h:hasB K x.t = true) (hi:¬ idx s.ts x.t < 0):rsE K i s x = ⟨s.ts,s.es ++ [⟨i,x.e,idx s.ts x.t⟩]⟩:=by unfold rsE;rw [if_pos h,if_neg hi]
theorem rsE_new (h:hasB K x.t = true) (hi:idx s.ts x.t < 0):rsE K i s x = ⟨s.ts ++ [x.t],s.es ++ [⟨i,x.e,s.ts.length⟩]⟩:=by unfold rsE;rw [if_pos h,if_pos hi]
theorem RsW.step (h:RsW n i k s) (h0:0 ≤ x.t) (h1:x.t < (n:Int)):RsW n i (k + 1) (rsE K i s x):=by
 have he:=h.es
 cases hx:hasB K x.t with
 | false=>rw [rsE_no hx];exact ⟨h.nd,h.rng,by omega⟩
 | true =>
  by_cases hi:idx s.ts x.t < 0
  ·rw [rsE_new hx hi]
   refine ⟨List.nodup_append.2 ⟨h.nd,List.nodup_cons.2 ⟨by simp,List.nodup_nil⟩,fun a ha b hb e=>?_⟩,fun t ht=>?_,?_⟩
   ·rw [List.mem_singleton.1 hb] at e;subst e;exact idx_neg.1 hi ha
   ·rcases List.mem_append.1 ht with ht | ht
    ·exact h.rng t ht
    ·rw [List.mem_singleton.1 ht];exact ⟨h0,h1⟩
   ·simp only [List.length_append,List.length_singleton];omega
  ·rw [rsE_old hx hi]
   refine ⟨h.nd,h.rng,?_⟩
   simp only [List.length_append,List.length_singleton];omega
theorem RsW.next (h:RsW n i k s) (hk:k ≤ 32):RsW n (i + 1) 0 s:=⟨h.nd,h.rng,by have:=h.es;omega⟩
theorem RsW.start (hn:0 < n):RsW n 0 0 ⟨[0],[]⟩:=⟨List.nodup_cons.2 ⟨by simp,List.nodup_nil⟩,fun t ht=>by rw [List.mem_singleton.1 ht];omega,Nat.le_refl _⟩
theorem out_len {a:Aut} (h:WF a) (t:Int):(outE a t).length ≤ 32:=by
 have h1:=congrArg List.length (out_evs h t)
 rw [List.length_map] at h1
 have h2:=List.length_filter_le (fun v=>(stA a t v).isSome) a.al
 have h3:=h.al_le
 omega
end
set_option maxRecDepth 100000 in
set_option maxHeartbeats 1600000 in
theorem edges1_in2 (m:Nat) (hm:1 ≤ m) (l bg bs n₀ n s ba:Nat) (x:AV) (hs:s < n) (J Jx:List Ed → World → Prop) (W:World)
  (hY:∀ pre e W1,e ∈ outE x.a s → J pre W1 → pre.length < (outE x.a s).length → YieldAt Fence.wide (m - 1) Try.prog l #[evl e] W1 fun r W' =>
   (r = .returned (.bool true)∧J (pre ++ [e]) W'∧KpG n₀ bg bs W1 W') ∨ (r = .returned (.bool false)∧Jx (pre ++ [e]) W'))
  (hJ:AbidesFrom W.heap.size J) (hg:Blk W bg 105 (grc x ba n)) (hbs:Blk W bs 3 [.int .i64 (s:Int)]) (hr:GrR W W.heap.size x ba n) (hre:RdX W n₀ x.E x.a.ed) (hn0:n₀ ≤ W.heap.size) (h0:J [] W) :
  CallsIn Fence.wide m Try.prog 89 #[.func (.yield l) #[] #[],.pointer (some ⟨bg,0,none⟩),.pointer (some ⟨bs,0,none⟩)] W fun e W'=>(∃ v,e = .returned v) ∧
   ((∃ ys,ys = outE x.a s∧J ys W') ∨ (∃ pre,pre <+: outE x.a s∧Jx pre W')):=by
 obtain ⟨A,na,ca,M,nm,cm,E,ne,ce,a⟩:=x
 dsimp only at hY ⊢
 have hst:a.st = (n:Int):=hr.st
 have hwf:WF a:=hr.wf
 have hrow:=row_out hwf (s:Int)
 have hn4:n ≤ 4096:=by have:=hwf.st1;omega
 have hle:a.ed.length = ne:=hr.ok.le
 have hec:ne ≤ ce:=hr.ok.ec
 have hcE:ce ≤ 9223372036854775807:=hr.ok.cE
 obtain ⟨f1,hf1⟩:∃ k,fstN a.ed (s:Int) = k:=⟨_,rfl⟩
 obtain ⟨f2,hf2⟩:∃ k,fstN a.ed ((s:Int) + 1) = k:=⟨_,rfl⟩
 have hf12:f1 ≤ f2:=by rw [← hf1,← hf2];exact fstN_mono a.ed s
 have hf2e:f2 ≤ ne:=by rw [← hf2,← hle];exact fstN_le a.ed _
 rw [hf1,hf2] at hrow
 have hk1:(fsts a.ed n)[s]? = some (f1:Int):=by unfold fsts;rw [List.getElem?_map,List.getElem?_range (by omega)];simp [hf1]
 have hk2:(fsts a.ed n)[s + 1]? = some (f2:Int):=by unfold fsts;rw [List.getElem?_map,List.getElem?_range (by omega)];simp only [Option.map_some];rw [show ((s + 1:Nat):Int) = (s:Int) + 1 by omega,hf2]
 have HFX:=Lib.hid (fun (V:World) (hb:Below W.heap.size W V)=>(show (V.cell? ⟨bg,3,none⟩ = some (.slice E ne ce)∧V.cell? ⟨bg,4,none⟩ = some (.slice (some ⟨ba,0,none⟩) (n + 1) (n + 1)))∧V.cell? ⟨bs,0,none⟩ = some (.int .i64 (s:Int))∧V.cell? ⟨ba,s,none⟩ = some (.int .i64 (f1:Int))∧V.cell? ⟨ba,s + 1,none⟩ = some (.int .i64 (f2:Int)) from
  ⟨⟨(hg.below hb hg.lt).cell (j:=3) rfl,(hg.below hb hg.lt).cell (j:=4) rfl⟩,(hbs.below hb hbs.lt).cell (j:=0) rfl,(hr.arr.below hb hr.arr.lt).cell (by show (iv (fsts a.ed n))[s]? = _;unfold iv;rw [List.getElem?_map,hk1];rfl),(hr.arr.below hb hr.arr.lt).cell (by show (iv (fsts a.ed n))[s + 1]? = _;unfold iv;rw [List.getElem?_map,hk2];rfl)⟩))
 have HRX:=Lib.hid (show RdX W n₀ E a.ed from hre)
 have HROW:=Lib.hid hrow;clear hrow
 have HLE:=Lib.hid hle;clear hle
 have HY:=Lib.hid hY;clear hY
 have HJ:=Lib.hid hJ;clear hJ
 have H0:=Lib.hid h0;clear h0
 have hws:IntKind.i64.wrap ((s:Int) + 1) = (s:Int) + 1:=IntWalk.i64_in _ (by omega)
 have hs1:((s:Int) + 1).toNat = s + 1:=by omega
 have hs2:s + 1 < n + 1:=by omega
 have hs3:s < n + 1:=by omega
 have hs4:(0:Int) ≤ (s:Int) + 1:=by omega
 have hs5:(s:Int) + 1 < (n:Int) + 1:=by omega
 have hs6:(s:Int) < (n:Int) + 1:=by omega
 have hq1:(f1:Int) ≤ (f2:Int):=by omega
 have hq2:(f2:Int) ≤ (ce:Int):=by omega
 have hq3:(f2:Int) ≤ (ne:Int):=by omega
 have hq4:f2 ≤ ce:=by omega
 clear hre hst hwf hk1 hk2 hf1 hf2 hr hg hbs
 refine callsIn_of_wp Try.func89 rfl trivial ?_ rfl
 simp only [Try.ntmps89,List.size_toArray,List.length_cons,List.length_nil,Nat.reduceAdd,Nat.reduceSub,Array.replicate_succ,Array.replicate_zero,List.push_toArray,List.append_toArray,List.nil_append,List.cons_append]
 refine wpIn_wide.2 ?_
 go_upto_region 0 with fail
 refine wp_region_U (fun V=>(V.cell? ⟨bg,3,none⟩ = some (.slice E ne ce)∧V.cell? ⟨bg,4,none⟩ = some (.slice (some ⟨ba,0,none⟩) (n + 1) (n + 1)))∧V.cell? ⟨bs,0,none⟩ = some (.int .i64 (s:Int))∧V.cell? ⟨ba,s,none⟩ = some (.int .i64 (f1:Int))∧V.cell? ⟨ba,s + 1,none⟩ = some (.int .i64 (f2:Int))) (fun _=>True) 17 (by kernel_rfl) ?_
 change anyU _ _ _ _ _ _ _ 17 _ _ _
 have hB0:True:=trivial
 have HBD:=Lib.hid (below_dr W)
 have H0D:=Lib.hid (abides_below HJ.out H0.out HBD.out)
 have hA0:=HFX.out _ HBD.out
 generalize W.drew = wd at HBD H0D hA0 ⊢
 (refine uA 0 ?_ rfl hA0 hB0 (fun W hA=>?_) ?_;rotate_left;(· (go_simp;try with_reducible rfl));refine uA 1 ?_ rfl hA0 hB0 (fun W hA=>?_) ?_;rotate_left;(· (go_simp;try with_reducible rfl));(try simp only [Act.put,List.setIfInBounds_toArray,List.set_cons_zero,List.set_cons_succ]))
 (refine uA 2 ?_ rfl hA0 hB0 (fun W hA=>?_) ?_;rotate_left;(· (obtain ⟨⟨a0,_⟩,_⟩:=hA;go_simp;try with_reducible rfl));(try simp only [Act.put,List.setIfInBounds_toArray,List.set_cons_zero,List.set_cons_succ]))
 (refine uA 3 ?_ rfl hA0 hB0 (fun W hA=>?_) ?_;rotate_left;(· (go_simp;try with_reducible rfl));(try simp only [Act.put,List.setIfInBounds_toArray,List.set_cons_zero,List.set_cons_succ]))
 (refine uA 4 ?_ rfl hA0 hB0 (fun W hA=>?_) ?_;rotate_left;(· (obtain ⟨⟨_,a0⟩,_⟩:=hA;go_simp;try with_reducible rfl));(try simp only [Act.put,List.setIfInBounds_toArray,List.set_cons_zero,List.set_cons_succ]))
 (refine uA 5 ?_ rfl hA0 hB0 (fun W hA=>?_) ?_;rotate_left;(· (obtain ⟨_,a0,_⟩:=hA;go_simp;try with_reducible rfl));(try simp only [Act.put,List.setIfInBounds_toArray,List.set_cons_zero,List.set_cons_succ]))
 (refine uA 6 ?_ rfl hA0 hB0 (fun W hA=>?_) ?_;rotate_left;(· (go_simp;try with_reducible rfl));(try simp only [Act.put,List.setIfInBounds_toArray,List.set_cons_zero,List.set_cons_succ]))
 (refine uA 7 ?_ rfl hA0 hB0 (fun W hA=>?_) ?_;rotate_left;(· (obtain ⟨_,_,a0,_⟩:=hA;go_simp;try with_reducible rfl));(try simp only [Act.put,List.setIfInBounds_toArray,List.set_cons_zero,List.set_cons_succ]))
 (refine uA 8 ?_ rfl hA0 hB0 (fun W hA=>?_) ?_;rotate_left;(· (go_simp;try with_reducible rfl));(try simp only [Act.put,List.setIfInBounds_toArray,List.set_cons_zero,List.set_cons_succ]))
 (refine uA 9 ?_ rfl hA0 hB0 (fun W hA=>?_) ?_;rotate_left;(· (obtain ⟨⟨_,a0⟩,_⟩:=hA;go_simp;try with_reducible rfl));(try simp only [Act.put,List.setIfInBounds_toArray,List.set_cons_zero,List.set_cons_succ]))
 (refine uA 10 ?_ rfl hA0 hB0 (fun W hA=>?_) ?_;rotate_left;(· (obtain ⟨_,a0,_⟩:=hA;go_simp;try with_reducible rfl));(try simp only [Act.put,List.setIfInBounds_toArray,List.set_cons_zero,List.set_cons_succ]))
 (refine uA 11 ?_ rfl hA0 hB0 (fun W hA=>?_) ?_;rotate_left;(· (go_simp;try with_reducible rfl));refine uA 12 ?_ rfl hA0 hB0 (fun W hA=>?_) ?_;rotate_left;(· (go_simp;try with_reducible rfl));(try simp only [Act.put,List.setIfInBounds_toArray,List.set_cons_zero,List.set_cons_succ]))
 (refine uA 13 ?_ rfl hA0 hB0 (fun W hA=>?_) ?_;rotate_left;(· (obtain ⟨_,_,_,a0⟩:=hA;go_simp;try with_reducible rfl));(try simp only [Act.put,List.setIfInBounds_toArray,List.set_cons_zero,List.set_cons_succ]))
 (refine uA 14 ?_ rfl hA0 hB0 (fun W hA=>?_) ?_;rotate_left;(· (go_simp;try with_reducible rfl));refine uA 15 ?_ rfl hA0 hB0 (fun W hA=>?_) ?_;rotate_left;(· (go_simp;try with_reducible rfl));refine uA 16 ?_ rfl hA0 hB0 (fun W hA=>?_) ?_;rotate_left;(· (go_simp;try with_reducible rfl));(try simp only [Act.put,List.setIfInBounds_toArray,List.set_cons_zero,List.set_cons_succ]))
 refine anyU_done (by kernel_rfl) ?_ _
 clear hA0
 obtain ⟨EE,hEE⟩:∃ z,(if ce = f1 then E else Option.map (fun (z:Addr)=>z.add (f1 * 3)) E) = z:=⟨_,rfl⟩
 obtain ⟨cnt,hcnt⟩:∃ k,f2 - f1 = k:=⟨_,rfl⟩
 have HRE:=Lib.hid (show RdX W n₀ EE (outE a s) from by
  rw [← hEE,← HROW.out]
  by_cases hc:ce = f1
  ·rw [if_pos hc,show f2 - f1 = 0 by omega,List.take_zero]
   intro k e he
   simp at he
  ·rw [if_neg hc];exact HRX.out.sub f1 (f2 - f1))
 have HCN:=Lib.hid (show (outE a s).length = cnt from by
  rw [← HROW.out,List.length_take,List.length_drop,HLE.out];omega)
 rw [hEE,hcnt]
 have hcn:cnt ≤ 9223372036854775807:=by omega
 clear hEE HRX hcnt hq1 hq2 hq3 hq4 hf12 hf2e hs1 hs2 hs3 hs4 hs5 hs6 hws
 have HBN:=Lib.hid (show Below n₀ W wd from HBD.out.mono hn0)
 have hsz:=HBD.out.size
 go_wp2
 refine (wpIn_wide (n:=m)).1 ?_
 gi_loopw [5,22] (fun s5 s22 wr=>∃ (k:Nat) (v5:Value),s22 = .int .i64 k∧s5 = v5∧k ≤ cnt∧Hid (J ((outE a s).take k) wr)∧Hid (Below n₀ W wr)∧n₀ ≤ wr.heap.size) (fun _ s22 _=>cnt - (intOf s22).toNat)
 case atStart=>exact ⟨0,_,rfl,rfl,Nat.zero_le _,H0D,HBN,by omega⟩
 case round =>
  obtain ⟨k,v5,rfl,rfl,hk,HJ9,HB9,hsz9⟩:=hrel
  by_cases hlt:k < cnt
  ·obtain ⟨ad,e,hA,hbb,he,q0,q1,q2⟩:=(HRE.out.below HB9.out).at_ (k:=k) (by rw [HCN.out];exact hlt)
   subst hA
   have b1:(k:Int) < (cnt:Int):=by omega
   have p1:wr.cell? ⟨(ad.add (k * 3)).block,(ad.add (k * 3)).off + 1,none⟩ = some (.int .i64 e.e):=st_cells (j:=0) q1
   have p2:wr.cell? ⟨(ad.add (k * 3)).block,(ad.add (k * 3)).off + 2,none⟩ = some (.int .i64 e.t):=st_cells (j:=1) q2
   have hbx:=box_below wr (.cells #[.int .i64 e.f,.int .i64 e.e,.int .i64 e.t] 67)
   obtain ⟨fn,tmps,assign,body,hy,hR⟩:=HY.out _ e _ (List.mem_of_getElem? he) (abides_below HJ.out HJ9.out hbx) (by rw [List.length_take,HCN.out];omega)
   have HBX:=Lib.hid (HB9.out.trans (hbx.mono hsz9))
   have hsx:=hbx.size
   have HTK:=Lib.hid (take_snoc' he)
   dsimp only [evl] at hy
   clear q1 q2 hbx hbb
   gi_wp2
   refine hR.mono ?_
   rintro r W' (⟨rfl,hJ',hk'⟩ | ⟨rfl,hJx'⟩)
   ·gi_wp2
    go_roundw
    case rel=>exact ⟨k + 1,_,by go_num,rfl,by omega,Lib.hid (by rw [HTK.out];exact hJ'),Lib.hid (HBX.out.trans hk'.1),by have:=hk'.1.size;omega⟩
    case measure=>simp [intOf];omega
   ·gi_wp2
    refine bodyPost_ret (results_none rfl _ _ _) rfl ?_
    exact ⟨⟨_,rfl⟩,.inr ⟨(outE a s).take (k + 1),List.take_prefix _ _,by rw [HTK.out];exact hJx'⟩⟩
  ·obtain rfl:k = cnt:=by omega
   have b1:¬ (k:Int) < (k:Int):=by omega
   gi_wp2
   go_end0
   have hj9:=HJ9.out
   rw [List.take_of_length_le (by rw [HCN.out];exact Nat.le_refl _)] at hj9
   exact ⟨⟨_,rfl⟩,.inl hj9⟩
theorem edges_stops2 (m:Nat) (hm:1 ≤ m) (bg bs n₀ n s ba:Nat) (x:AV) (hs:s < n) (w:World) (hg:Blk w bg 105 (grc x ba n)) (hbs:Blk w bs 3 [.int .i64 (s:Int)]) (hr:GrR w w.heap.size x ba n) (hre:RdX w n₀ x.E x.a.ed) (hn0:n₀ ≤ w.heap.size) :
  SeqStopsK Fence.wide m Try.prog 89 #[.pointer (some ⟨bg,0,none⟩),.pointer (some ⟨bs,0,none⟩)] (fun e:{ e:Ed // e ∈ outE x.a s }=>#[evl e.1]) (KpG n₀ bg bs) (fun ys=>ys.map Subtype.val = outE x.a s) (fun _=>True) (outE x.a s).length w:=by
 intro l J Jx W hW hJ _ hY h0
 refine (edges1_in2 m hm l bg bs n₀ n s ba x hs (fun pre V=>∃ q:List { e:Ed // e ∈ outE x.a s },q.map Subtype.val = pre∧J q V) (fun pre V=>∃ q:List { e:Ed // e ∈ outE x.a s },q.map Subtype.val = pre∧Jx q V) W ?_ ?_ (hg.below hW hg.lt) (hbs.below hW hbs.lt) ((hr.keep hW).more hW.size) (hre.below (hW.mono hn0)) (by have:=hW.size;omega) ⟨[],rfl,h0⟩).mono ?_
 ·rintro pre e W1 he ⟨q,rfl,hq⟩ hlen
  obtain ⟨fn,tmps,assign,body,hy,hR⟩:=hY q ⟨e,he⟩ W1 hq (by simpa using hlen)
  refine ⟨fn,tmps,assign,body,hy,hR.mono ?_⟩
  rintro r W' (⟨rfl,h1,h2⟩ | ⟨rfl,h1⟩)
  ·exact .inl ⟨rfl,⟨q ++ [⟨e,he⟩],by simp,h1⟩,h2⟩
  ·exact .inr ⟨rfl,q ++ [⟨e,he⟩],by simp,h1⟩
 ·rintro pre V V' row ⟨q,hq1,hq2⟩ hgr hrw
  exact ⟨q,hq1,hJ q V V' row hq2 hgr hrw⟩
 ·rintro e W' ⟨hv,⟨ys,rfl,q,hq1,hq2⟩ | ⟨pre,_,q,_,hq2⟩⟩
  ·exact ⟨hv,.inl ⟨q,hq1,hq2⟩⟩
  ·exact ⟨hv,.inr ⟨q,trivial,hq2⟩⟩
def Ap (a b:Option Nat):Prop:=∀ g,a = some g → b ≠ some g
theorem Ap.sym {a b:Option Nat} (h:Ap a b):Ap b a:=fun g h1 h2=>h g h2 h1
def ApS (S:Nat) (L:List (Option Nat)):Prop:=L.Pairwise Ap∧∀ o ∈ L,∀ g,o = some g → g < S
theorem ApS.more {S S':Nat} {L:List (Option Nat)} (h:ApS S L) (hS:S ≤ S'):ApS S' L:=⟨h.1,fun o ho g e=>Nat.lt_of_lt_of_le (h.2 o ho g e) hS⟩
theorem ApS.at_ {S:Nat} {L:List (Option Nat)} (h:ApS S L) (i j:Nat) {a b:Option Nat} (hi:L[i]? = some a) (hj:L[j]? = some b) (hne:i ≠ j):Ap a b:=by
 obtain ⟨i1,i2⟩:=List.getElem?_eq_some_iff.1 hi
 obtain ⟨j1,j2⟩:=List.getElem?_eq_some_iff.1 hj
 have hp:=List.pairwise_iff_getElem.1 h.1
 rcases Nat.lt_or_gt_of_ne hne with hl | hl
 ·have:=hp i j i1 j1 hl
  rwa [i2,j2] at this
 ·have:=hp j i j1 i1 hl
  rw [i2,j2] at this
  exact this.sym
theorem ApS.set {S S':Nat} {L:List (Option Nat)} (h:ApS S L) (k:Nat) {o o':Option Nat} (hk:L[k]? = some o) (ho:o' = o ∨ ∃ g,o' = some g∧S ≤ g) (hS:S ≤ S') (hlt:∀ g,o' = some g → g < S'):ApS S' (L.set k o'):=by
 refine ⟨List.pairwise_iff_getElem.2 fun i j hi hj hij=>?_,fun o9 ho9 g e=>?_⟩
 ·rw [List.length_set] at hi hj
  rw [List.getElem_set,List.getElem_set]
  have hfar:∀ (m:Nat) (hm:m < L.length),m ≠ k → Ap o' L[m]:=fun m hm hne g e1 e2=>by
   rcases ho with ho | ⟨g',ho,hge⟩
   ·exact h.at_ k m hk (List.getElem?_eq_getElem hm) (Ne.symm hne) g (ho ▸ e1) e2
   ·rw [ho] at e1;injection e1 with e1
    have:=h.2 _ (List.getElem_mem hm) g e2
    omega
  by_cases h1:k = i
  ·rw [if_pos h1,if_neg (by omega)]
   exact hfar j hj (by omega)
  ·rw [if_neg h1]
   by_cases h2:k = j
   ·rw [if_pos h2]
    exact (hfar i hi (by omega)).sym
   ·rw [if_neg h2]
    exact List.pairwise_iff_getElem.1 h.1 i j hi hj hij
 ·rcases List.mem_or_eq_of_mem_set ho9 with h9 | h9
  ·exact Nat.lt_of_lt_of_le (h.2 o9 h9 g e) hS
  ·exact hlt g (h9 ▸ e)
theorem QRow.far {W W':World} {base n:Nat} {v:Value} {l:List Int} (h:QRow W base v n l) {row:Option Nat} (hg:W.grownBy W' row) (ha:Ap v.ownBlock row):QRow W' base v n l:=h.kept hg (fun g e1 e2=>ha g e1 e2.symm)
theorem QRow.other {W W':World} {base n m B sz:Nat} {v ev:Value} {l:List Int} {e:TypeId} {xs:List Value} (h:QRow W base v n l) (ho:W.ownsRow B e sz ev m xs) (hne:e ≠ 3) (hg:W.grownBy W' ev.ownBlock):QRow W' base v n l:=by
 refine h.kept hg fun g e1 e2=>?_
 rcases h.2 with ⟨rfl,_⟩ | ⟨g',q,cap,cs,rfl,_,hk,_⟩
 ·cases e1
 ·simp only [Value.ownBlock,Option.some.injEq] at e1
  subst e1
  exact blk_ne_own ho hk hne e2
theorem QRow.rdi {W:World} {base n c:Nat} {A:Option Addr} {l:List Int} (h:QRow W base (.slice A n c) n l):RdI W W.heap.size A l∧n ≤ c∧c ≤ 9223372036854775807∧l.length = n:=by
 obtain ⟨h1,h2⟩:=h
 rcases h2 with ⟨h2,h3⟩ | ⟨g,q,cap,cs,h3,h4,h5,h6,h7,h8,h9⟩
 ·injection h2 with e1 e2 e3
  subst e1 e2 e3
  obtain rfl:l = []:=List.eq_nil_of_length_eq_zero h1
  exact ⟨RdV.nil,Nat.le_refl _,by omega,rfl⟩
 ·injection h3 with e1 e2 e3
  subst e1 e3
  refine ⟨?_,h6,by unfold maxLen at h7;omega,h1⟩
  intro k v hv
  refine ⟨⟨g,q,none⟩,rfl,h5.lt,?_⟩
  rw [show (⟨g,q,none⟩:Addr).add k = ⟨g,q + k,none⟩ by simp [Addr.add]]
  refine h5.cell (j:=q + k) ?_
  rw [← h9,List.getElem?_take,List.getElem?_drop] at hv
  split at hv
  ·exact hv
  ·cases hv
structure RsM (w W:World) (x:AV) (ba n:Nat) (ds:List Nat) (bO b9 bK bM b11 bN b12 b13 bI i:Nat) (av mv qv ev:Value) (km q:Nat) (K mk:List Int) (s:Bs Int):Prop where
 bel:Below w.heap.size w W
 box:Blk W w.heap.size 32 [.slice x.A x.na x.ca,.int .i64 (n:Int),.slice x.M x.nm x.cm,.slice x.E x.ne x.ce]
 res:Blk W (w.heap.size + 1) 32 [.slice none 0 0,.int .i64 0,.slice none 0 0,.slice none 0 0]
 out:Blk W bO 32 [av,.int .i64 0,mv,ev]
 k9:Blk W b9 87 [.slice (some ⟨bK,0,none⟩) n n]
 kK:Blk W bK 4 (bvl (inF n K))
 kM:Blk W bM 4 (bvl (inF n x.a.ma))
 k11:Blk W b11 29 [.slice (some ⟨bN,0,none⟩) n n]
 kN:Blk W bN 3 (iv (nmL n s.ts))
 k12:Blk W b12 105 (grc x ba n)
 arr:Blk W ba 3 (iv (fsts x.a.ed n))
 k13:Blk W b13 29 [qv]
 kI:Blk W bI 3 [.int .i64 (i:Int)]
 ra:QRow W w.heap.size av x.na x.a.al
 rm:QRow W w.heap.size mv km mk
 rq:QRow W w.heap.size qv q s.ts
 re:W.ownsRow w.heap.size 67 3 ev s.es.length (s.es.flatMap edc)
 lO:w.heap.size + 2 ≤ bO
 l13:w.heap.size + 2 ≤ b13
 lN:w.heap.size + 2 ≤ bN
 n13:b11 ≠ b13
 ap:ApS W.heap.size [some bI,some ba,av.ownBlock,some bN,mv.ownBlock,qv.ownBlock]
 nd:ds.Nodup
 mrk:∀ D ∈ ds,w.heap.size ≤ D∧W.heap[D]? = some (.deferred (some []))
section
variable {w W W':World} {x:AV} {ba n:Nat} {ds:List Nat} {bO b9 bK bM b11 bN b12 b13 bI i:Nat} {av mv qv ev:Value} {km q:Nat} {K mk:List Int} {s:Bs Int}
theorem RsM.siz (h:RsM w W x ba n ds bO b9 bK bM b11 bN b12 b13 bI i av mv qv ev km q K mk s):w.heap.size + 2 < W.heap.size:=by have:=h.out.lt;have:=h.lO;omega
theorem RsM.quiet (h:RsM w W x ba n ds bO b9 bK bM b11 bN b12 b13 bI i av mv qv ev km q K mk s) (hb:Below W.heap.size W W'):RsM w W' x ba n ds bO b9 bK bM b11 bN b12 b13 bI i av mv qv ev km q K mk s :=
 have hs:=h.siz
 ⟨h.bel.trans (hb.mono (by omega)),h.box.below hb h.box.lt,h.res.below hb h.res.lt,h.out.below hb h.out.lt,h.k9.below hb h.k9.lt,h.kK.below hb h.kK.lt,h.kM.below hb h.kM.lt,h.k11.below hb h.k11.lt,h.kN.below hb h.kN.lt,h.k12.below hb h.k12.lt,h.arr.below hb h.arr.lt,h.k13.below hb h.k13.lt,h.kI.below hb h.kI.lt,h.ra.below hb,h.rm.below hb,h.rq.below hb,own_below h.re hb,h.lO,h.l13,h.lN,h.n13,h.ap.more hb.size,h.nd,
  fun D hD=>⟨(h.mrk D hD).1,(hb.block D (Array.getElem?_eq_some_iff.1 (h.mrk D hD).2).1).trans (h.mrk D hD).2⟩⟩
theorem q_ncl {base m:Nat} {v:Value} {l:List Int} (h:QRow W base v m l) {row:Option Nat} (hg:W.grownBy W' row) (hr:∀ r,row = some r → ∃ o:Obj,W.heap[r]? = some o∧o.isCells = false):QRow W' base v m l :=
 h.kept hg (fun g e1 e2=>by
  obtain ⟨o,ho,hc⟩:=hr g e2.symm
  rw [h.cells g o e1 ho] at hc
  cases hc)
theorem RsM.ncl (h:RsM w W x ba n ds bO b9 bK bM b11 bN b12 b13 bI i av mv qv ev km q K mk s) {row:Option Nat} {B:Nat} (hg:W.grownBy W' row) (hr:∀ r,row = some r → B ≤ r∧∃ o:Obj,W.heap[r]? = some o∧o.isCells = false) (hB:∀ D ∈ ds,D < B) (hwB:w.heap.size ≤ B):RsM w W' x ba n ds bO b9 bK bM b11 bN b12 b13 bI i av mv qv ev km q K mk s :=
 have hs:=h.siz
 have hr':=fun r e=>(hr r e).2
 ⟨h.bel.grown hg (by omega) (fun k e=>by have:=(hr k e).1;omega),h.box.ncl hg hr',h.res.ncl hg hr',h.out.ncl hg hr',h.k9.ncl hg hr',h.kK.ncl hg hr',h.kM.ncl hg hr',h.k11.ncl hg hr',h.kN.ncl hg hr',h.k12.ncl hg hr',h.arr.ncl hg hr',h.k13.ncl hg hr',h.kI.ncl hg hr',q_ncl h.ra hg hr',q_ncl h.rm hg hr',q_ncl h.rq hg hr',own_ncl h.re hg hr',h.lO,h.l13,h.lN,h.n13,h.ap.more hg.size,h.nd,
  fun D hD=>⟨(h.mrk D hD).1,(hg.block D (Array.getElem?_eq_some_iff.1 (h.mrk D hD).2).1 (fun e=>by have:=(hr D e.symm).1;have:=hB D hD;omega)).trans (h.mrk D hD).2⟩⟩
theorem q_blk {base m b:Nat} {v:Value} {l:List Int} {t:TypeId} {vs:List Value} (h:QRow W base v m l) (hg:W.grownBy W' v.ownBlock) (hk:Blk W b t vs) (hne:3 ≠ t):Blk W' b t vs:=hk.kept hg (h.apart hk hne)
theorem ap_blk {b:Nat} {t:TypeId} {vs:List Value} {row:Option Nat} (hk:Blk W b t vs) (hg:W.grownBy W' row) (ha:Ap (some b) row):Blk W' b t vs:=hk.kept hg (fun e=>ha b rfl e.symm)
theorem RsM.push (h:RsM w W x ba n ds bO b9 bK bM b11 bN b12 b13 bI i av mv qv ev km q K mk s) {A9:Option Addr} {c9:Nat} {t:Int} (ho:QRow W' w.heap.size (.slice A9 (q + 1) c9) (q + 1) (s.ts ++ [t])) (hg:W.grownBy W' qv.ownBlock) (hn:(Value.slice A9 (q + 1) c9).ownBlock = qv.ownBlock ∨ (Value.slice A9 (q + 1) c9).ownBlock = some W.heap.size)
  (hN:(nmL n s.ts).set t.toNat ((s.ts.length:Int) + 1) = nmL n (s.ts ++ [t])) (ht:t.toNat < n) :
  RsM w ((W'.setCell ⟨b13,0,none⟩ (.slice A9 (q + 1) c9)).setCell ⟨bN,t.toNat,none⟩ (.int .i64 ((q + 1:Nat):Int))) x ba n ds bO b9 bK bM b11 bN b12 b13 bI i av mv (.slice A9 (q + 1) c9) ev km (q + 1) K mk ⟨s.ts ++ [t],s.es⟩∧Blk W' b13 29 [qv]∧Blk W' bN 3 (iv (nmL n s.ts))∧b13 ≠ bN:=by
 have hsz:=h.siz
 have hl13:=h.l13
 have hlN:=h.lN
 have hne:∀ k,k ≠ b13 → some k ≠ some b13:=fun k hk e=>hk (by injection e)
 have hs:=grown_setCell W' b13 0 (.slice A9 (q + 1) c9)
 have kN:=ap_blk h.kN hg (h.ap.at_ 3 5 rfl rfl (by decide))
 have k13:=q_blk h.rq hg h.k13 (by decide)
 have hNn:=blk_apart k13 kN (by decide)
 have hap:ApS W'.heap.size [some bI,some ba,av.ownBlock,some bN,mv.ownBlock,(Value.slice A9 (q + 1) c9).ownBlock] :=
  h.ap.set 5 rfl (hn.imp id (fun e=>⟨_,e,Nat.le_refl _⟩)) hg.size (fun g e=>(ho.lt g e).2)
 have h2:∀ b t vs,Blk W' b t vs → b ≠ b13 → Blk (W'.setCell ⟨b13,0,none⟩ (.slice A9 (q + 1) c9)) b t vs:=fun b t vs hk h9=>hk.kept hs (hne b h9)
 obtain ⟨W2,hW2⟩:∃ z,z = W'.setCell ⟨b13,0,none⟩ (.slice A9 (q + 1) c9):=⟨_,rfl⟩
 have g2:=hs
 rw [← hW2] at h2 g2 ⊢
 have q2:∀ {m:Nat} {v:Value} {l:List Int},QRow W' w.heap.size v m l → QRow W2 w.heap.size v m l:=fun hq=>hq.kept g2 (fun g e1 e2=>hq.apart k13 (by decide) (by rw [e1,e2]))
 have hs3:=grown_setCell W2 bN t.toNat (.int .i64 ((q + 1:Nat):Int))
 have kN2:=h2 _ _ _ kN hNn.symm
 have hql:=h.rq.1
 have hnew:(iv (nmL n s.ts)).set t.toNat (.int .i64 ((q + 1:Nat):Int)) = iv (nmL n (s.ts ++ [t])):=by
  rw [← hN]
  unfold iv
  rw [List.map_set]
  congr 2
  omega
 have kN3:=kN2.set (j:=t.toNat) (by rw [iv_length,nmL_len];exact ht) (.int .i64 ((q + 1:Nat):Int))
 rw [hnew] at kN3
 have h3:∀ b t9 vs,Blk W2 b t9 vs → 3 ≠ t9 → Blk (W2.setCell ⟨bN,t.toNat,none⟩ (.int .i64 ((q + 1:Nat):Int))) b t9 vs:=fun b t9 vs hk h9=>hk.kept hs3 (fun e=>by injection e with e;exact blk_apart kN2 hk h9 e.symm)
 have q3:∀ {m:Nat} {v:Value} {l:List Int},QRow W2 w.heap.size v m l → Ap (some bN) v.ownBlock → QRow (W2.setCell ⟨bN,t.toNat,none⟩ (.int .i64 ((q + 1:Nat):Int))) w.heap.size v m l:=fun hq ha=>hq.kept hs3 (fun g e1 e2=>ha bN rfl (by rw [e1,e2]))
 have p13:=(k13.set (j:=0) (by simp) (.slice A9 (q + 1) c9))
 rw [← hW2] at p13
 have hb1:Below w.heap.size w W2:=by rw [hW2];exact (h.bel.grown hg (by omega) (fun j hj=>(h.rq.lt j hj).1)).setCell (p:=⟨b13,0,none⟩) (by show w.heap.size ≤ b13;omega) _
 have hz2:W2.heap.size = W'.heap.size:=by rw [hW2];simp [World.setCell]
 have all:∀ b t9 vs,Blk W b t9 vs → 3 ≠ t9 → b ≠ b13 → Blk (W2.setCell ⟨bN,t.toNat,none⟩ (.int .i64 ((q + 1:Nat):Int))) b t9 vs:=fun b t9 vs hk h9 hb=>h3 _ _ _ (h2 _ _ _ (q_blk h.rq hg hk h9) hb) h9
 have allI:∀ b vs,Blk W b 3 vs → Ap (some b) qv.ownBlock → b ≠ bN → Blk (W2.setCell ⟨bN,t.toNat,none⟩ (.int .i64 ((q + 1:Nat):Int))) b 3 vs:=fun b vs hk ha hb=>by
  have k1:=ap_blk hk hg ha
  exact (h2 _ _ _ k1 (blk_apart k1 k13 (by decide))).kept hs3 (fun e=>hb (by injection e))
 have nb:∀ j a b,([some bI,some ba,av.ownBlock,some bN,mv.ownBlock,qv.ownBlock]:List (Option Nat))[j]? = some a → j ≠ 3 → a = some b → b ≠ bN:=fun j a b hj hne9 hab hb=>h.ap.at_ 3 j rfl hj (Ne.symm hne9) bN rfl (by rw [hab,hb])
 refine ⟨⟨hb1.setCell (p:=⟨bN,t.toNat,none⟩) (by show w.heap.size ≤ bN;omega) _,all _ _ _ h.box (by decide) (by omega),all _ _ _ h.res (by decide) (by omega),all _ _ _ h.out (by decide) (blk_apart h.out h.k13 (by decide)),all _ _ _ h.k9 (by decide) (blk_apart h.k9 h.k13 (by decide)),all _ _ _ h.kK (by decide) (blk_apart h.kK h.k13 (by decide)),all _ _ _ h.kM (by decide) (blk_apart h.kM h.k13 (by decide)),all _ _ _ h.k11 (by decide) h.n13,kN3,all _ _ _ h.k12 (by decide) (blk_apart h.k12 h.k13 (by decide)),
  allI _ _ h.arr (h.ap.at_ 1 5 rfl rfl (by decide)) (nb 1 _ _ rfl (by decide) rfl),h3 _ _ _ p13 (by decide),allI _ _ h.kI (h.ap.at_ 0 5 rfl rfl (by decide)) (nb 0 _ _ rfl (by decide) rfl),
  q3 (q2 (h.ra.far hg (h.ap.at_ 2 5 rfl rfl (by decide)))) (h.ap.at_ 3 2 rfl rfl (by decide)),q3 (q2 (h.rm.far hg (h.ap.at_ 4 5 rfl rfl (by decide)))) (h.ap.at_ 3 4 rfl rfl (by decide)),q3 (q2 ho) (hap.at_ 3 5 rfl rfl (by decide)),?_,h.lO,h.l13,h.lN,h.n13,hap.more (by rw [show (W2.setCell ⟨bN,t.toNat,none⟩ (.int .i64 ((q + 1:Nat):Int))).heap.size = W2.heap.size by simp [World.setCell],hz2];exact Nat.le_refl _),h.nd,fun D hD=>⟨(h.mrk D hD).1,?_⟩⟩,k13,kN,hNn⟩
 ·have r1:W'.ownsRow w.heap.size 67 3 ev s.es.length (s.es.flatMap edc):=by
   refine h.re.kept hg ?_
   rcases h.rq.2 with ⟨e,_⟩ | ⟨g',q',cap,cs,e,_,hk,_⟩
   ·rw [e]
    cases hv:ev.ownBlock with
    | none=>exact .inl rfl
    | some g=>exact .inr (by simp [Value.ownBlock])
   ·rw [e]
    exact own_ne_blk h.re hk (by decide)
  have r2:W2.ownsRow w.heap.size 67 3 ev s.es.length (s.es.flatMap edc):=r1.kept g2 (own_ne_blk r1 k13 (by decide))
  exact r2.kept hs3 (own_ne_blk r2 kN2 (by decide))
 ·have m1:W'.heap[D]? = some (.deferred (some [])):=(hg.block D (Array.getElem?_eq_some_iff.1 (h.mrk D hD).2).1 (fun e=>by
   have:=h.rq.cells D _ e.symm (h.mrk D hD).2
   cases this)).trans (h.mrk D hD).2
  exact mark_cells (mark_cells m1 k13 g2) kN2 hs3
theorem RsM.mark (h:RsM w W x ba n ds bO b9 bK bM b11 bN b12 b13 bI i av mv qv ev km q K mk s) {A9:Option Addr} {c9:Nat} {t:Int} (ho:QRow W' w.heap.size (.slice A9 (km + 1) c9) (km + 1) (mk ++ [t])) (hg:W.grownBy W' mv.ownBlock) (hn:(Value.slice A9 (km + 1) c9).ownBlock = mv.ownBlock ∨ ∃ g,(Value.slice A9 (km + 1) c9).ownBlock = some g∧W.heap.size ≤ g) :
  RsM w (W'.setCell ⟨bO,2,none⟩ (.slice A9 (km + 1) c9)) x ba n ds bO b9 bK bM b11 bN b12 b13 bI i av (.slice A9 (km + 1) c9) qv ev (km + 1) q K (mk ++ [t]) s∧Blk W' bO 32 [av,.int .i64 0,mv,ev]:=by
 have hsz:=h.siz
 have hlO:=h.lO
 have hs:=grown_setCell W' bO 2 (.slice A9 (km + 1) c9)
 have kO:=q_blk h.rm hg h.out (by decide)
 have hne:∀ k,k ≠ bO → some k ≠ some bO:=fun k hk e=>hk (by injection e)
 have hap:ApS W'.heap.size [some bI,some ba,av.ownBlock,some bN,(Value.slice A9 (km + 1) c9).ownBlock,qv.ownBlock] :=
  h.ap.set 4 rfl hn hg.size (fun g e=>(ho.lt g e).2)
 have q2:∀ {m:Nat} {v:Value} {l:List Int},QRow W' w.heap.size v m l → QRow (W'.setCell ⟨bO,2,none⟩ (.slice A9 (km + 1) c9)) w.heap.size v m l:=fun hq=>hq.kept hs (fun g e1 e2=>hq.apart kO (by decide) (by rw [e1,e2]))
 have all:∀ b t9 vs,Blk W b t9 vs → 3 ≠ t9 → b ≠ bO → Blk (W'.setCell ⟨bO,2,none⟩ (.slice A9 (km + 1) c9)) b t9 vs:=fun b t9 vs hk h9 hb=>(q_blk h.rm hg hk h9).kept hs (hne _ hb)
 have allI:∀ b vs,Blk W b 3 vs → Ap (some b) mv.ownBlock → Blk (W'.setCell ⟨bO,2,none⟩ (.slice A9 (km + 1) c9)) b 3 vs:=fun b vs hk ha=>by
  have k1:=ap_blk hk hg ha
  exact k1.kept hs (hne _ (blk_apart k1 kO (by decide)))
 refine ⟨⟨(h.bel.grown hg (by omega) (fun j hj=>(h.rm.lt j hj).1)).setCell (p:=⟨bO,2,none⟩) (by show w.heap.size ≤ bO;omega) _,all _ _ _ h.box (by decide) (by omega),all _ _ _ h.res (by decide) (by omega),kO.set (j:=2) (by simp) _,all _ _ _ h.k9 (by decide) (blk_apart h.k9 h.out (by decide)),all _ _ _ h.kK (by decide) (blk_apart h.kK h.out (by decide)),all _ _ _ h.kM (by decide) (blk_apart h.kM h.out (by decide)),all _ _ _ h.k11 (by decide) (blk_apart h.k11 h.out (by decide)),allI _ _ h.kN (h.ap.at_ 3 4 rfl rfl (by decide)),all _ _ _ h.k12 (by decide) (blk_apart h.k12 h.out (by decide)),
  allI _ _ h.arr (h.ap.at_ 1 4 rfl rfl (by decide)),all _ _ _ h.k13 (by decide) (blk_apart h.k13 h.out (by decide)),allI _ _ h.kI (h.ap.at_ 0 4 rfl rfl (by decide)),
  q2 (h.ra.far hg (h.ap.at_ 2 4 rfl rfl (by decide))),q2 ho,q2 (h.rq.far hg (h.ap.at_ 5 4 rfl rfl (by decide))),?_,h.lO,h.l13,h.lN,h.n13,hap.more (by simp [World.setCell]),h.nd,fun D hD=>⟨(h.mrk D hD).1,?_⟩⟩,kO⟩
 ·have r1:W'.ownsRow w.heap.size 67 3 ev s.es.length (s.es.flatMap edc):=by
   refine h.re.kept hg ?_
   rcases h.rm.2 with ⟨e,_⟩ | ⟨g',q',cap,cs,e,_,hk,_⟩
   ·rw [e]
    cases hv:ev.ownBlock with
    | none=>exact .inl rfl
    | some g=>exact .inr (by simp [Value.ownBlock])
   ·rw [e]
    exact own_ne_blk h.re hk (by decide)
  exact r1.kept hs (own_ne_blk r1 kO (by decide))
 ·exact mark_cells ((hg.block D (Array.getElem?_eq_some_iff.1 (h.mrk D hD).2).1 (fun e=>by
   have:=h.rm.cells D _ e.symm (h.mrk D hD).2
   cases this)).trans (h.mrk D hD).2) kO hs
theorem RsM.edge (h:RsM w W x ba n ds bO b9 bK bM b11 bN b12 b13 bI i av mv qv ev km q K mk s) {A9:Option Addr} {c9:Nat} {e:Ed} (ho:W'.ownsRow w.heap.size 67 3 (.slice A9 (s.es.length + 1) c9) (s.es.length + 1) (s.es.flatMap edc ++ edc e)) (hg:W.grownBy W' ev.ownBlock) :
  RsM w (W'.setCell ⟨bO,3,none⟩ (.slice A9 (s.es.length + 1) c9)) x ba n ds bO b9 bK bM b11 bN b12 b13 bI i av mv qv (.slice A9 (s.es.length + 1) c9) km q K mk ⟨s.ts,s.es ++ [e]⟩∧Blk W' bO 32 [av,.int .i64 0,mv,ev]:=by
 have hsz:=h.siz
 have hlO:=h.lO
 have hs:=grown_setCell W' bO 3 (.slice A9 (s.es.length + 1) c9)
 have all1:∀ b t9 vs,Blk W b t9 vs → 67 ≠ t9 → Blk W' b t9 vs:=fun b t9 vs hk h9=>hk.kept hg (blk_ne_own h.re hk h9)
 have kO:=all1 _ _ _ h.out (by decide)
 have hne:∀ k,k ≠ bO → some k ≠ some bO:=fun k hk e=>hk (by injection e)
 have all:∀ b t9 vs,Blk W b t9 vs → 67 ≠ t9 → b ≠ bO → Blk (W'.setCell ⟨bO,3,none⟩ (.slice A9 (s.es.length + 1) c9)) b t9 vs:=fun b t9 vs hk h9 hb=>(all1 _ _ _ hk h9).kept hs (hne _ hb)
 have allN:∀ b t9 vs,Blk W b t9 vs → 67 ≠ t9 → 32 ≠ t9 → Blk (W'.setCell ⟨bO,3,none⟩ (.slice A9 (s.es.length + 1) c9)) b t9 vs:=fun b t9 vs hk h9 h8=>all b t9 vs hk h9 (blk_apart hk h.out (Ne.symm h8))
 have q2:∀ {m:Nat} {v:Value} {l:List Int},QRow W w.heap.size v m l → QRow (W'.setCell ⟨bO,3,none⟩ (.slice A9 (s.es.length + 1) c9)) w.heap.size v m l:=fun hq=>(hq.other h.re (by decide) hg).kept hs (fun g e1 e2=>(hq.other h.re (by decide) hg).apart kO (by decide) (by rw [e1,e2]))
 refine ⟨⟨(h.bel.grown hg (by omega) (fun j hj=>(h.re.lt j hj).1)).setCell (p:=⟨bO,3,none⟩) (by show w.heap.size ≤ bO;omega) _,all _ _ _ h.box (by decide) (by omega),all _ _ _ h.res (by decide) (by omega),kO.set (j:=3) (by simp) _,allN _ _ _ h.k9 (by decide) (by decide),allN _ _ _ h.kK (by decide) (by decide),allN _ _ _ h.kM (by decide) (by decide),allN _ _ _ h.k11 (by decide) (by decide),allN _ _ _ h.kN (by decide) (by decide),allN _ _ _ h.k12 (by decide) (by decide),
  allN _ _ _ h.arr (by decide) (by decide),allN _ _ _ h.k13 (by decide) (by decide),allN _ _ _ h.kI (by decide) (by decide),q2 h.ra,q2 h.rm,q2 h.rq,?_,h.lO,h.l13,h.lN,h.n13,h.ap.more (Nat.le_trans hg.size (by simp [World.setCell])),h.nd,fun D hD=>⟨(h.mrk D hD).1,?_⟩⟩,kO⟩
 ·have:=ho.kept hs (own_ne_blk ho kO (by decide))
  simpa using this
 ·exact mark_cells ((hg.block D (Array.getElem?_eq_some_iff.1 (h.mrk D hD).2).1 (fun e=>by
   have:=own_cells h.re D _ e.symm (h.mrk D hD).2
   cases this)).trans (h.mrk D hD).2) kO hs
theorem RsM.next (h:RsM w W x ba n ds bO b9 bK bM b11 bN b12 b13 bI i av mv qv ev km q K mk s) {D:Nat} (hD:W.heap[D]? = some (.deferred (some []))) (hwD:w.heap.size ≤ D) (hnew:D ∉ ds) (j:Nat):RsM w (W.alloc (.cells #[.int .i64 (j:Int)] 3)) x ba n (D :: ds) bO b9 bK bM b11 bN b12 b13 W.heap.size j av mv qv ev km q K mk s:=by
 have hs:=h.siz
 have hb:=box_below W (.cells #[.int .i64 (j:Int)] 3)
 have h2:=h.quiet hb
 have hap:ApS (W.alloc (.cells #[.int .i64 (j:Int)] 3)).heap.size [some W.heap.size,some ba,av.ownBlock,some bN,mv.ownBlock,qv.ownBlock] :=
  h.ap.set 0 rfl (.inr ⟨_,rfl,Nat.le_refl _⟩) hb.size (fun g e=>by injection e with e;simp;omega)
 exact ⟨h2.bel,h2.box,h2.res,h2.out,h2.k9,h2.kK,h2.kM,h2.k11,h2.kN,h2.k12,h2.arr,h2.k13,Blk.new _ _ [_],h2.ra,h2.rm,h2.rq,h2.re,h2.lO,h2.l13,h2.lN,h2.n13,hap,List.nodup_cons.2 ⟨hnew,h.nd⟩,fun E hE=>by
  rcases List.mem_cons.1 hE with rfl | hE
  ·exact ⟨hwD,(hb.block E (Array.getElem?_eq_some_iff.1 hD).1).trans hD⟩
  ·exact h2.mrk E hE⟩
theorem RsM.gr (h:RsM w W x ba n ds bO b9 bK bM b11 bN b12 b13 bI i av mv qv ev km q K mk s) (hx:x.ok W W.heap.size) (hw:WF x.a) (hn:x.a.st = (n:Int)):GrR W W.heap.size x ba n:=⟨hx,hw,hn,h.arr,h.arr.lt⟩
end
end Go.Proofs.Ytdnmpndnpfklcaa

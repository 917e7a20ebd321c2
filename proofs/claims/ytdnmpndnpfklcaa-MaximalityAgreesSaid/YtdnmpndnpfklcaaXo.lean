/- Walk: maximality.check. -/
import Derived.Test.YtdnmpndnpfklcaaXm
import Derived.Test.YtdnmpndnpfklcaaUx

namespace Go.Proofs.Ytdnmpndnpfklcaa
open Go.RowKit Go Go.Maps
theorem max_check (z:PB) (c:CV) (w:World) (h:z.ok w w.heap.size) (hm:z.m.ok) (hc:c.ok w w.heap.size) (hrn:c.rn ≤ 1000000) :
  Calls Try.prog 54 #[.agg (pbc z).toArray,.agg (cvc c).toArray] w (RetVer z.m c.ce w):=by
 have HC:=Lib.hid (fun (W:World) (h9:z.ok W W.heap.size)=>max_Check z W h9 hm)
 have HV:=Lib.hid (fun (W:World) (h9:z.ok W W.heap.size) (h8:c.ok W W.heap.size)=>max_Verify z c W h9 hm h8 hrn)
 have hb1:=box_below w (.cells (pbc z).toArray 34)
 have kx:=Blk.new w 34 (pbc z)
 obtain ⟨w1,hw1⟩:∃ w1,w1 = w.alloc (.cells (pbc z).toArray 34):=⟨_,rfl⟩
 rw [← hw1] at hb1 kx
 have hb2:=box_below w1 (.cells (cvc c).toArray 38)
 have kx2:=kx.below hb2 kx.lt
 have kc:=Blk.new w1 38 (cvc c)
 have hs1:w1.heap.size = w.heap.size + 1:=by rw [hw1];simp
 rw [hs1] at kc
 obtain ⟨w2,hw2⟩:∃ w2,w2 = w1.alloc (.cells (cvc c).toArray 38):=⟨_,rfl⟩
 rw [← hw2] at hb2 kx2 kc
 have hb12:=hb1.trans (hb2.mono hb1.size)
 have HZ:=Lib.hid (fun (W:World) (hb:Below w2.heap.size w2 W)=>(h.below (hb12.trans (hb.mono hb12.size))).more (hb12.trans (hb.mono hb12.size)).size)
 have HZC:=Lib.hid (fun (W:World) (hb:Below w2.heap.size w2 W)=>(hc.below (hb12.trans (hb.mono hb12.size))).more (hb12.trans (hb.mono hb12.size)).size)
 have HK:=Lib.hid (fun (W:World) (hb:Below w2.heap.size w2 W)=>kx2.below hb kx2.lt)
 have HKC:=Lib.hid (fun (W:World) (hb:Below w2.heap.size w2 W)=>kc.below hb kc.lt)
 have HB:=Lib.hid (fun (W:World) (hb:Below w2.heap.size w2 W)=>hb12.trans (hb.mono hb12.size))
 have HW2:=Lib.hid (show (w.alloc (.cells (pbc z).toArray 34)).alloc (.cells (cvc c).toArray 38) = w2 by rw [hw2,hw1])
 clear hb1 hb2 hb12 kx kx2 kc hw1 hw2 hs1 h hm hc
 unfold pbc at HC HV HK HW2 ⊢
 unfold cvc at HV HKC HW2 ⊢
 obtain ⟨⟨a0,a1,a2,a3,a4⟩,a5⟩:=Blk.c6 (HK.out w2 (Below.refl _ _))
 go_enter Try.func54,Try.ntmps54
 go_upto_region 1 with fail
 rw [HW2.out]
 go_wp2_with fail
 refine (HC.out w2 (HZ.out w2 (Below.refl _ _))).mono ?_
 rintro _ w3 ⟨rfl,hb3⟩
 have HB3:=Lib.hid hb3
 clear a0 a1 a2 a3 a4 a5 HC hb3
 obtain ⟨⟨a0,a1,a2,a3,a4⟩,a5⟩:=Blk.c6 (HK.out w3 HB3.out)
 obtain ⟨c0,c1,c2⟩:=Blk.c3 (HKC.out w3 HB3.out)
 go_wp2_with fail
 refine (HV.out w3 (HZ.out w3 HB3.out) (HZC.out w3 HB3.out)).mono ?_
 rintro _ w4 ⟨v,rfl,hv,hb4⟩
 have HR:=Lib.hid (show RetVer z.m c.ce w (.returned (.int .i64 v)) w4 from ⟨v,rfl,hv,HB.out _ (HB3.out.trans (hb4.mono HB3.out.size))⟩)
 clear a0 a1 a2 a3 a4 a5 c0 c1 c2 hb4 hv
 go_wp2
 go_ret
 exact HR.out
end Go.Proofs.Ytdnmpndnpfklcaa
/- The graph's backward: its memory. -/
namespace Go.Proofs.Ytdnmpndnpfklcaa
open Go.RowKit Go Go.Maps
theorem isl_info:(Try.prog.info? 29).map (fun i=>(i.zero,i.size,i.bytes)) = some (some (.slice none 0 0),1,24):=by kernel_rfl
structure PrM (B:Nat) (w0 w:World) (tb n:Nat) (es:List Ed) (g:Int → Option Hd):Prop where
 bel:Below B w0 w
 siz:B ≤ w.heap.size
 tab:Blk w tb 29 ((List.range n).map fun i:Nat=>hvl (g (i:Int)))
 lt:B ≤ tb
 row:∀ t,w.ownsRow B 3 1 (hvl (g t)) (preL es t).length (iv ((preL es t).map Ed.f))
 apt:∀ t u h k,g t = some h → g u = some k → h.1 = k.1 → t = u
section
variable {B:Nat} {w0 w w':World} {tb n:Nat} {es:List Ed} {g:Int → Option Hd}
theorem made_nil (n:Nat):madeCells #[Value.slice none 0 0] n = ((List.range n).map fun i:Nat=>hvl ((fun _:Int=>(none:Option Hd)) (i:Int))).toArray:=by
 apply Array.ext'
 rw [toList_madeCells_one]
 show _ = (List.range n).map (fun _=>Value.slice none 0 0)
 rw [List.map_const',List.length_range]
theorem PrM.start (w:World) (n:Nat):PrM w.heap.size w (w.alloc (.cells (madeCells #[.slice none 0 0] n) 29)) w.heap.size n [] (fun _=>none) :=
 ⟨box_below _ _,by simp,by rw [made_nil];exact Blk.new _ _ _,Nat.le_refl _,fun t=>World.ownsRow_nil _ _ _ _,fun t u h k e=>by cases e⟩
theorem PrM.quiet (h:PrM B w0 w tb n es g) (hb:Below w.heap.size w w'):PrM B w0 w' tb n es g :=
 ⟨h.bel.trans (hb.mono h.siz),Nat.le_trans h.siz hb.size,h.tab.below hb h.tab.lt,h.lt,fun t=>own_below (h.row t) hb,h.apt⟩
theorem PrM.cell (h:PrM B w0 w tb n es g) {t:Int} (h0:0 ≤ t) (h1:t < (n:Int)):w.cell? ⟨tb,t.toNat,none⟩ = some (hvl (g t)):=h.tab.cell (by
 rw [List.getElem?_map,List.getElem?_range (by omega)]
 show some (hvl (g ((t.toNat:Nat):Int))) = _
 rw [show ((t.toNat:Nat):Int) = t by omega])
theorem PrM.step (h:PrM B w0 w tb n es g) {x:Ed} (h0:0 ≤ x.t) (h1:x.t < (n:Int)) {gb c:Nat} {w1:World}
  (ho:w1.ownsRow B 3 1 (.slice (some ⟨gb,0,none⟩) ((preL es x.t).length + 1) c) ((preL es x.t).length + 1) (iv ((preL es x.t).map Ed.f) ++ [.int .i64 x.f])) (hg:w.grownBy w1 (hvl (g x.t)).ownBlock)
  (hgb:(hvl (g x.t)).ownBlock = some gb ∨ w.heap.size ≤ gb) :
  PrM B w0 (w1.setCell ⟨tb,x.t.toNat,none⟩ (.slice (some ⟨gb,0,none⟩) ((preL es x.t).length + 1) c)) tb n (es ++ [x]) (fun u=>if u = x.t then some (gb,(preL es x.t).length + 1,c) else g u)∧Blk w1 tb 29 ((List.range n).map fun i:Nat=>hvl (g (i:Int))):=by
 have htab1:=h.tab.kept hg (blk_ne_own (h.row x.t) h.tab (by decide))
 have hg2:=grown_setCell w1 tb x.t.toNat (.slice (some ⟨gb,0,none⟩) ((preL es x.t).length + 1) c)
 have hb1:Below B w0 w1:=h.bel.grown hg h.siz (fun j hj=>((h.row x.t).lt j hj).1)
 have hs1:=Nat.le_trans h.siz hg.size
 refine ⟨⟨hb1.grown hg2 hs1 (fun j hj=>by injection hj with hj;have:=h.lt;omega),Nat.le_trans hs1 hg2.size,?_,h.lt,fun t=>?_,?_⟩,htab1⟩
 ·have h9:=htab1.set (j:=x.t.toNat) (by rw [List.length_map,List.length_range];omega) (.slice (some ⟨gb,0,none⟩) ((preL es x.t).length + 1) c)
  have e:((List.range n).map fun i:Nat=>hvl (g (i:Int))).set x.t.toNat (.slice (some ⟨gb,0,none⟩) ((preL es x.t).length + 1) c) = (List.range n).map fun i:Nat=>hvl (if ((i:Int)) = x.t then some (gb,(preL es x.t).length + 1,c) else g (i:Int)):=by
   apply List.ext_getElem?
   intro i
   rw [List.getElem?_set,List.length_map,List.length_range,List.getElem?_map,List.getElem?_map]
   by_cases hi:i < n
   ·rw [List.getElem?_range hi]
    by_cases hx:x.t.toNat = i
    ·rw [if_pos hx,if_pos (by omega)]
     show _ = some (hvl (if ((i:Nat):Int) = x.t then _ else _))
     rw [if_pos (by omega)]
     rfl
    ·rw [if_neg hx]
     show some (hvl (g ((i:Nat):Int))) = some (hvl (if ((i:Nat):Int) = x.t then _ else _))
     rw [if_neg (by omega)]
   ·rw [List.getElem?_eq_none (by rw [List.length_range];omega)]
    rw [if_neg (by omega)]
    rfl
  rw [e] at h9
  exact h9
 ·rw [preL_snoc]
  by_cases hx:x.t = t
  ·subst hx
   rw [if_pos rfl,if_pos rfl,List.map_append,iv_append,List.length_append]
   have:=ho.kept hg2 (own_ne_blk ho htab1 (by decide))
   simpa [hvl,iv] using this
  ·have hx':¬ t = x.t:=fun e=>hx e.symm
   rw [if_neg hx,if_neg hx']
   have h1:w1.ownsRow B 3 1 (hvl (g t)) (preL es t).length (iv ((preL es t).map Ed.f)):=by
    refine (h.row t).kept hg ?_
    cases hgt:g t with
    | none=>exact .inl rfl
    | some k =>
     refine .inr ?_
     intro e
     cases hgx:g x.t with
     | none=>rw [hgx] at e;cases e
     | some k2 =>
      rw [hgx] at e
      have:k.1 = k2.1:=by simpa [hvl,Value.ownBlock] using e
      exact hx (h.apt _ _ _ _ hgt hgx this).symm
   exact h1.kept hg2 (own_ne_blk h1 htab1 (by decide))
 ·have key:∀ u k,u ≠ x.t → g u = some k → k.1 ≠ gb:=by
   intro u k hu hk e
   rcases hgb with h9 | h9
   ·cases hgx:g x.t with
    | none=>rw [hgx] at h9;cases h9
    | some k2 =>
     rw [hgx] at h9
     have:k2.1 = gb:=by simpa [hvl,Value.ownBlock] using h9
     exact hu (h.apt _ _ _ _ hk hgx (by omega))
   ·have h8:=h.row u
    rw [hk] at h8
    have:=(h8.lt k.1 rfl).2
    omega
  intro t u h1 k1 e1 e2 e3
  by_cases ht1:t = x.t
  ·rw [if_pos ht1] at e1
   by_cases hu1:u = x.t
   ·rw [ht1,hu1]
   ·rw [if_neg hu1] at e2
    injection e1 with e1
    subst e1
    exact absurd e3.symm (key u k1 hu1 e2)
  ·rw [if_neg ht1] at e1
   by_cases hu1:u = x.t
   ·rw [if_pos hu1] at e2
    injection e2 with e2
    subst e2
    exact absurd e3 (key t h1 ht1 e1)
   ·rw [if_neg hu1] at e2
    exact h.apt _ _ _ _ e1 e2 e3
theorem PrM.rdi (h:PrM B w0 w tb n es g) (t:Int):∃ (A:Option Addr) (c:Nat),hvl (g t) = .slice A (preL es t).length c∧RdI w w.heap.size A ((preL es t).map Ed.f):=by
 have h1:=h.row t
 obtain ⟨A,c,e⟩:=own_shape h1
 rw [e] at h1
 exact ⟨A,c,e,rdI_own (by rw [List.length_map]) h1⟩
end
theorem wpList_push_q (w:World) {ops:Array Oper} {rest:List Oper} {o:Oper} {a:Act} {Q:Exit → Act → World → Prop} (hg:o.guard = none) (s x:Operand)
  (hop:o.op = Op.call { callee:=Callee.builtin Builtin.append,args:=#[s,x],argTypes:=#[29,29] }) (base:Nat) (v:Value) (k:Nat) (l:List Int) (hs:a.eval s = v) (hq:QRow w base v k l) (y:Int) (gx:Nat)
  (hx:a.eval x = .slice (some ⟨gx,0,none⟩) 1 1) (hk:Blk w gx 3 [.int .i64 y]) (hn:k + 1 ≤ 1000000) (hb:base ≤ w.heap.size)
  (hK:∀ v' w',QRow w' base v' (k + 1) (l ++ [y]) → w.grownBy w' v.ownBlock → (v'.ownBlock = v.ownBlock ∨ v'.ownBlock = some w.heap.size) → wpList Try.prog ops Q rest (a.put o.dst v') w'):wpList Try.prog ops Q (o :: rest) a w:=by
 refine wpList_plain hg fun K hK'=>?_
 obtain ⟨v',w',hrun,r1,r2,r3⟩:=run_push_q w base o.type v k l hq y gx hk hn hb
 unfold Oper.wp
 simp [execOp,hop,resolve,invoke,builtin,hs,hx,hrun,Result.andThen]
 exact hK' _ _ (hK v' w' r1 r2 r3)
structure DisB (w1 W:World) (qv:Value) (i q:Nat) (s:DS):Prop where
 bel:Below w1.heap.size w1 W
 out:Blk W w1.heap.size 3 (iv s.1)
 row:QRow W (w1.heap.size + 1) qv q (s.2.drop i)
section
variable {w1 W W':World} {qv:Value} {i q:Nat} {s:DS}
theorem DisB.siz (h:DisB w1 W qv i q s):w1.heap.size + 1 ≤ W.heap.size:=h.out.lt
theorem DisB.quiet (h:DisB w1 W qv i q s) (hb:Below W.heap.size W W'):DisB w1 W' qv i q s :=
 ⟨h.bel.trans (hb.mono h.bel.size),h.out.below hb h.out.lt,h.row.below hb⟩
theorem DisB.set (h:DisB w1 W qv i q s) {j:Nat} (hj:j < s.1.length) (v:Int):DisB w1 (W.setCell ⟨w1.heap.size,j,none⟩ (.int .i64 v)) qv i q (s.1.set j v,s.2):=by
 have hg:=grown_setCell W w1.heap.size j (.int .i64 v)
 refine ⟨h.bel.setCell (p:=⟨w1.heap.size,j,none⟩) (Nat.le_refl _) _,?_,h.row.kept hg (fun g e1 e2=>by injection e2 with e2;have:=(h.row.lt g e1).1;omega)⟩
 have:=h.out.set (j:=j) (by rw [iv_length];exact hj) (.int .i64 v)
 rwa [iv_set] at this
theorem DisB.push (h:DisB w1 W qv i q s) (hi:i ≤ s.2.length) {v':Value} {x:Int} (ho:QRow W' (w1.heap.size + 1) v' (q + 1) (s.2.drop i ++ [x])) (hg:W.grownBy W' qv.ownBlock):DisB w1 W' v' i (q + 1) (s.1,s.2 ++ [x]) :=
 ⟨h.bel.grown hg h.bel.size (fun j hj=>by have:=(h.row.lt j hj).1;omega),h.out.kept hg (fun e=>by have:=(h.row.lt _ e.symm).1;omega),by
  show QRow W' (w1.heap.size + 1) v' (q + 1) ((s.2 ++ [x]).drop i)
  rw [List.drop_append_of_le_length hi];exact ho⟩
theorem DisB.cell (h:DisB w1 W qv i q s) {k:Int} (h0:0 ≤ k) (h1:k.toNat < s.1.length) {v:Int} (hv:gI s.1 k = v):W.cell? ⟨w1.heap.size,k.toNat,none⟩ = some (.int .i64 v):=by
 have:=h.out.cell (iv_gI (l:=s.1) (i:=k.toNat) h1)
 rw [show ((k.toNat:Nat):Int) = k by omega,hv] at this
 exact this
end
theorem dsI_snoc {N:List Bool} {l:List Int} {s:DS} {j:Nat} {m:Int} (h:l[j]? = some m):dsI N (l.take (j + 1)) s = dsM N (dsI N (l.take j) s) m:=by
 unfold dsI;rw [take_snoc' h,List.foldl_append];rfl
theorem fl_allT {n:Nat} {s:Int} (h0:0 ≤ s) (h1:s < (n:Int)):fl (List.replicate n true) s = true:=by
 unfold fl
 rw [List.getD_eq_getElem?_getD,List.getElem?_replicate,if_pos (by omega)]
 rfl
theorem dsI_all2 {n:Nat}:∀ (l:List Int) (s:DS),(∀ m ∈ l,0 ≤ m∧m < (n:Int)) → (dsI (List.replicate n true) l s).2 = s.2 ++ l
 | [],s,_=>by simp [dsI]
 | m :: l,s,h=>by
  have h1:=h m List.mem_cons_self
  have ih:=dsI_all2 l (dsM (List.replicate n true) s m) (fun x hx=>h x (List.mem_cons_of_mem _ hx))
  have e:dsM (List.replicate n true) s m = (s.1.set m.toNat 0,s.2 ++ [m]):=by unfold dsM;rw [if_pos (fl_allT h1.1 h1.2)]
  show (dsI (List.replicate n true) l (dsM (List.replicate n true) s m)).2 = _
  rw [ih,e,List.append_assoc]
  rfl
theorem dsM_all {n:Nat} {s:DS} {m:Int} (h0:0 ≤ m) (h1:m < (n:Int)):dsM (List.replicate n true) s m = (s.1.set m.toNat 0,s.2 ++ [m]):=by unfold dsM;rw [if_pos (fl_allT h0 h1)]
theorem dsI_len1 {N:List Bool}:∀ (l:List Int) (s:DS),(dsI N l s).1.length = s.1.length
 | [],s=>rfl
 | m :: l,s=>by
  show (dsI N l (dsM N s m)).1.length = _
  rw [dsI_len1 l]
  unfold dsM
  split
  ·rw [List.length_set]
  ·rfl
end Go.Proofs.Ytdnmpndnpfklcaa

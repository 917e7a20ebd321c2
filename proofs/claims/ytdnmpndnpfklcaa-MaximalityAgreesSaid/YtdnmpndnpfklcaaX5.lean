/- The supervisor of synthesis: its memory. -/
import Derived.Test.YtdnmpndnpfklcaaX4
import Derived.Test.YtdnmpndnpfklcaaXo
import Derived.Test.YtdnmpndnpfklcaaBj
import Derived.Test.YtdnmpndnpfklcaaBi
namespace Go.Proofs.Ytdnmpndnpfklcaa
open Go.RowKit Go Go.Maps
theorem esl_info:(Try.prog.info? 30).map (fun i=>(i.zero,i.size,i.bytes)) = some (some (.slice none 0 0),1,24):=by kernel_rfl
def fromL (es:List Ed) (t:Int):List Ed:=es.filter fun x=>decide (x.f = t)
theorem fromL_snoc (es:List Ed) (x:Ed) (t:Int):fromL (es ++ [x]) t = if x.f = t then fromL es t ++ [x] else fromL es t:=by
 unfold fromL
 rw [List.filter_append]
 by_cases h:x.f = t
 ·rw [if_pos h];simp [h]
 ·rw [if_neg h];simp [h]
def leL (N:List Bool) (es:List Ed):List Ed:=es.filter fun x=>fl N x.t
theorem leL_from (N:List Bool) (a:Aut) (t:Int):fromL (leL N a.ed) t = (outE a t).filter fun x=>fl N x.t:=by
 unfold fromL leL outE
 rw [List.filter_filter,List.filter_filter]
 refine List.filter_congr fun x _=>?_
 rw [Bool.and_comm]
theorem leL_snoc {N:List Bool} {es:List Ed} {k:Nat} {x:Ed} (h:es[k]? = some x):leL N (es.take (k + 1)) = leL N (es.take k) ++ (if fl N x.t = true then [x] else []):=by
 unfold leL
 rw [take_snoc' h,List.filter_append]
 congr 1
 by_cases hq:fl N x.t = true
 ·rw [if_pos hq];simp [hq]
 ·rw [if_neg hq];simp [hq]
theorem hasB_onF {N:List Bool} {s:Int} (h0:0 ≤ s) (h1:s < (N.length:Int)):hasB (onF N) s = fl N s:=by
 rw [Bool.eq_iff_iff,hasB_mem,onF_mem]
 exact ⟨fun h=>h.2,fun h=>⟨⟨h0,h1⟩,h⟩⟩
theorem row_left {N:List Bool} {a:Aut} {t:Int} {i:Nat} {s:Bs Int}:((outE a t).filter fun x=>fl N x.t).foldl (rsE (onF N) i) s = (outE a t).foldl (rsE (onF N) i) s:=by
 refine foldl_filter (fun b x hq=>?_) _ _
 refine rsE_no ?_
 rw [Bool.eq_false_iff]
 intro h
 have:=(onF_mem.1 (hasB_mem.1 h)).2
 rw [hq] at this
 cases this
def numI (ts:List Int) (v:Int):Option Int:=if idx ts v < 0 then none else some (idx ts v)
theorem numI_new {ts:List Int} {t:Int} (h:idx ts t < 0):∀ d,Value.int IntKind.i64 d = Value.int IntKind.i64 t → numI (ts ++ [t]) d = some (ts.length:Int):=fun d hd=>by
 injection hd with _ hd
 subst hd
 unfold numI
 rw [idx_new (idx_neg.1 h),if_neg (by omega)]
theorem numI_old {ts:List Int} {t:Int}:∀ d,Value.int IntKind.i64 d ≠ Value.int IntKind.i64 t → numI (ts ++ [t]) d = numI ts d:=fun d hd=>by
 unfold numI
 by_cases hm:d ∈ ts
 ·rw [idx_app hm]
 ·rw [idx_no hm,idx_no (fun h=>by
   rcases List.mem_append.1 h with h | h
   ·exact hm h
   ·rw [List.mem_singleton.1 h] at hd;exact hd rfl)]
structure EtM (B:Nat) (w0 w:World) (tb n:Nat) (es:List Ed) (g:Int → Option Hd):Prop where
 bel:Below B w0 w
 siz:B ≤ w.heap.size
 tab:Blk w tb 30 ((List.range n).map fun i:Nat=>hvl (g (i:Int)))
 lt:B ≤ tb
 row:∀ t,w.ownsRow B 67 3 (hvl (g t)) (fromL es t).length ((fromL es t).flatMap edc)
 apt:∀ t u h k,g t = some h → g u = some k → h.1 = k.1 → t = u
section
variable {B:Nat} {w0 w w':World} {tb n:Nat} {es:List Ed} {g:Int → Option Hd}
theorem EtM.start (w:World) (n:Nat):EtM w.heap.size w (w.alloc (.cells (madeCells #[.slice none 0 0] n) 30)) w.heap.size n [] (fun _=>none) :=
 ⟨box_below _ _,by simp,by rw [made_nil];exact Blk.new _ _ _,Nat.le_refl _,fun t=>World.ownsRow_nil _ _ _ _,fun t u h k e=>by cases e⟩
theorem EtM.quiet (h:EtM B w0 w tb n es g) (hb:Below w.heap.size w w'):EtM B w0 w' tb n es g :=
 ⟨h.bel.trans (hb.mono h.siz),Nat.le_trans h.siz hb.size,h.tab.below hb h.tab.lt,h.lt,fun t=>own_below (h.row t) hb,h.apt⟩
theorem EtM.cell (h:EtM B w0 w tb n es g) {t:Int} (h0:0 ≤ t) (h1:t < (n:Int)):w.cell? ⟨tb,t.toNat,none⟩ = some (hvl (g t)):=h.tab.cell (by
 rw [List.getElem?_map,List.getElem?_range (by omega)]
 show some (hvl (g ((t.toNat:Nat):Int))) = _
 rw [show ((t.toNat:Nat):Int) = t by omega])
theorem EtM.step (h:EtM B w0 w tb n es g) {x:Ed} (h0:0 ≤ x.f) (h1:x.f < (n:Int)) {gb c:Nat} {w1:World}
  (ho:w1.ownsRow B 67 3 (.slice (some ⟨gb,0,none⟩) ((fromL es x.f).length + 1) c) ((fromL es x.f).length + 1) ((fromL es x.f).flatMap edc ++ edc x)) (hg:w.grownBy w1 (hvl (g x.f)).ownBlock)
  (hgb:(hvl (g x.f)).ownBlock = some gb ∨ w.heap.size ≤ gb) :
  EtM B w0 (w1.setCell ⟨tb,x.f.toNat,none⟩ (.slice (some ⟨gb,0,none⟩) ((fromL es x.f).length + 1) c)) tb n (es ++ [x]) (fun u=>if u = x.f then some (gb,(fromL es x.f).length + 1,c) else g u)∧Blk w1 tb 30 ((List.range n).map fun i:Nat=>hvl (g (i:Int))):=by
 have htab1:=h.tab.kept hg (blk_ne_own (h.row x.f) h.tab (by decide))
 have hg2:=grown_setCell w1 tb x.f.toNat (.slice (some ⟨gb,0,none⟩) ((fromL es x.f).length + 1) c)
 have hb1:Below B w0 w1:=h.bel.grown hg h.siz (fun j hj=>((h.row x.f).lt j hj).1)
 have hs1:=Nat.le_trans h.siz hg.size
 refine ⟨⟨hb1.grown hg2 hs1 (fun j hj=>by injection hj with hj;have:=h.lt;omega),Nat.le_trans hs1 hg2.size,?_,h.lt,fun t=>?_,?_⟩,htab1⟩
 ·have h9:=htab1.set (j:=x.f.toNat) (by rw [List.length_map,List.length_range];omega) (.slice (some ⟨gb,0,none⟩) ((fromL es x.f).length + 1) c)
  have e:((List.range n).map fun i:Nat=>hvl (g (i:Int))).set x.f.toNat (.slice (some ⟨gb,0,none⟩) ((fromL es x.f).length + 1) c) = (List.range n).map fun i:Nat=>hvl (if ((i:Int)) = x.f then some (gb,(fromL es x.f).length + 1,c) else g (i:Int)):=by
   apply List.ext_getElem?
   intro i
   rw [List.getElem?_set,List.length_map,List.length_range,List.getElem?_map,List.getElem?_map]
   by_cases hi:i < n
   ·rw [List.getElem?_range hi]
    by_cases hx:x.f.toNat = i
    ·rw [if_pos hx,if_pos (by omega)]
     show _ = some (hvl (if ((i:Nat):Int) = x.f then _ else _))
     rw [if_pos (by omega)]
     rfl
    ·rw [if_neg hx]
     show some (hvl (g ((i:Nat):Int))) = some (hvl (if ((i:Nat):Int) = x.f then _ else _))
     rw [if_neg (by omega)]
   ·rw [List.getElem?_eq_none (by rw [List.length_range];omega)]
    rw [if_neg (by omega)]
    rfl
  rw [e] at h9
  exact h9
 ·rw [fromL_snoc]
  by_cases hx:x.f = t
  ·subst hx
   rw [if_pos rfl,if_pos rfl,List.flatMap_append,List.length_append]
   have:=ho.kept hg2 (own_ne_blk ho htab1 (by decide))
   simpa [hvl] using this
  ·have hx':¬ t = x.f:=fun e=>hx e.symm
   rw [if_neg hx,if_neg hx']
   have h1:w1.ownsRow B 67 3 (hvl (g t)) (fromL es t).length ((fromL es t).flatMap edc):=by
    refine (h.row t).kept hg ?_
    cases hgt:g t with
    | none=>exact .inl rfl
    | some k =>
     refine .inr ?_
     intro e
     cases hgx:g x.f with
     | none=>rw [hgx] at e;cases e
     | some k2 =>
      rw [hgx] at e
      have:k.1 = k2.1:=by simpa [hvl,Value.ownBlock] using e
      exact hx (h.apt _ _ _ _ hgt hgx this).symm
   exact h1.kept hg2 (own_ne_blk h1 htab1 (by decide))
 ·have key:∀ u k,u ≠ x.f → g u = some k → k.1 ≠ gb:=by
   intro u k hu hk e
   rcases hgb with h9 | h9
   ·cases hgx:g x.f with
    | none=>rw [hgx] at h9;cases h9
    | some k2 =>
     rw [hgx] at h9
     have:k2.1 = gb:=by simpa [hvl,Value.ownBlock] using h9
     exact hu (h.apt _ _ _ _ hk hgx (by omega))
   ·have h8:=h.row u
    rw [hk] at h8
    have:=(h8.lt k.1 rfl).2
    omega
  intro t u h1 k1 e1 e2 e3
  by_cases ht1:t = x.f
  ·rw [if_pos ht1] at e1
   by_cases hu1:u = x.f
   ·rw [ht1,hu1]
   ·rw [if_neg hu1] at e2
    injection e1 with e1
    subst e1
    exact absurd e3.symm (key u k1 hu1 e2)
  ·rw [if_neg ht1] at e1
   by_cases hu1:u = x.f
   ·rw [if_pos hu1] at e2
    injection e2 with e2
    subst e2
    exact absurd e3 (key t h1 ht1 e1)
   ·rw [if_neg hu1] at e2
    exact h.apt _ _ _ _ e1 e2 e3
end
structure SvM (w w6 W:World) (ab:Nat) (VA:Option Addr) (na vc nb nm:Nat) (Ov Mv Ev:Value) (s:Bs Int) (mk:List Int):Prop where
 bel:Below w.heap.size w W
 gr:w6.grownBy W (some ab)
 ka:Blk W ab 32 [.slice VA na vc,.int .i64 0,Mv,Ev]
 num:TabI Try.prog 3 3 (Value.int .i64) W nb nm (numI s.ts)
 nlo:w6.heap.size ≤ nb
 ord:W.ownsRow w6.heap.size 3 1 Ov s.ts.length (iv s.ts)
 mrk:W.ownsRow w6.heap.size 3 1 Mv mk.length (iv mk)
 edg:W.ownsRow w6.heap.size 67 3 Ev s.es.length (s.es.flatMap edc)
 apt:∀ g,Ov.ownBlock = some g → Mv.ownBlock ≠ some g
 al:w.heap.size ≤ ab
 ab6:ab < w6.heap.size
section
variable {w w6 W W':World} {ab:Nat} {VA:Option Addr} {na vc nb nm:Nat} {Ov Mv Ev:Value} {s:Bs Int} {mk:List Int}
theorem grown_hi {w6 W W':World} {ab:Nat} (h:w6.grownBy W (some ab)) {r:Option Nat} (hg:W.grownBy W' r) (hr:∀ j,r = some j → w6.heap.size ≤ j ∨ j = ab):w6.grownBy W' (some ab) :=
 ⟨hg.os.trans h.os,hg.tape.trans h.tape,hg.output.trans h.output,Nat.le_trans h.size hg.size,fun k hk hne=>(hg.block k (Nat.lt_of_lt_of_le hk h.size) (fun e=>by
  rcases hr k e.symm with h1 | h1
  ·omega
  ·exact hne (by rw [h1]))).trans (h.block k hk hne)⟩
theorem SvM.siz (h:SvM w w6 W ab VA na vc nb nm Ov Mv Ev s mk):w6.heap.size ≤ W.heap.size:=h.gr.size
theorem SvM.quiet (h:SvM w w6 W ab VA na vc nb nm Ov Mv Ev s mk) (hb:Below W.heap.size W W'):SvM w w6 W' ab VA na vc nb nm Ov Mv Ev s mk :=
 ⟨h.bel.trans (hb.mono h.bel.size),grown_hi h.gr (grown_below hb none) (fun j e=>by cases e),h.ka.below hb h.ka.lt,h.num.below hb h.num.lt,h.nlo,own_below h.ord hb,own_below h.mrk hb,own_below h.edg hb,h.apt,h.al,h.ab6⟩
theorem SvM.new {W8 W9:World} {Ov':Value} (h:SvM w w6 W ab VA na vc nb nm Ov Mv Ev s mk) {t:Int} (ht:TabI Try.prog 3 3 (Value.int .i64) W8 nb (nm + 1) (numI (s.ts ++ [t]))) (hg8:W.grownBy W8 (some nb))
  (ho:W9.ownsRow w6.heap.size 3 1 Ov' (s.ts.length + 1) (iv s.ts ++ [.int .i64 t])) (hg9:W8.grownBy W9 Ov.ownBlock) (hv:Ov'.ownBlock = Ov.ownBlock ∨ ∃ g,Ov'.ownBlock = some g∧W8.heap.size ≤ g) :
  SvM w w6 W9 ab VA na vc nb (nm + 1) Ov' Mv Ev ⟨s.ts ++ [t],s.es⟩ mk:=by
 have hne:∀ {v:Value} {e:TypeId} {sz m:Nat} {xs:List Value},W.ownsRow w6.heap.size e sz v m xs → W8.ownsRow w6.heap.size e sz v m xs:=fun ho=>ho.kept hg8 (.inr (fun e=>tab_ne_own' h.num ho e.symm))
 have ord8:=hne h.ord
 have mrk8:=hne h.mrk
 have edg8:=hne h.edg
 have ka8:=h.ka.kept hg8 (fun e=>by injection e with e;have:=h.nlo;have:=h.ab6;omega)
 have bel8:Below w.heap.size w W8:=h.bel.grown hg8 h.bel.size (fun j hj=>by injection hj with hj;have:=h.nlo;have:=h.ab6;have:=h.al;omega)
 have hlo:∀ j,Ov.ownBlock = some j → w6.heap.size ≤ j:=fun j hj=>(h.ord.lt j hj).1
 refine ⟨bel8.grown hg9 bel8.size (fun j hj=>by have:=hlo j hj;have:=h.ab6;have:=h.al;omega),grown_hi (grown_hi h.gr hg8 (fun j hj=>by injection hj with hj;left;rw [← hj];exact h.nlo)) hg9 (fun j hj=>.inl (hlo j hj)),
  ka8.kept hg9 (fun e=>by have:=hlo ab e.symm;have:=h.ab6;omega),ht.kept hg9 (tab_ne_own' ht ord8),h.nlo,?_,mrk8.kept hg9 ?_,own_kept_ne edg8 ord8 (by decide) hg9,?_,h.al,h.ab6⟩
 ·rw [List.length_append,iv_append];exact ho
 ·cases hm:Mv.ownBlock with
  | none=>exact .inl rfl
  | some g=>exact .inr (fun e=>h.apt g e.symm hm)
 ·intro g hg hm
  rcases hv with h1 | ⟨g',h1,h2⟩
  ·rw [h1] at hg;exact h.apt g hg hm
  ·rw [h1] at hg
   injection hg with hg
   have:=(mrk8.lt g hm).2
   omega
theorem SvM.edge {W8:World} {Ev':Value} (h:SvM w w6 W ab VA na vc nb nm Ov Mv Ev s mk) {y:Ed} (ho:W8.ownsRow w6.heap.size 67 3 Ev' (s.es.length + 1) (s.es.flatMap edc ++ edc y)) (hg8:W.grownBy W8 Ev.ownBlock) :
  SvM w w6 (W8.setCell ⟨ab,3,none⟩ Ev') ab VA na vc nb nm Ov Mv Ev' ⟨s.ts,s.es ++ [y]⟩ mk∧Blk W8 ab 32 [.slice VA na vc,.int .i64 0,Mv,Ev]:=by
 have hlo:∀ j,Ev.ownBlock = some j → w6.heap.size ≤ j:=fun j hj=>(h.edg.lt j hj).1
 have ka8:=h.ka.kept hg8 (blk_ne_own h.edg h.ka (by decide))
 have hgs:=grown_setCell W8 ab 3 Ev'
 have bel8:Below w.heap.size w W8:=h.bel.grown hg8 h.bel.size (fun j hj=>by have:=hlo j hj;have:=h.ab6;have:=h.al;omega)
 have num8:=h.num.kept hg8 (tab_ne_own' h.num h.edg)
 have kp:∀ {v:Value} {m:Nat} {xs:List Value},W.ownsRow w6.heap.size 3 1 v m xs → (W8.setCell ⟨ab,3,none⟩ Ev').ownsRow w6.heap.size 3 1 v m xs:=fun ho=>(own_kept_ne ho h.edg (by decide) hg8).kept hgs (own_ne_blk (own_kept_ne ho h.edg (by decide) hg8) ka8 (by decide))
 refine ⟨⟨bel8.setCell (p:=⟨ab,3,none⟩) h.al _,grown_hi (grown_hi h.gr hg8 (fun j hj=>.inl (hlo j hj))) hgs (fun j hj=>by injection hj with hj;right;exact hj.symm),ka8.set (j:=3) (by simp) _,
  num8.kept hgs (fun e=>by injection e with e;have:=h.nlo;have:=h.ab6;omega),h.nlo,kp h.ord,kp h.mrk,?_,h.apt,h.al,h.ab6⟩,ka8⟩
 rw [List.length_append,List.flatMap_append,show ([y]:List Ed).flatMap edc = edc y from by simp]
 exact ho.kept hgs (own_ne_blk ho ka8 (by decide))
theorem SvM.mark {W8:World} {Mv':Value} (h:SvM w w6 W ab VA na vc nb nm Ov Mv Ev s mk) {y:Int} (ho:W8.ownsRow w6.heap.size 3 1 Mv' (mk.length + 1) (iv mk ++ [.int .i64 y])) (hg8:W.grownBy W8 Mv.ownBlock)
  (hv:Mv'.ownBlock = Mv.ownBlock ∨ ∃ g,Mv'.ownBlock = some g∧W.heap.size ≤ g) :
  SvM w w6 (W8.setCell ⟨ab,2,none⟩ Mv') ab VA na vc nb nm Ov Mv' Ev s (mk ++ [y])∧Blk W8 ab 32 [.slice VA na vc,.int .i64 0,Mv,Ev]:=by
 have hlo:∀ j,Mv.ownBlock = some j → w6.heap.size ≤ j:=fun j hj=>(h.mrk.lt j hj).1
 have ka8:=h.ka.kept hg8 (blk_ne_own h.mrk h.ka (by decide))
 have hgs:=grown_setCell W8 ab 2 Mv'
 have bel8:Below w.heap.size w W8:=h.bel.grown hg8 h.bel.size (fun j hj=>by have:=hlo j hj;have:=h.ab6;have:=h.al;omega)
 have num8:=h.num.kept hg8 (tab_ne_own' h.num h.mrk)
 have edg8:=own_kept_ne h.edg h.mrk (by decide) hg8
 have ord8:W8.ownsRow w6.heap.size 3 1 Ov s.ts.length (iv s.ts):=h.ord.kept hg8 (by
  cases hm:Ov.ownBlock with
  | none=>exact .inl rfl
  | some g=>exact .inr (fun e=>h.apt g hm e.symm))
 refine ⟨⟨bel8.setCell (p:=⟨ab,2,none⟩) h.al _,grown_hi (grown_hi h.gr hg8 (fun j hj=>.inl (hlo j hj))) hgs (fun j hj=>by injection hj with hj;right;exact hj.symm),ka8.set (j:=2) (by simp) _,
  num8.kept hgs (fun e=>by injection e with e;have:=h.nlo;have:=h.ab6;omega),h.nlo,ord8.kept hgs (own_ne_blk ord8 ka8 (by decide)),?_,edg8.kept hgs (own_ne_blk edg8 ka8 (by decide)),?_,h.al,h.ab6⟩,ka8⟩
 ·rw [List.length_append,iv_append]
  exact ho.kept hgs (own_ne_blk ho ka8 (by decide))
 ·intro g hg hm
  rcases hv with h1 | ⟨g',h1,h2⟩
  ·rw [h1] at hm;exact h.apt g hg hm
  ·rw [h1] at hm
   injection hm with hm
   have:=(h.ord.lt g hg).2
   omega
end
end Go.Proofs.Ytdnmpndnpfklcaa

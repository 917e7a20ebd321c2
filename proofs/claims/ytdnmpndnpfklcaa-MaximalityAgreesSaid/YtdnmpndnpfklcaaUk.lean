/- Walks: reach.Path. A region whose operations may come up in many orders, walked by what always holds in it. -/
import Derived.Test.YtdnmpndnpfklcaaUx
namespace Go.Proofs.Ytdnmpndnpfklcaa
open Go.RowKit Go
section
variable {P:Program} {l:List Oper} {md:Region.Mode} {Q:Exit → Act → World → Prop} {A B:World → Prop} {q:Nat}
theorem anyI (I:Nat → Array Bool → Act → World → Prop)
  (hI:∀ f L a w,I f L a w → heldU A B q L w∧∃ r,Region.ready md l.toArray L = r∧(r = [] → Q .normal a w)∧(f = 0 → r = [])∧∀ i ∈ r,∀ g,f = g + 1 → wpOp P l.toArray Q i (I g (L.setIfInBounds i true)) a w) :
  ∀ (f:Nat) (L:Array Bool) (a:Act) (w:World),I f L a w → anyU P md l.toArray Q A B q f L a w:=by
 intro f
 induction f with
 | zero =>
  intro L a w h
  obtain ⟨_,r,h1,h2,h3,_⟩:=hI 0 L a w h
  exact ⟨h1.trans (h3 rfl),h2 (h3 rfl)⟩
 | succ f ih =>
  intro L a w h
  obtain ⟨_,r,h1,h2,_,h4⟩:=hI (f + 1) L a w h
  refine ⟨fun hr=>h2 (h1.symm.trans hr),fun i hi=>?_⟩
  rw [h1] at hi
  exact wpOp_mono (fun a' w' h'=>⟨(hI f _ a' w' h').1,ih _ a' w' h'⟩) (h4 i hi f rfl)
theorem anyI_at {I:Act → Nat → Array Bool → Act → World → Prop} {f:Nat} {L:Array Bool} {a:Act} {w:World} (h0:I a f L a w)
  (hI:∀ f L a' w,I a f L a' w → heldU A B q L w∧∃ r,Region.ready md l.toArray L = r∧(r = [] → Q .normal a' w)∧(f = 0 → r = [])∧∀ i ∈ r,∀ g,f = g + 1 → wpOp P l.toArray Q i (I a g (L.setIfInBounds i true)) a' w) :
  anyU P md l.toArray Q A B q f L a w:=anyI (I a) hI f L a w h0
theorem wpOp_at {i:Nat} {oi:Oper} {r:List Oper} {J:Act → World → Prop} {a:Act} {w:World} (hi:l.drop i = oi :: r)
  (h:∀ K:Act → World → Prop,(∀ a' w',J a' w' → K a' w') → if Region.wanted oi (yielded l.toArray a.tmps) then oi.wp P a w K Q else K (a.put oi.dst undef) w):wpOp P l.toArray Q i J a w:=by
 have:=h J (fun _ _ h=>h)
 unfold wpOp
 simp only [at_drop hi]
 split
 ·rename_i hw;rw [if_pos hw] at this;exact .inl this
 ·rename_i hw;rw [if_neg hw] at this;exact this
end
def R6 (d1 d2 b1 b2 b3 b4:Bool):List Nat:=(if d1 = true then [] else [2]) ++ (if d1 = true∧d2 = false then [5] else []) ++ (if b1 = true then [] else [6]) ++ (if b2 = true then [] else [7]) ++ (if d1 = true∧d2 = true∧b1 = true∧b2 = true∧b3 = false then [8] else []) ++ (if d1 = true∧d2 = true∧b1 = true∧b2 = true∧b3 = true∧b4 = false then [9] else [])
theorem R6_mem {d1 d2 b1 b2 b3 b4:Bool} {i:Nat} (h:i ∈ R6 d1 d2 b1 b2 b3 b4):(i = 2∧d1 = false) ∨ (i = 5∧d1 = true∧d2 = false) ∨ (i = 6∧b1 = false) ∨ (i = 7∧b2 = false) ∨ (i = 8∧b3 = false∧d1 = true∧d2 = true∧b1 = true∧b2 = true) ∨ (i = 9∧b4 = false∧d1 = true∧d2 = true∧b1 = true∧b2 = true∧b3 = true):=by
 cases d1 <;> cases d2 <;> cases b1 <;> cases b2 <;> cases b3 <;> cases b4 <;> simp [R6] at h ⊢ <;> omega
structure PtD (w1:World) (n:Nat) (IN EN:List Bool) (tb ts:TypeId) (d1 d2 b1 b2 b3 b4:Bool) (f1 f2 p1 p2:Nat) (W:World):Prop where
 bel:Below w1.heap.size w1 W
 k1:d1 = true → Blk W f1 tb (bvl IN)∧w1.heap.size ≤ f1
 k2:d2 = true → Blk W f2 tb (bvl EN)∧w1.heap.size ≤ f2
 m1:b1 = true → Blk W p1 ts [if b3 = true then .slice (some ⟨f1,0,none⟩) n n else .slice none 0 0]∧w1.heap.size ≤ p1
 m2:b2 = true → Blk W p2 ts [if b4 = true then .slice (some ⟨f2,0,none⟩) n n else .slice none 0 0]∧w1.heap.size ≤ p2
 ne:b1 = true → b2 = true → p1 ≠ p2
section
variable {w1 W W':World} {n:Nat} {IN EN:List Bool} {tb ts:TypeId} {d1 d2 b1 b2 b3 b4:Bool} {f1 f2 p1 p2:Nat}
theorem PtD.keep (h:PtD w1 n IN EN tb ts d1 d2 b1 b2 b3 b4 f1 f2 p1 p2 W) (hb:Below W.heap.size W W'):PtD w1 n IN EN tb ts d1 d2 b1 b2 b3 b4 f1 f2 p1 p2 W' :=
 ⟨h.bel.trans (hb.mono h.bel.size),fun g=>⟨(h.k1 g).1.below hb (h.k1 g).1.lt,(h.k1 g).2⟩,fun g=>⟨(h.k2 g).1.below hb (h.k2 g).1.lt,(h.k2 g).2⟩,fun g=>⟨(h.m1 g).1.below hb (h.m1 g).1.lt,(h.m1 g).2⟩,fun g=>⟨(h.m2 g).1.below hb (h.m2 g).1.lt,(h.m2 g).2⟩,h.ne⟩
theorem PtD.c1 (h:PtD w1 n IN EN tb ts false d2 b1 b2 b3 b4 f1 f2 p1 p2 W) (h3:b3 = false) {b:Nat} (hb:Below W.heap.size W W') (hk:Blk W' b tb (bvl IN)) (hl:W.heap.size ≤ b):PtD w1 n IN EN tb ts true d2 b1 b2 b3 b4 b f2 p1 p2 W':=by
 have g:=h.keep hb
 subst h3
 exact ⟨g.bel,fun _=>⟨hk,Nat.le_trans h.bel.size hl⟩,g.k2,g.m1,g.m2,g.ne⟩
theorem PtD.c2 (h:PtD w1 n IN EN tb ts d1 false b1 b2 b3 b4 f1 f2 p1 p2 W) (h4:b4 = false) {b:Nat} (hb:Below W.heap.size W W') (hk:Blk W' b tb (bvl EN)) (hl:W.heap.size ≤ b):PtD w1 n IN EN tb ts d1 true b1 b2 b3 b4 f1 b p1 p2 W':=by
 have g:=h.keep hb
 subst h4
 exact ⟨g.bel,g.k1,fun _=>⟨hk,Nat.le_trans h.bel.size hl⟩,g.m1,g.m2,g.ne⟩
theorem PtD.a1 (h:PtD w1 n IN EN tb ts d1 d2 false b2 b3 b4 f1 f2 p1 p2 W) (h3:b3 = false):PtD w1 n IN EN tb ts d1 d2 true b2 b3 b4 f1 f2 W.heap.size p2 (W.alloc (.cells #[.slice none 0 0] ts)):=by
 have g:=h.keep (box_below W (.cells #[.slice none 0 0] ts))
 subst h3
 exact ⟨g.bel,g.k1,g.k2,fun _=>⟨Blk.new _ _ [_],h.bel.size⟩,g.m2,fun _ e=>by have:=(h.m2 e).1.lt;omega⟩
theorem PtD.a2 (h:PtD w1 n IN EN tb ts d1 d2 b1 false b3 b4 f1 f2 p1 p2 W) (h4:b4 = false):PtD w1 n IN EN tb ts d1 d2 b1 true b3 b4 f1 f2 p1 W.heap.size (W.alloc (.cells #[.slice none 0 0] ts)):=by
 have g:=h.keep (box_below W (.cells #[.slice none 0 0] ts))
 subst h4
 exact ⟨g.bel,g.k1,g.k2,g.m1,fun _=>⟨Blk.new _ _ [_],h.bel.size⟩,fun e _=>by have:=(h.m1 e).1.lt;omega⟩
theorem blk_ne {w:World} {b b':Nat} {t t':TypeId} {vs vs':List Value} (h:Blk w b t vs) (h':Blk w b' t' vs') (ht:t ≠ t'):b ≠ b':=by
 rintro rfl
 have h1:w.heap[b]? = _:=h
 have h2:w.heap[b]? = _:=h'
 rw [h1] at h2
 injection h2 with h2
 injection h2 with h2 h3
 exact ht h3
theorem PtD.s1 (h:PtD w1 n IN EN tb ts true true true true false b4 f1 f2 p1 p2 W) (ht:ts ≠ tb):PtD w1 n IN EN tb ts true true true true true b4 f1 f2 p1 p2 (W.setCell ⟨p1,0,none⟩ (.slice (some ⟨f1,0,none⟩) n n)):=by
 have hg:=grown_setCell W p1 0 (.slice (some ⟨f1,0,none⟩) n n)
 refine ⟨h.bel.setCell (p:=⟨p1,0,none⟩) (h.m1 rfl).2 _,fun _=>⟨(h.k1 rfl).1.kept hg (fun e=>?_),(h.k1 rfl).2⟩,fun _=>⟨(h.k2 rfl).1.kept hg (fun e=>?_),(h.k2 rfl).2⟩,fun _=>⟨(h.m1 rfl).1.set (j:=0) (by simp) _,(h.m1 rfl).2⟩,fun _=>⟨(h.m2 rfl).1.kept hg (fun e=>?_),(h.m2 rfl).2⟩,h.ne⟩
 ·injection e with e;exact blk_ne (h.m1 rfl).1 (h.k1 rfl).1 ht e.symm
 ·injection e with e;exact blk_ne (h.m1 rfl).1 (h.k2 rfl).1 ht e.symm
 ·injection e with e;exact h.ne rfl rfl e.symm
theorem PtD.s2 (h:PtD w1 n IN EN tb ts true true true true b3 false f1 f2 p1 p2 W) (ht:ts ≠ tb):PtD w1 n IN EN tb ts true true true true b3 true f1 f2 p1 p2 (W.setCell ⟨p2,0,none⟩ (.slice (some ⟨f2,0,none⟩) n n)):=by
 have hg:=grown_setCell W p2 0 (.slice (some ⟨f2,0,none⟩) n n)
 refine ⟨h.bel.setCell (p:=⟨p2,0,none⟩) (h.m2 rfl).2 _,fun _=>⟨(h.k1 rfl).1.kept hg (fun e=>?_),(h.k1 rfl).2⟩,fun _=>⟨(h.k2 rfl).1.kept hg (fun e=>?_),(h.k2 rfl).2⟩,fun _=>⟨(h.m1 rfl).1.kept hg (fun e=>?_),(h.m1 rfl).2⟩,fun _=>⟨(h.m2 rfl).1.set (j:=0) (by simp) _,(h.m2 rfl).2⟩,h.ne⟩
 ·injection e with e;exact blk_ne (h.m2 rfl).1 (h.k1 rfl).1 ht e.symm
 ·injection e with e;exact blk_ne (h.m2 rfl).1 (h.k2 rfl).1 ht e.symm
 ·injection e with e;exact h.ne rfl rfl e
end
theorem idx2_0 (u v:Value) (W:World):(Instr.index 175 (.agg #[u,v]) (.int .i64 0)).run Try.prog W = .ok u W:=by
 simp [Instr.index,run_underlying Try.underlying175,asIntOf,go_sem]
theorem idx2_1 (u v:Value) (W:World):(Instr.index 175 (.agg #[u,v]) (.int .i64 1)).run Try.prog W = .ok v W:=by
 simp [Instr.index,run_underlying Try.underlying175,asIntOf,go_sem]
def put4 (a:Act) (v15 v16 v45 v48:Value):Act:={ a with tmps:=(((a.tmps.setIfInBounds 15 v15).setIfInBounds 16 v16).setIfInBounds 45 v45).setIfInBounds 48 v48 }
def RetPath (RES:Option (List Int)) (w:World) (e:Ending) (w':World):Prop:=match RES with
 | none=>e = .returned (.tuple #[.slice none 0 0,.bool false,.int .i64 0])∧Below w.heap.size w w'
 | some ws=>∃ v,e = .returned (.tuple #[v,.bool true,.int .i64 0])∧w'.ownsRow w.heap.size 3 1 v ws.length (iv ws)∧Below w.heap.size w w'
set_option maxRecDepth 100000 in
set_option maxHeartbeats 1600000 in
theorem reach_Path (x:AV) (w:World) (n s:Nat) (hx:x.ok w w.heap.size) (hw:WF x.a) (hn:x.a.st = (n:Int)) (hs:s < n) (TA:Option Addr) (nt ct:Nat) (T:List Int) (WA:Option Addr) (nw cw:Nat) (Wi:List Int)
  (htl:T.length = nt) (hT:RdI w w.heap.size TA T) (ht1:nt ≤ ct) (ht2:ct ≤ 9223372036854775807) (hte:setErr T (n:Int) = 0) (htr:∀ t ∈ T,0 ≤ t∧t < (n:Int))
  (hwl:Wi.length = nw) (hW:RdI w w.heap.size WA Wi) (hw1:nw ≤ cw) (hw2:cw ≤ 9223372036854775807) (hwe:setErr Wi (n:Int) = 0) (hwr:∀ t ∈ Wi,0 ≤ t∧t < (n:Int))
  (hin:fl (inF n Wi) (s:Int) = true) (perm:Ed → Bool) (hp:∀ e ∈ x.a.ed,fl (inF n Wi) e.t = perm e) (RES:Option (List Int)) (hr:pathS x.a (s:Int) (fl (inF n T)) perm = RES) :
  Calls Try.prog 83 #[.agg #[.slice x.A x.na x.ca,.int .i64 x.a.st,.slice x.M x.nm x.cm,.slice x.E x.ne x.ce],.int .i64 (s:Int),.slice TA nt ct,.slice WA nw cw] w (RetPath RES w):=by
 obtain ⟨A,na,ca,M,nm,cm,E,ne,ce,a⟩:=x
 dsimp only at hw hn hp hr ⊢
 have hn4:n ≤ 4096:=by have:=hw.st1;omega
 have hb1:=box_below w (.cells #[.slice A na ca,.int .i64 a.st,.slice M nm cm,.slice E ne ce] 32)
 obtain ⟨w1,hw9⟩:∃ w1,w1 = w.alloc (.cells #[.slice A na ca,.int .i64 a.st,.slice M nm cm,.slice E ne ce] 32):=⟨_,rfl⟩
 have kx:Blk w1 w.heap.size 32 [.slice A na ca,.int .i64 a.st,.slice M nm cm,.slice E ne ce]:=by rw [hw9];exact Blk.new _ _ [_,_,_,_]
 rw [← hw9] at hb1
 have HG0:=Lib.hid (fun (W:World) (hb:Below w1.heap.size w1 W)=>Blk.c4 (kx.below hb kx.lt))
 rw [hn] at HG0
 obtain ⟨a0,a1,a2,a3⟩:=HG0.out w1 (Below.refl _ _)
 have HCK:=Lib.hid (automaton_Check A na ca M nm cm E ne ce a w1 ((AutR.below hx hb1).more hb1.size))
 rw [hw.chk,hn] at HCK
 have HXK:=Lib.hid (fun (W:World) (hb:Below w1.heap.size w1 W)=>AutR.more (AutR.below hx (hb1.trans (hb.mono hb1.size))) (hb1.trans (hb.mono hb1.size)).size)
 have HTK:=Lib.hid (fun (W:World) (hb:Below w1.heap.size w1 W)=>(hT.below (hb1.trans (hb.mono hb1.size))).more (hb1.trans (hb.mono hb1.size)).size)
 have HWK:=Lib.hid (fun (W:World) (hb:Below w1.heap.size w1 W)=>(hW.below (hb1.trans (hb.mono hb1.size))).more (hb1.trans (hb.mono hb1.size)).size)
 rw [hn] at hw9 ⊢
 have HN:=Lib.hid hn
 have HW9:=Lib.hid hw9;clear hw9
 have HB1:=Lib.hid hb1;clear hb1
 have HWF:=Lib.hid hw;clear hw
 have HTL:=Lib.hid htl;clear htl
 have HWL:=Lib.hid hwl;clear hwl
 have HTE:=Lib.hid hte;clear hte
 have HWE:=Lib.hid hwe;clear hwe
 have HTR:=Lib.hid htr;clear htr
 have HWR:=Lib.hid hwr;clear hwr
 have HIN:=Lib.hid hin;clear hin
 have HP:=Lib.hid hp;clear hp
 have HR:=Lib.hid hr;clear hr
 have lx:=kx.lt
 clear kx hT hW hx hn
 have s1:¬ (s:Int) < 0:=by omega
 have s2:¬ (n:Int) ≤ (s:Int):=by omega
 have s3:(s:Int) < (n:Int):=by omega
 have hx0:=fun W=>idx2_0 (.slice TA nt ct) (.slice WA nw cw) W
 have hx1:=fun W=>idx2_1 (.slice TA nt ct) (.slice WA nw cw) W
 go_enter Try.func83,Try.ntmps83
 go_wp2_with fail
 rw [← HW9.out]
 refine HCK.out.mono ?_
 rintro e w2 ⟨rfl,hb2⟩
 have HB2:=Lib.hid hb2;clear hb2
 clear HCK a0 a1 a2 a3
 obtain ⟨a0,a1,a2,a3⟩:=HG0.out w2 HB2.out
 go_wp2
 simp only [show decide ((s:Int) < 0) = false by simp,show decide (n ≤ s) = false by simp;omega,Bool.or_false]
 clear a0 a1 a2 a3 s1 s2 s3
 have HS:=Lib.hid hs;clear hs
 go_loopw [13,14,33] (fun s13 s14 s33 wr=>∃ (v13 v14:Value),s13 = v13∧s14 = v14∧(s33 = .int .i64 0 ∨ s33 = .int .i64 1 ∨ s33 = .int .i64 2)∧Hid (Below w1.heap.size w1 wr)) (fun _ _ s33 _=>2 - (intOf s33).toNat)
 case atStart=>exact ⟨_,_,rfl,rfl,.inl rfl,HB2⟩
 case round =>
  clear HB2
  obtain ⟨v13,v14,rfl,rfl,hk,HB⟩:=hrel
  obtain ⟨a0,a1,a2,a3⟩:=HG0.out wr HB.out
  rcases hk with rfl | rfl | rfl
  ·have HC:=Lib.hid (reach_checkStates A na ca M nm cm E ne ce (n:Int) TA ct nt T 0 wr HTL.out HTE.out (HTK.out wr HB.out) ht1 ht2)
   go_wp2_with fail
   refine HC.out.mono ?_
   rintro e w3 ⟨rfl,hb3⟩
   have HB3:=Lib.hid (HB.out.trans (hb3.mono HB.out.size))
   clear a0 a1 a2 a3 HC hb3
   go_wp2
   go_roundw
   case rel=>exact ⟨_,_,rfl,rfl,.inr (.inl rfl),HB3⟩
   case measure=>simp [intOf]
  ·have HC:=Lib.hid (reach_checkStates A na ca M nm cm E ne ce (n:Int) WA cw nw Wi 0 wr HWL.out HWE.out (HWK.out wr HB.out) hw1 hw2)
   go_wp2_with fail
   refine HC.out.mono ?_
   rintro e w3 ⟨rfl,hb3⟩
   have HB3:=Lib.hid (HB.out.trans (hb3.mono HB.out.size))
   clear a0 a1 a2 a3 HC hb3
   go_wp2
   go_roundw
   case rel=>exact ⟨_,_,rfl,rfl,.inr (.inr rfl),HB3⟩
   case measure=>simp [intOf]
  ·clear a0 a1 a2 a3
   go_upto_region 13 with fail
   have hs:=HS.out
   go_cut [15,16] from 17 (fun s15 s16 wx=>∃ f1 f2 p1 p2:Nat,s15 = .pointer (some ⟨p1,0,none⟩)∧s16 = .pointer (some ⟨p2,0,none⟩)∧Hid (PtD w1 n (inF n Wi) (inF n T) 4 87 true true true true true true f1 f2 p1 p2 wx))
   case first =>
    refine wp_region_U (fun W=>C4 W w.heap.size (.slice A na ca) (.int .i64 (n:Int)) (.slice M nm cm) (.slice E ne ce)) (fun _=>True) 9 (by kernel_rfl) ?_
    change anyU _ _ _ _ _ _ _ 10 _ _ _
    have hB0:True:=trivial
    have HBD:=Lib.hid (HB.out.trans ((below_dr wr).mono HB.out.size))
    generalize wr.drew = wd at HBD ⊢
    have hA0:=HG0.out wd HBD.out
    (refine uA 0 ?_ rfl hA0 hB0 (fun W hA=>?_) ?_;rotate_left;(· (obtain ⟨a0,a1,a2,a3⟩:=hA;go_simp;try with_reducible rfl));(try simp only [Act.put,List.setIfInBounds_toArray,List.set_cons_zero,List.set_cons_succ]))
    (refine uA 1 ?_ rfl hA0 hB0 (fun W hA=>?_) ?_;rotate_left;(· (go_simp;try with_reducible rfl));(try simp only [Act.put,List.setIfInBounds_toArray,List.set_cons_zero,List.set_cons_succ]))
    (refine uA 3 ?_ rfl hA0 hB0 (fun W hA=>?_) ?_;rotate_left;(· (obtain ⟨a0,a1,a2,a3⟩:=hA;go_simp;try with_reducible rfl));(try simp only [Act.put,List.setIfInBounds_toArray,List.set_cons_zero,List.set_cons_succ]))
    (refine uA 4 ?_ rfl hA0 hB0 (fun W hA=>?_) ?_;rotate_left;(· (go_simp;try with_reducible rfl));(try simp only [Act.put,List.setIfInBounds_toArray,List.set_cons_zero,List.set_cons_succ]))
    refine anyI_at (I:=fun a0 f L a' W=>∃ (d1 d2 b1 b2 b3 b4:Bool) (f1 f2 p1 p2:Nat) (v15 v16 v45 v48:Value),L = #[true,true,d1,true,true,d2,b1,b2,b3,b4]∧f + d1.toNat + d2.toNat + b1.toNat + b2.toNat + b3.toNat + b4.toNat = 6∧(d2 = true → d1 = true)∧(b3 = true → d1 = true∧d2 = true∧b1 = true∧b2 = true)∧(b4 = true → d1 = true∧d2 = true∧b1 = true∧b2 = true∧b3 = true)∧(d1 = true → v45 = .slice (some ⟨f1,0,none⟩) n n)∧(d2 = true → v48 = .slice (some ⟨f2,0,none⟩) n n)∧(b1 = true → v15 = .pointer (some ⟨p1,0,none⟩))∧(b2 = true → v16 = .pointer (some ⟨p2,0,none⟩))∧a' = put4 a0 v15 v16 v45 v48∧Hid (PtD w1 n (inF n Wi) (inF n T) 4 87 d1 d2 b1 b2 b3 b4 f1 f2 p1 p2 W)) ?_ ?_
    ·exact ⟨false,false,false,false,false,false,0,0,0,0,undef,undef,undef,undef,rfl,rfl,(by simp),(by simp),(by simp),(by simp),(by simp),(by simp),(by simp),rfl,Lib.hid ⟨HBD.out,(by simp),(by simp),(by simp),(by simp),(by simp)⟩⟩
    ·clear HB HBD hA0
     rintro f L a' W ⟨d1,d2,b1,b2,b3,b4,f1,f2,p1,p2,v15,v16,v45,v48,rfl,hf,g1,g2,g3,g4,g5,g6,g7,rfl,HD⟩
     simp only [put4,List.setIfInBounds_toArray,List.set_cons_succ,List.set_cons_zero]
     refine ⟨⟨HG0.out W HD.out.bel,fun _=>trivial⟩,R6 d1 d2 b1 b2 b3 b4,?_,?_,?_,?_⟩
     ·clear HD g4 g5 g6 g7 hf
      cases d1 <;> cases d2 <;> cases b1 <;> cases b2 <;> cases b3 <;> cases b4 <;> first | (exfalso;revert g1 g2 g3;simp;done) | kernel_rfl
     ·intro hr0
      have:d1 = true∧d2 = true∧b1 = true∧b2 = true∧b3 = true∧b4 = true:=by
       clear HD g4 g5 g6 g7 hf
       revert g1 g2 g3 hr0
       cases d1 <;> cases d2 <;> cases b1 <;> cases b2 <;> cases b3 <;> cases b4 <;> simp [R6]
      obtain ⟨rfl,rfl,rfl,rfl,rfl,rfl⟩:=this
      obtain rfl:=g6 rfl
      obtain rfl:=g7 rfl
      clear g1 g2 g3 g4 g5 g6 g7 hf hr0
      go_wp2_with fail
      go_meet
      case rel=>exact ⟨f1,f2,p1,p2,rfl,rfl,HD⟩
     ·intro h0
      have:d1 = true∧d2 = true∧b1 = true∧b2 = true∧b3 = true∧b4 = true:=by
       clear HD g4 g5 g6 g7
       subst h0
       revert g1 g2 g3 hf
       cases d1 <;> cases d2 <;> cases b1 <;> cases b2 <;> cases b3 <;> cases b4 <;> simp
      obtain ⟨rfl,rfl,rfl,rfl,rfl,rfl⟩:=this
      rfl
     ·rintro i hi g rfl
      obtain ⟨a0,a1,a2,a3⟩:=HG0.out W HD.out.bel
      rcases R6_mem hi with ⟨rfl,rfl⟩ | ⟨rfl,rfl,rfl⟩ | ⟨rfl,rfl⟩ | ⟨rfl,rfl⟩ | ⟨rfl,rfl,rfl,rfl,rfl,rfl⟩ | ⟨rfl,rfl,rfl,rfl,rfl,rfl,rfl⟩
      ·have h3:b3 = false:=by cases b3 with | false=>rfl | true=>exact absurd (g2 rfl).1 (by simp)
       have h4:b4 = false:=by cases b4 with | false=>rfl | true=>exact absurd (g3 rfl).1 (by simp)
       refine wpOp_at (i:=2) rfl (fun K hK=>?_)
       go_simp
       go_at_call 68
       refine (reach_flags A na ca M nm cm E ne ce n WA cw nw Wi W hn4 HWL.out (HWK.out W HD.out.bel) HWR.out hw1 hw2).mono ?_
       rintro e w9 ⟨b,rfl,hk,hl,hb⟩
       go_simp
       exact hK _ _ ⟨true,d2,b1,b2,b3,b4,b,f2,p1,p2,v15,v16,_,v48,rfl,(by simp only [Bool.toNat_true,Bool.toNat_false] at hf ⊢;omega),(fun _=>rfl),(fun h=>absurd h (by simp [h3])),(fun h=>absurd h (by simp [h4])),(fun _=>rfl),g5,g6,g7,rfl,Lib.hid (HD.out.c1 h3 hb hk hl)⟩
      ·have h3:b3 = false:=by cases b3 with | false=>rfl | true=>exact absurd (g2 rfl).2.1 (by simp)
       have h4:b4 = false:=by cases b4 with | false=>rfl | true=>exact absurd (g3 rfl).2.1 (by simp)
       obtain rfl:=g4 rfl
       refine wpOp_at (i:=5) rfl (fun K hK=>?_)
       go_simp
       go_at_call 68
       refine (reach_flags A na ca M nm cm E ne ce n TA ct nt T W hn4 HTL.out (HTK.out W HD.out.bel) HTR.out ht1 ht2).mono ?_
       rintro e w9 ⟨b,rfl,hk,hl,hb⟩
       go_simp
       exact hK _ _ ⟨true,true,b1,b2,b3,b4,f1,b,p1,p2,v15,v16,_,_,rfl,(by simp only [Bool.toNat_true,Bool.toNat_false] at hf ⊢;omega),(fun _=>rfl),(fun h=>absurd h (by simp [h3])),(fun h=>absurd h (by simp [h4])),(fun _=>rfl),(fun _=>rfl),g6,g7,rfl,Lib.hid (HD.out.c2 h4 hb hk hl)⟩
      ·have h3:b3 = false:=by cases b3 with | false=>rfl | true=>exact absurd (g2 rfl).2.2.1 (by simp)
       have h4:b4 = false:=by cases b4 with | false=>rfl | true=>exact absurd (g3 rfl).2.2.1 (by simp)
       refine wpOp_at (i:=6) rfl (fun K hK=>?_)
       go_simp
       exact hK _ _ ⟨d1,d2,true,b2,b3,b4,f1,f2,W.heap.size,p2,_,v16,v45,v48,rfl,(by simp only [Bool.toNat_true,Bool.toNat_false] at hf ⊢;omega),g1,(fun h=>absurd h (by simp [h3])),(fun h=>absurd h (by simp [h4])),g4,g5,(fun _=>rfl),g7,rfl,Lib.hid (HD.out.a1 h3)⟩
      ·have h3:b3 = false:=by cases b3 with | false=>rfl | true=>exact absurd (g2 rfl).2.2.2 (by simp)
       have h4:b4 = false:=by cases b4 with | false=>rfl | true=>exact absurd (g3 rfl).2.2.2.1 (by simp)
       refine wpOp_at (i:=7) rfl (fun K hK=>?_)
       go_simp
       exact hK _ _ ⟨d1,d2,b1,true,b3,b4,f1,f2,p1,W.heap.size,v15,_,v45,v48,rfl,(by simp only [Bool.toNat_true,Bool.toNat_false] at hf ⊢;omega),g1,(fun h=>absurd h (by simp [h3])),(fun h=>absurd h (by simp [h4])),g4,g5,g6,(fun _=>rfl),rfl,Lib.hid (HD.out.a2 h4)⟩
      ·have h4:b4 = false:=by cases b4 with | false=>rfl | true=>exact absurd (g3 rfl).2.2.2.2 (by simp)
       subst h4
       obtain rfl:=g4 rfl
       obtain rfl:=g5 rfl
       obtain rfl:=g6 rfl
       obtain rfl:=g7 rfl
       have c0:=(HD.out.m1 rfl).1.cell (j:=0) rfl
       have f0:=(HD.out.m1 rfl).1.free 0
       have l0:=(HD.out.m1 rfl).1.lt
       refine wpOp_at (i:=8) rfl (fun K hK=>?_)
       go_simp
       exact hK _ _ ⟨true,true,true,true,true,false,f1,f2,p1,p2,_,_,_,_,rfl,(by simp only [Bool.toNat_true,Bool.toNat_false] at hf ⊢;omega),g1,(fun _=>⟨rfl,rfl,rfl,rfl⟩),(fun h=>by cases h),(fun _=>rfl),(fun _=>rfl),(fun _=>rfl),(fun _=>rfl),rfl,Lib.hid (HD.out.s1 (by decide))⟩
      ·obtain rfl:=g4 rfl
       obtain rfl:=g5 rfl
       obtain rfl:=g6 rfl
       obtain rfl:=g7 rfl
       have c0:=(HD.out.m2 rfl).1.cell (j:=0) rfl
       have f0:=(HD.out.m2 rfl).1.free 0
       have l0:=(HD.out.m2 rfl).1.lt
       refine wpOp_at (i:=9) rfl (fun K hK=>?_)
       go_simp
       exact hK _ _ ⟨true,true,true,true,true,true,f1,f2,p1,p2,_,_,_,_,rfl,(by simp only [Bool.toNat_true,Bool.toNat_false] at hf ⊢;omega),g1,(fun _=>⟨rfl,rfl,rfl,rfl⟩),(fun _=>⟨rfl,rfl,rfl,rfl,rfl⟩),(fun _=>rfl),(fun _=>rfl),(fun _=>rfl),(fun _=>rfl),rfl,Lib.hid (HD.out.s2 (by decide))⟩
   case rest =>
    obtain ⟨f1,f2,p1,p2,rfl,rfl,HD⟩:=hcut
    have hd1:=HD.out.m1 rfl
    have hd2:=HD.out.m2 rfl
    have hk1:=HD.out.k1 rfl
    have hk2:=HD.out.k2 rfl
    rw [if_pos rfl] at hd1 hd2
    have c1:=hd1.1.cell (j:=0) rfl
    have g1:wc.cell? ⟨f1,s,none⟩ = some (.bool true):=hk1.1.cell (by
     have:=fl_get HIN.out (by omega) (by rw [inF_len];omega)
     rw [Int.toNat_natCast] at this
     rw [bvl_get,this];rfl)
    obtain ⟨a0,a1,a2,a3⟩:=HG0.out wc HD.out.bel
    have HNG:=Lib.hid (newGraph_ok ⟨A,na,ca,M,nm,cm,E,ne,ce,a⟩ wc n (HXK.out wc HD.out.bel) HWF.out HN.out)
    dsimp only at HNG
    rw [HN.out] at HNG
    go_wp2_with fail
    clear a0 a1 a2 a3 c1 g1
    refine HNG.out.mono ?_
    rintro e w5 ⟨ba,rfl,hba,hgr,hb5⟩
    have HPO:=Lib.hid (path_ok ⟨A,na,ca,M,nm,cm,E,ne,ce,a⟩ ba n s 112 113 (.pointer (some ⟨p2,0,none⟩)) (.pointer (some ⟨p1,0,none⟩)) (fl (inF n T)) perm RES w5 hgr hs (fun _ _=>rfl) (fun _ _=>rfl)
     (fun t W h0 h1 hb=>path1_ok p2 f2 n (inF n T) t W ((hd2.1.below hb5 hd2.1.lt).below hb (hd2.1.below hb5 hd2.1.lt).lt) ((hk2.1.below hb5 hk2.1.lt).below hb (hk2.1.below hb5 hk2.1.lt).lt) (inF_len _ _) h0 h1)
     (fun e W he hb=>by
      have hev:=HWF.out.ev_rng he
      rw [HN.out] at hev
      rw [← HP.out e he]
      exact path2_ok p1 f1 n (inF n Wi) e W ((hd1.1.below hb5 hd1.1.lt).below hb (hd1.1.below hb5 hd1.1.lt).lt) ((hk1.1.below hb5 hk1.1.lt).below hb (hk1.1.below hb5 hk1.1.lt).lt) (inF_len _ _) (by omega) (by omega))
     HR.out)
    have HB9:=Lib.hid ((HB1.out.trans (HD.out.bel.mono HB1.out.size)).trans (hb5.mono (HB1.out.trans (HD.out.bel.mono HB1.out.size)).size))
    clear hgr hba hb5 hd1 hd2 hk1 hk2 HNG HD HIN HP HR HTK HWK HXK HG0
    unfold grc at HPO ⊢
    dsimp only at HPO ⊢
    rw [HN.out] at HPO ⊢
    cases RES with
    | none =>
     go_wp2_with fail
     refine HPO.out.mono ?_
     rintro e w6 ⟨rfl,hb6⟩
     have HB6:=Lib.hid (HB9.out.trans (hb6.mono HB9.out.size))
     clear HPO hb6
     go_wp2
     refine bodyPost_ret (v:=.tuple #[.slice none 0 0,.bool false,.int .i64 0]) (by simp [results,Try.results83,go_sem]) rfl ?_
     exact ⟨rfl,HB6.out⟩
    | some ws =>
     go_wp2_with fail
     refine HPO.out.mono ?_
     rintro e w6 ⟨v,rfl,ho,hb6⟩
     have HB6:=Lib.hid (HB9.out.trans (hb6.mono HB9.out.size))
     have HO:=Lib.hid (own_base ho HB9.out.size)
     clear HPO hb6 ho
     go_wp2
     refine bodyPost_ret (v:=.tuple #[v,.bool true,.int .i64 0]) (by simp [results,Try.results83,go_sem]) rfl ?_
     exact ⟨v,rfl,HO.out,HB6.out⟩
end Go.Proofs.Ytdnmpndnpfklcaa

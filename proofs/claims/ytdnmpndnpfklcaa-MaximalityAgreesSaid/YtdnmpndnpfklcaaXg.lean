/- Certificates as values; walk: Prove's first half (up to its closures). -/
import Derived.Test.YtdnmpndnpfklcaaXf
import Derived.Test.YtdnmpndnpfklcaaUk
namespace Go.Proofs.Ytdnmpndnpfklcaa
open Go.RowKit Go Go.Maps
structure CV where
 k:IV
 d:IV
 R:Option Addr
 rn:Nat
 rc:Nat
 rm:List Rm
def CV.ce (z:CV):Ce:=⟨z.k.l,z.d.l,z.rm⟩
def cvc (z:CV):List Value:=[.slice z.k.A z.k.n z.k.c,.slice z.d.A z.d.n z.d.c,.slice z.R z.rn z.rc]
structure CV.ok (w:World) (B:Nat) (z:CV):Prop where
 k:z.k.ok w B
 d:z.d.ok w B
 rl:z.rm.length = z.rn
 rr:RdR 4 rmc w B z.R z.rm
 r1:z.rn ≤ z.rc
 r2:z.rc ≤ 9223372036854775807
theorem CV.ok.below {w w':World} {B:Nat} {z:CV} (h:z.ok w B) (hb:Below B w w'):z.ok w' B:=⟨h.k.below hb,h.d.below hb,h.rl,h.rr.below hb,h.r1,h.r2⟩
theorem CV.ok.more {w:World} {B B':Nat} {z:CV} (h:z.ok w B) (hB:B ≤ B'):z.ok w B':=⟨h.k.more hB,h.d.more hB,h.rl,h.rr.more hB,h.r1,h.r2⟩
def RetPrv (p:Mx) (w:World) (e:Ending) (w':World):Prop:=∃ c:CV,e = .returned (.tuple #[.agg (cvc c).toArray,.int .i64 0])∧c.ok w' w'.heap.size∧c.ce = prvC p∧Below w.heap.size w w'
structure PtG (w1:World) (P1 P2:World → Value → Prop) (z1 z2:Value) (t1 t2:TypeId) (d1 d2 b1 b2 b3 b4:Bool) (V1 V2:Value) (p1 p2:Nat) (W:World):Prop where
 bel:Below w1.heap.size w1 W
 k1:d1 = true → P1 W V1
 k2:d2 = true → P2 W V2
 m1:b1 = true → Blk W p1 t1 [if b3 = true then V1 else z1]∧w1.heap.size ≤ p1
 m2:b2 = true → Blk W p2 t2 [if b4 = true then V2 else z2]∧w1.heap.size ≤ p2
 ne:b1 = true → b2 = true → p1 ≠ p2
structure PtS1 (w1:World) (t1 t2:TypeId) (P:World → Value → Prop):Prop where
 q:∀ {W W':World} {V:Value},P W V → Below W.heap.size W W' → P W' V
 s:∀ {W W':World} {V:Value} {p:Nat} {t:TypeId} {vs:List Value},P W V → W.grownBy W' (some p) → Blk W p t vs → t = t1 ∨ t = t2 → w1.heap.size ≤ p → P W' V
section
variable {w1 W W':World} {P1 P2:World → Value → Prop} {z1 z2 V1 V2 V:Value} {t1 t2:TypeId} {d1 d2 b1 b2 b3 b4:Bool} {p1 p2:Nat}
theorem PtG.keep (s1:PtS1 w1 t1 t2 P1) (s2:PtS1 w1 t1 t2 P2) (h:PtG w1 P1 P2 z1 z2 t1 t2 d1 d2 b1 b2 b3 b4 V1 V2 p1 p2 W) (hb:Below W.heap.size W W'):PtG w1 P1 P2 z1 z2 t1 t2 d1 d2 b1 b2 b3 b4 V1 V2 p1 p2 W' :=
 ⟨h.bel.trans (hb.mono h.bel.size),fun g=>s1.q (h.k1 g) hb,fun g=>s2.q (h.k2 g) hb,fun g=>⟨(h.m1 g).1.below hb (h.m1 g).1.lt,(h.m1 g).2⟩,fun g=>⟨(h.m2 g).1.below hb (h.m2 g).1.lt,(h.m2 g).2⟩,h.ne⟩
theorem PtG.c1 (s1:PtS1 w1 t1 t2 P1) (s2:PtS1 w1 t1 t2 P2) (h:PtG w1 P1 P2 z1 z2 t1 t2 false d2 b1 b2 b3 b4 V1 V2 p1 p2 W) (h3:b3 = false) (hb:Below W.heap.size W W') (hk:P1 W' V):PtG w1 P1 P2 z1 z2 t1 t2 true d2 b1 b2 b3 b4 V V2 p1 p2 W':=by
 have g:=h.keep s1 s2 hb
 subst h3
 exact ⟨g.bel,fun _=>hk,g.k2,g.m1,g.m2,g.ne⟩
theorem PtG.c2 (s1:PtS1 w1 t1 t2 P1) (s2:PtS1 w1 t1 t2 P2) (h:PtG w1 P1 P2 z1 z2 t1 t2 d1 false b1 b2 b3 b4 V1 V2 p1 p2 W) (h4:b4 = false) (hb:Below W.heap.size W W') (hk:P2 W' V):PtG w1 P1 P2 z1 z2 t1 t2 d1 true b1 b2 b3 b4 V1 V p1 p2 W':=by
 have g:=h.keep s1 s2 hb
 subst h4
 exact ⟨g.bel,g.k1,fun _=>hk,g.m1,g.m2,g.ne⟩
theorem PtG.a1 (s1:PtS1 w1 t1 t2 P1) (s2:PtS1 w1 t1 t2 P2) (h:PtG w1 P1 P2 z1 z2 t1 t2 d1 d2 false b2 b3 b4 V1 V2 p1 p2 W) (h3:b3 = false):PtG w1 P1 P2 z1 z2 t1 t2 d1 d2 true b2 b3 b4 V1 V2 W.heap.size p2 (W.alloc (.cells #[z1] t1)):=by
 have g:=h.keep s1 s2 (box_below W (.cells #[z1] t1))
 subst h3
 exact ⟨g.bel,g.k1,g.k2,fun _=>⟨Blk.new _ _ [_],h.bel.size⟩,g.m2,fun _ e=>by have:=(h.m2 e).1.lt;omega⟩
theorem PtG.a2 (s1:PtS1 w1 t1 t2 P1) (s2:PtS1 w1 t1 t2 P2) (h:PtG w1 P1 P2 z1 z2 t1 t2 d1 d2 b1 false b3 b4 V1 V2 p1 p2 W) (h4:b4 = false):PtG w1 P1 P2 z1 z2 t1 t2 d1 d2 b1 true b3 b4 V1 V2 p1 W.heap.size (W.alloc (.cells #[z2] t2)):=by
 have g:=h.keep s1 s2 (box_below W (.cells #[z2] t2))
 subst h4
 exact ⟨g.bel,g.k1,g.k2,g.m1,fun _=>⟨Blk.new _ _ [_],h.bel.size⟩,fun e _=>by have:=(h.m1 e).1.lt;omega⟩
theorem PtG.s1 (s1:PtS1 w1 t1 t2 P1) (s2:PtS1 w1 t1 t2 P2) (h:PtG w1 P1 P2 z1 z2 t1 t2 true true true true false b4 V1 V2 p1 p2 W):PtG w1 P1 P2 z1 z2 t1 t2 true true true true true b4 V1 V2 p1 p2 (W.setCell ⟨p1,0,none⟩ V1):=by
 have hg:=grown_setCell W p1 0 V1
 refine ⟨h.bel.setCell (p:=⟨p1,0,none⟩) (h.m1 rfl).2 _,fun _=>s1.s (h.k1 rfl) hg (h.m1 rfl).1 (.inl rfl) (h.m1 rfl).2,fun _=>s2.s (h.k2 rfl) hg (h.m1 rfl).1 (.inl rfl) (h.m1 rfl).2,fun _=>⟨(h.m1 rfl).1.set (j:=0) (by simp) _,(h.m1 rfl).2⟩,fun _=>⟨(h.m2 rfl).1.kept hg (fun e=>?_),(h.m2 rfl).2⟩,h.ne⟩
 injection e with e;exact h.ne rfl rfl e.symm
theorem PtG.s2 (s1:PtS1 w1 t1 t2 P1) (s2:PtS1 w1 t1 t2 P2) (h:PtG w1 P1 P2 z1 z2 t1 t2 true true true true b3 false V1 V2 p1 p2 W):PtG w1 P1 P2 z1 z2 t1 t2 true true true true b3 true V1 V2 p1 p2 (W.setCell ⟨p2,0,none⟩ V2):=by
 have hg:=grown_setCell W p2 0 V2
 refine ⟨h.bel.setCell (p:=⟨p2,0,none⟩) (h.m2 rfl).2 _,fun _=>s1.s (h.k1 rfl) hg (h.m2 rfl).1 (.inr rfl) (h.m2 rfl).2,fun _=>s2.s (h.k2 rfl) hg (h.m2 rfl).1 (.inr rfl) (h.m2 rfl).2,fun _=>⟨(h.m1 rfl).1.kept hg (fun e=>?_),(h.m1 rfl).2⟩,fun _=>⟨(h.m2 rfl).1.set (j:=0) (by simp) _,(h.m2 rfl).2⟩,h.ne⟩
 injection e with e;exact h.ne rfl rfl e
end
def R6i (i1 i2 i3 i4 i5 i6:Nat) (d1 d2 b1 b2 b3 b4:Bool):List Nat:=(if d1 = true then [] else [i1]) ++ (if d1 = true∧d2 = false then [i2] else []) ++ (if b1 = true then [] else [i3]) ++ (if b2 = true then [] else [i4]) ++ (if d1 = true∧d2 = true∧b1 = true∧b2 = true∧b3 = false then [i5] else []) ++ (if d1 = true∧d2 = true∧b1 = true∧b2 = true∧b3 = true∧b4 = false then [i6] else [])
theorem R6i_mem {i1 i2 i3 i4 i5 i6:Nat} {d1 d2 b1 b2 b3 b4:Bool} {i:Nat} (h:i ∈ R6i i1 i2 i3 i4 i5 i6 d1 d2 b1 b2 b3 b4):(i = i1∧d1 = false) ∨ (i = i2∧d1 = true∧d2 = false) ∨ (i = i3∧b1 = false) ∨ (i = i4∧b2 = false) ∨ (i = i5∧b3 = false∧d1 = true∧d2 = true∧b1 = true∧b2 = true) ∨ (i = i6∧b4 = false∧d1 = true∧d2 = true∧b1 = true∧b2 = true∧b3 = true):=by
 cases d1 <;> cases d2 <;> cases b1 <;> cases b2 <;> cases b3 <;> cases b4 <;> simp [R6i] at h ⊢ <;> omega
def put4n (a:Act) (s1 s2 s3 s4:Nat) (v1 v2 v3 v4:Value):Act:={ a with tmps:=(((a.tmps.setIfInBounds s1 v1).setIfInBounds s2 v2).setIfInBounds s3 v3).setIfInBounds s4 v4 }
def IntoV (w1:World) (ed:List Ed) (W:World) (V:Value):Prop:=∃ (o m:Nat) (g:Int → Option Hd),V = .map (some o)∧InM w1.heap.size w1 W o m ed g
theorem IntoV.st (w1:World) (ed:List Ed):PtS1 w1 85 87 (IntoV w1 ed) :=
 ⟨fun ⟨o,m,g,e,h⟩ hb=>⟨o,m,g,e,h.quiet hb⟩,fun ⟨o,m,g,e,h⟩ hg hk ht hp=>⟨o,m,g,e,h.kept hg hk (by rcases ht with rfl | rfl <;> decide) hp⟩⟩
def FlgV (w1:World) (n:Nat) (N:List Bool) (W:World) (V:Value):Prop:=∃ b:Nat,V = .slice (some ⟨b,0,none⟩) n n∧Blk W b 4 (bvl N)∧w1.heap.size ≤ b
theorem FlgV.st (w1:World) (n:Nat) (N:List Bool) {t1 t2:TypeId} (h1:t1 ≠ 4) (h2:t2 ≠ 4):PtS1 w1 t1 t2 (FlgV w1 n N):=by
 refine ⟨fun ⟨b,e,h,hl⟩ hb=>⟨b,e,h.below hb h.lt,hl⟩,fun ⟨b,e,h,hl⟩ hg hk ht _=>⟨b,e,h.kept hg ?_,hl⟩⟩
 intro e9
 injection e9 with e9
 rcases ht with rfl | rfl
 ·exact blk_ne hk h h1 e9.symm
 ·exact blk_ne hk h h2 e9.symm
def RetSrA (base n:Nat) (v:Value) (R:List Rm) (w:World) (e:Ending) (w':World):Prop :=
 e = .returned (.tuple #[])∧∃ R':List Rm,R'.Perm R∧R'.Pairwise (fun a b=>a.s ≤ b.s)∧w'.ownsRow base 63 4 v n (R'.flatMap rmc)∧w.grownBy w' v.ownBlock
theorem max_sort_any (base n:Nat) (v:Value) (R:List Rm) (w:World) (hown:w.ownsRow base 63 4 v n (R.flatMap rmc)) (hl:R.length = n) (hr:∀ r ∈ R,0 ≤ r.s∧r.s < 4096) (hn:n ≤ 1000000) :
  Calls Try.prog 44 #[v,.func (.func 45) #[] #[]] w (RetSrA base n v R w):=by
 rcases hown.2 with ⟨rfl,rfl⟩ | ⟨g,cap,cur,rfl,_⟩
 ·obtain rfl:R = []:=List.eq_nil_of_length_eq_zero hl
  exact (max_sort_nil w).mono fun e w' ⟨h1,h2⟩=>by subst h2;exact ⟨h1,[],List.Perm.refl _,List.Pairwise.nil,hown,grown_refl _ _⟩
 ·exact (max_sort base n cap g R w hown hl hr hn).mono fun e w' ⟨h1,R',h2,h3,h4,h5⟩=>⟨h1,R',h2,h3,h4,h5⟩
theorem srt_list {p:Mx} {R R':List Rm} (hp:R'.Perm R) (hs:R'.Pairwise (fun a b=>a.s ≤ b.s)) (hu:R.Pairwise fun x y=>x.s ≠ y.s) (hr:∀ r ∈ R,0 ≤ r.s∧r.s < p.a.st):R' = srtR p.a.st R:=by
 have hu':R'.Pairwise fun x y=>x.s ≠ y.s:=(hp.pairwise_iff (fun h=>Ne.symm h)).2 hu
 have hi:IncR R':=(hs.and hu').imp (fun ⟨h1,h2⟩=>by omega)
 exact srtR_eq hu hr hi (fun r=>hp.mem_iff)
theorem PrW.srt {w W W':World} {x:AV} {U:List Int} {c:PrC} {Rv:Value} {m:Nat} {N:List Bool} {R R':List Rm} (h:PrW w W x U c Rv m N R) (hl:R'.length = m) (ho:W'.ownsRow w.heap.size 63 4 Rv m (R'.flatMap rmc)) (hg:W.grownBy W' Rv.ownBlock):PrW w W' x U c Rv m N R':=by
 have hb1:Below w.heap.size w W':=h.bel.grown hg h.bel.size (fun j hj=>(h.row.lt j hj).1)
 have kp:∀ {b:Nat} {t:TypeId} {vs:List Value},Blk W b t vs → t ≠ 63 → Blk W' b t vs:=fun hk ht=>hk.kept hg (blk_ne_own h.row hk (fun e=>ht e.symm))
 exact ⟨hb1,kp h.ka (by decide),kp h.kb (by decide),kp h.kc (by decide),kp h.kl (by decide),kp h.kx (by decide),kp h.kcb (by decide),kp h.klb (by decide),h.nl,h.into.keptO h.row hg (by decide) (Nat.le_refl _),ho,hl,h.n1,h.l1,h.l2⟩
structure KpH (w5 w6 W:World) (c:PrC) (ob:Nat) (N:List Bool) (D:List Int) (Rv:Value) (m:Nat) (R:List Rm) (v1 v2:Value) (q1 q2:Nat) (l1 l2:List Int):Prop where
 bel:Below w5.heap.size w5 W
 siz:w6.heap.size ≤ W.heap.size
 kl:Blk W c.bl 87 [.slice (some ⟨c.lb,0,none⟩) c.n c.n]
 klb:Blk W c.lb 4 (bvl N)
 kd:Blk W ob 3 (iv D)
 kx:Blk W c.bx 38 [v1,v2,Rv]
 row:W.ownsRow w5.heap.size 63 4 Rv m (R.flatMap rmc)
 o1:W.ownsRow w6.heap.size 3 1 v1 q1 (iv l1)
 o2:W.ownsRow w6.heap.size 3 1 v2 q2 (iv l2)
 apt:∀ g,v1.ownBlock = some g → v2.ownBlock ≠ some g
 lo:ob < w6.heap.size
 l5:w5.heap.size ≤ w6.heap.size
 l2:w5.heap.size ≤ c.bx
 nl:N.length = c.n
section
variable {w5 w6 W W':World} {c:PrC} {ob:Nat} {N:List Bool} {D:List Int} {Rv:Value} {m:Nat} {R:List Rm} {v1 v2 v:Value} {q q1 q2:Nat} {l1 l2:List Int}
theorem KpH.below (h:KpH w5 w6 W c ob N D Rv m R v1 v2 q1 q2 l1 l2) (hb:Below W.heap.size W W'):KpH w5 w6 W' c ob N D Rv m R v1 v2 q1 q2 l1 l2 :=
 ⟨h.bel.trans (hb.mono h.bel.size),Nat.le_trans h.siz hb.size,h.kl.below hb h.kl.lt,h.klb.below hb h.klb.lt,h.kd.below hb h.kd.lt,h.kx.below hb h.kx.lt,own_below h.row hb,own_below h.o1 hb,own_below h.o2 hb,h.apt,h.lo,h.l5,h.l2,h.nl⟩
theorem KpH.push1 (h:KpH w5 w6 W c ob N D Rv m R v1 v2 q1 q2 l1 l2) {x:Int} (ho:W'.ownsRow w6.heap.size 3 1 v (q1 + 1) (iv l1 ++ [.int .i64 x])) (hg:W.grownBy W' v1.ownBlock) (hv:v.ownBlock = v1.ownBlock ∨ ∃ g,v.ownBlock = some g∧W.heap.size ≤ g) :
  KpH w5 w6 (W'.setCell ⟨c.bx,0,none⟩ v) c ob N D Rv m R v v2 (q1 + 1) q2 (l1 ++ [x]) l2∧Blk W' c.bx 38 [v1,v2,Rv]:=by
 have kp:∀ {b:Nat} {t:TypeId} {vs:List Value},Blk W b t vs → t ≠ 3 → Blk W' b t vs:=fun hk ht=>hk.kept hg (blk_ne_own h.o1 hk (fun e=>ht e.symm))
 have kx':=kp h.kx (by decide)
 have hg2:=grown_setCell W' c.bx 0 v
 have ne:∀ {b:Nat} {t:TypeId} {vs:List Value},Blk W' b t vs → t ≠ 38 → Blk (W'.setCell ⟨c.bx,0,none⟩ v) b t vs:=fun hk ht=>hk.kept hg2 (fun e=>by injection e with e;exact blk_apart hk kx' ht e)
 have kd':Blk W' ob 3 (iv D):=h.kd.kept hg (fun e=>by have:=(h.o1.lt ob e.symm).1;have:=h.lo;omega)
 have o2':W'.ownsRow w6.heap.size 3 1 v2 q2 (iv l2):=h.o2.kept hg (by
  cases hq:v2.ownBlock with
  | none=>exact .inl rfl
  | some g=>exact .inr (fun e=>h.apt g e.symm hq))
 have hb1:Below w5.heap.size w5 W':=h.bel.grown hg h.bel.size (fun j hj=>by have:=(h.o1.lt j hj).1;have:=h.l5;omega)
 refine ⟨⟨hb1.setCell (p:=⟨c.bx,0,none⟩) h.l2 _,Nat.le_trans h.siz (Nat.le_trans hg.size hg2.size),ne (kp h.kl (by decide)) (by decide),ne (kp h.klb (by decide)) (by decide),ne kd' (by decide),kx'.set (j:=0) (by simp) _,?_,?_,?_,?_,h.lo,h.l5,h.l2,h.nl⟩,kx'⟩
 ·exact (own_kept_ne h.row h.o1 (by decide) hg).kept hg2 (own_ne_blk (own_kept_ne h.row h.o1 (by decide) hg) kx' (by decide))
 ·rw [iv_append];exact ho.kept hg2 (own_ne_blk ho kx' (by decide))
 ·exact o2'.kept hg2 (own_ne_blk o2' kx' (by decide))
 ·intro g e e2
  rcases hv with hv | ⟨g',hv,hl⟩
  ·rw [hv] at e;exact h.apt g e e2
  ·rw [hv] at e;injection e with e;have:=(h.o2.lt g e2).2;omega
theorem KpH.push2 (h:KpH w5 w6 W c ob N D Rv m R v1 v2 q1 q2 l1 l2) {x:Int} (ho:W'.ownsRow w6.heap.size 3 1 v (q2 + 1) (iv l2 ++ [.int .i64 x])) (hg:W.grownBy W' v2.ownBlock) (hv:v.ownBlock = v2.ownBlock ∨ ∃ g,v.ownBlock = some g∧W.heap.size ≤ g) :
  KpH w5 w6 (W'.setCell ⟨c.bx,1,none⟩ v) c ob N D Rv m R v1 v q1 (q2 + 1) l1 (l2 ++ [x])∧Blk W' c.bx 38 [v1,v2,Rv]∧Blk W' ob 3 (iv D):=by
 have kp:∀ {b:Nat} {t:TypeId} {vs:List Value},Blk W b t vs → t ≠ 3 → Blk W' b t vs:=fun hk ht=>hk.kept hg (blk_ne_own h.o2 hk (fun e=>ht e.symm))
 have kx':=kp h.kx (by decide)
 have hg2:=grown_setCell W' c.bx 1 v
 have ne:∀ {b:Nat} {t:TypeId} {vs:List Value},Blk W' b t vs → t ≠ 38 → Blk (W'.setCell ⟨c.bx,1,none⟩ v) b t vs:=fun hk ht=>hk.kept hg2 (fun e=>by injection e with e;exact blk_apart hk kx' ht e)
 have kd':Blk W' ob 3 (iv D):=h.kd.kept hg (fun e=>by have:=(h.o2.lt ob e.symm).1;have:=h.lo;omega)
 have o1':W'.ownsRow w6.heap.size 3 1 v1 q1 (iv l1):=h.o1.kept hg (by
  cases hq:v1.ownBlock with
  | none=>exact .inl rfl
  | some g=>exact .inr (fun e=>h.apt g hq e.symm))
 have hb1:Below w5.heap.size w5 W':=h.bel.grown hg h.bel.size (fun j hj=>by have:=(h.o2.lt j hj).1;have:=h.l5;omega)
 refine ⟨⟨hb1.setCell (p:=⟨c.bx,1,none⟩) h.l2 _,Nat.le_trans h.siz (Nat.le_trans hg.size hg2.size),ne (kp h.kl (by decide)) (by decide),ne (kp h.klb (by decide)) (by decide),ne kd' (by decide),kx'.set (j:=1) (by simp) _,?_,?_,?_,?_,h.lo,h.l5,h.l2,h.nl⟩,kx',kd'⟩
 ·exact (own_kept_ne h.row h.o2 (by decide) hg).kept hg2 (own_ne_blk (own_kept_ne h.row h.o2 (by decide) hg) kx' (by decide))
 ·exact o1'.kept hg2 (own_ne_blk o1' kx' (by decide))
 ·rw [iv_append];exact ho.kept hg2 (own_ne_blk ho kx' (by decide))
 ·intro g e e2
  rcases hv with hv | ⟨g',hv,hl⟩
  ·rw [hv] at e2;exact h.apt g e e2
  ·rw [hv] at e2;injection e2 with e2;have:=(h.o1.lt g e).2;omega
end
theorem Blk.c3 {w:World} {b:Nat} {t:TypeId} {v0 v1 v2:Value} {vs:List Value} (h:Blk w b t (v0 :: v1 :: v2 :: vs)):w.cell? ⟨b,0,none⟩ = some v0∧w.cell? ⟨b,1,none⟩ = some v1∧w.cell? ⟨b,2,none⟩ = some v2:=⟨h.cell (j:=0) rfl,h.cell (j:=1) rfl,h.cell (j:=2) rfl⟩
theorem iv_ok_own {w:World} {B n c:Nat} {A:Option Addr} {l:List Int} (h:w.ownsRow B 3 1 (.slice A n c) n (iv l)) (hl:l.length = n):(IV.mk A n c l).ok w w.heap.size:=by
 obtain ⟨h1,h2⟩:=own_cap' h
 exact ⟨hl,h1,h2,rdI_own hl h⟩
end Go.Proofs.Ytdnmpndnpfklcaa

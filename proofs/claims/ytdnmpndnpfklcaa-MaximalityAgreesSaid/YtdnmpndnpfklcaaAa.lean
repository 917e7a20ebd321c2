/- Words on automata as they lie in memory: slices of structs, edges, automata, lists of automata. No program in sight. -/
import Derived.Test.YtdnmpndnpfklcaaBase
import Derived.Test.YtdnmpndnpfklcaaQa
import Derived.Maps.Own
import Derived.Maps.OwnOps
import Derived.Maps.Views
import Derived.Maps.OwnSet
import Derived.WideAt
import Derived.OwnWalk
import Derived.OneCell
import Derived.Deep.OwnRows
namespace Go.Proofs.Ytdnmpndnpfklcaa
open Go.RowKit Go
def RdR {α:Type} (sz:Nat) (f:α → List Value) (w:World) (B:Nat) (A:Option Addr) (l:List α):Prop :=
 ∀ k e,l[k]? = some e → ∃ ad,A = some ad∧ad.block < B∧∀ j u,(f e)[j]? = some u → w.cell? (ad.add (k * sz + j)) = some u
section
variable {α:Type} {sz:Nat} {f:α → List Value} {w w':World} {B B':Nat} {A:Option Addr} {l:List α}
theorem RdR.keep (h:RdR sz f w B A l) (hk:∀ p:Addr,p.block < B → w'.cell? p = w.cell? p):RdR sz f w' B A l:=fun k e hu=>by
 obtain ⟨ad,e1,hb,hc⟩:=h k e hu
 exact ⟨ad,e1,hb,fun j u hj=>(hk _ (by rw [block_of_add];exact hb)).trans (hc j u hj)⟩
theorem RdR.more (h:RdR sz f w B A l) (hB:B ≤ B'):RdR sz f w B' A l:=fun k e hu=>by
 obtain ⟨ad,e1,hb,hc⟩:=h k e hu
 exact ⟨ad,e1,by omega,hc⟩
theorem RdR.below (h:RdR sz f w B A l) (hb:Below B w w'):RdR sz f w' B A l:=h.keep fun _ hp=>hb.cell hp
theorem RdR.after (h:RdR sz f w B A l) (hb:Below B' w w') (hB:B ≤ B'):RdR sz f w' B A l:=h.keep fun _ hp=>hb.cell (by omega)
theorem RdR.get {k:Nat} (h:RdR sz f w B A l) (hk:k < l.length):∃ ad e,A = some ad∧ad.block < B∧l[k]? = some e∧∀ j u,(f e)[j]? = some u → w.cell? (ad.add (k * sz + j)) = some u:=by
 obtain ⟨ad,e1,hb,hc⟩:=h k _ (List.getElem?_eq_getElem hk)
 exact ⟨ad,_,e1,hb,List.getElem?_eq_getElem hk,hc⟩
theorem flat_get {α:Type} (f:α → List Value) (sz:Nat):∀ (l:List α),(∀ x ∈ l,(f x).length = sz) → ∀ (k:Nat) (e:α) (j:Nat) (u:Value),l[k]? = some e → (f e)[j]? = some u → (l.flatMap f)[k * sz + j]? = some u
 | [],_,k,e,j,u,h,_=>by simp at h
 | x :: l,hs,0,e,j,u,h,hj=>by
  simp at h;subst h
  rw [List.flatMap_cons,Nat.zero_mul,Nat.zero_add,List.getElem?_append_left (List.getElem?_eq_some_iff.1 hj).1];exact hj
 | x :: l,hs,k + 1,e,j,u,h,hj=>by
  have hx:=hs x (List.mem_cons_self ..)
  rw [List.flatMap_cons,List.getElem?_append_right (by rw [hx,Nat.succ_mul];omega),hx,show (k + 1) * sz + j - sz = k * sz + j by rw [Nat.succ_mul];omega]
  exact flat_get f sz l (fun y hy=>hs y (List.mem_cons_of_mem _ hy)) k e j u (by simpa using h) hj
theorem flat_len {α:Type} (f:α → List Value) (sz:Nat):∀ (l:List α),(∀ x ∈ l,(f x).length = sz) → (l.flatMap f).length = l.length * sz
 | [],_=>by simp
 | x :: l,h=>by
  rw [List.flatMap_cons,List.length_append,h x (List.mem_cons_self ..),flat_len f sz l (fun y hy=>h y (List.mem_cons_of_mem _ hy)),List.length_cons,Nat.succ_mul];omega
theorem RdR.of_own {base:Nat} {e:TypeId} {n c:Nat} (hsz:0 < sz) (hs:∀ x ∈ l,(f x).length = sz) (h:w.ownsRow base e sz (.slice A n c) n (l.flatMap f)):RdR sz f w w.heap.size A l:=fun k x hx=>by
 have hlt:=(List.getElem?_eq_some_iff.1 hx).1
 rcases h.2 with ⟨h1,h2⟩ | ⟨g,cap,cur,h1,_,hg,_,_,hcs,htk⟩
 ·have h3:=h.1
  rw [flat_len f sz l hs] at h3
  subst h2
  rw [Nat.zero_mul] at h3
  rcases Nat.mul_eq_zero.1 h3 with h4 | h4 <;> omega
 ·injection h1 with h1 _ _
  subst h1
  refine ⟨⟨g,0,none⟩,rfl,(Array.getElem?_eq_some_iff.1 hg).1,fun j u hj=>?_⟩
  have:=flat_get f sz l hs k x j u hx hj
  rw [← htk,List.getElem?_take] at this
  split at this
  ·have ha:(⟨g,0,none⟩:Addr).add (k * sz + j) = ⟨g,k * sz + j,none⟩:=by
    unfold Addr.add
    split
    ·rename_i h;rw [h]
    ·simp
   rw [ha,cell_of_row _ g _ cur e (0,0) hg]
   simpa using this
  ·cases this
end
def edc (x:Ed):List Value:=[.int .i64 x.f,.int .i64 x.e,.int .i64 x.t]
def RdX (w:World) (B:Nat) (A:Option Addr) (l:List Ed):Prop:=RdR 3 edc w B A l
section
variable {w w':World} {B B':Nat} {A:Option Addr} {l:List Ed}
theorem RdX.more (h:RdX w B A l) (hB:B ≤ B'):RdX w B' A l:=RdR.more h hB
theorem RdX.below (h:RdX w B A l) (hb:Below B w w'):RdX w' B A l:=RdR.below h hb
theorem RdX.after (h:RdX w B A l) (hb:Below B' w w') (hB:B ≤ B'):RdX w' B A l:=RdR.after h hb hB
theorem RdX.keep (h:RdX w B A l) (hk:∀ p:Addr,p.block < B → w'.cell? p = w.cell? p):RdX w' B A l:=RdR.keep h hk
theorem RdX.at_ {k:Nat} (h:RdX w B A l) (hk:k < l.length):∃ ad x,A = some ad∧ad.block < B∧l[k]? = some x ∧
  w.cell? (ad.add (k * 3)) = some (.int .i64 x.f)∧w.cell? (ad.add (k * 3 + 1)) = some (.int .i64 x.e)∧w.cell? (ad.add (k * 3 + 2)) = some (.int .i64 x.t):=by
 obtain ⟨ad,x,e1,hb,hx,hc⟩:=RdR.get h hk
 exact ⟨ad,x,e1,hb,hx,hc 0 _ rfl,hc 1 _ rfl,hc 2 _ rfl⟩
end
theorem st_cells {w:World} {ad:Addr} {n j:Nat} {u:Value} (h:w.cell? (ad.add (n + (j + 1))) = some u):w.cell? ⟨(ad.add n).block,(ad.add n).off + (j + 1),none⟩ = some u:=by
 rw [← add_of_add] at h
 unfold Addr.add at h ⊢
 by_cases hn:n = 0
 ·subst hn;simp at h ⊢;exact h
 ·simp [hn] at h ⊢;exact h
structure AutR (w:World) (B:Nat) (A:Option Addr) (na ca:Nat) (M:Option Addr) (nm cm:Nat) (E:Option Addr) (ne ce:Nat) (a:Aut):Prop where
 la:a.al.length = na
 ac:na ≤ ca
 cA:ca ≤ 9223372036854775807
 ra:RdI w B A a.al
 lm:a.ma.length = nm
 mc:nm ≤ cm
 cM:cm ≤ 9223372036854775807
 rm:RdI w B M a.ma
 le:a.ed.length = ne
 ec:ne ≤ ce
 cE:ce ≤ 9223372036854775807
 re:RdX w B E a.ed
section
variable {w w':World} {B B':Nat} {A M E:Option Addr} {na ca nm cm ne ce:Nat} {a:Aut}
theorem AutR.keep (h:AutR w B A na ca M nm cm E ne ce a) (hk:∀ p:Addr,p.block < B → w'.cell? p = w.cell? p):AutR w' B A na ca M nm cm E ne ce a :=
 ⟨h.la,h.ac,h.cA,h.ra.keep hk,h.lm,h.mc,h.cM,h.rm.keep hk,h.le,h.ec,h.cE,h.re.keep hk⟩
theorem AutR.more (h:AutR w B A na ca M nm cm E ne ce a) (hB:B ≤ B'):AutR w B' A na ca M nm cm E ne ce a :=
 ⟨h.la,h.ac,h.cA,h.ra.more hB,h.lm,h.mc,h.cM,h.rm.more hB,h.le,h.ec,h.cE,h.re.more hB⟩
theorem AutR.below (h:AutR w B A na ca M nm cm E ne ce a) (hb:Below B w w'):AutR w' B A na ca M nm cm E ne ce a:=h.keep fun _ hp=>hb.cell hp
end
structure AV where
 A:Option Addr
 na:Nat
 ca:Nat
 M:Option Addr
 nm:Nat
 cm:Nat
 E:Option Addr
 ne:Nat
 ce:Nat
 a:Aut
def avc (x:AV):List Value:=[.slice x.A x.na x.ca,.int .i64 x.a.st,.slice x.M x.nm x.cm,.slice x.E x.ne x.ce]
def AV.ok (w:World) (B:Nat) (x:AV):Prop:=AutR w B x.A x.na x.ca x.M x.nm x.cm x.E x.ne x.ce x.a
theorem wpList_pushN {P:Program} (w:World) (us:List Value) {ops:Array Oper} {rest:List Oper} {o:Oper} {a:Act} {Q:Exit → Act → World → Prop} (hgd:o.guard = none) (s x:Operand) (t:TypeId)
  (ho:o.op = .call { callee:=.builtin .append,args:=#[s,x],argTypes:=#[t,t] })
  (base:Nat) (e:TypeId) (z:Value) (size bytes:Nat) (ht:P.underlying t = some (.slice e)) (hinfo:(P.info? e).map (fun i=>(i.zero,i.size,i.bytes)) = some (some z,size,bytes))
  (hz1:z.cells.size = size) (hsz:0 < size) (hus:us.length = size) (v:Value) (n:Nat) (xs:List Value) (hs:a.eval s = v) (hown:w.ownsRow base e size v n xs)
  (hx:a.eval x = .slice (some ⟨w.heap.size,0,none⟩) 1 1) (h1:∀ u ∈ us,u.oneCell' = true) (hbytes:(n + 1) * bytes ≤ 140737488355328) (hn:n + 1 ≤ 9223372036854775807) (hbase:base ≤ w.heap.size)
  (h:∀ v' w',w'.ownsRow base e size v' (n + 1) (xs ++ us) → w.grownBy w' v.ownBlock → Below base w w' → wpList P ops Q rest (a.put o.dst v') w') :
  wpList P ops Q (o :: rest) a (w.alloc (.cells us.toArray e)):=by
 obtain ⟨i,hi,hz,hs1,hby⟩:=info_parts hinfo
 refine wpList_append_own (w.alloc (.cells us.toArray e)) hgd s x t ho base e i z size bytes ht hi hz hs1 hby hz1 hsz v n xs hs (hown.alloc _) ⟨w.heap.size,0,none⟩ 1 1 us hx (by rw [hus,Nat.one_mul]) ?_ h1 (by unfold maxLen;omega) hbytes (by simp;omega) ?_
 ·intro j y hj
  have ha:(⟨w.heap.size,0,none⟩:Addr).add j = ⟨w.heap.size,j,none⟩:=by
   unfold Addr.add
   split
   ·rename_i h;rw [h]
   ·simp
  rw [ha,cell_of_row _ _ _ _ e (0,0) (heap_alloc_new w _)]
  simpa using hj
 ·intro v' w' ho' hg _
  have hg':w.grownBy w' v.ownBlock:=⟨hg.os,hg.tape,hg.output,Nat.le_trans (by simp) hg.size,fun k hk hne=>(hg.block k (by simp;omega) hne).trans (Below.heap_alloc w _ k hk)⟩
  exact h v' w' ho' hg' ((Below.refl _ _).grown hg' hbase fun k hk=>(hown.lt k hk).1)
end Go.Proofs.Ytdnmpndnpfklcaa
/- Words on maps with int elements that the call has made: a table. Any program. -/
namespace Go.Proofs.Ytdnmpndnpfklcaa
open Go.RowKit Go Go.Maps
def TabI {α:Type} (P:Program) (K E:TypeId) (key:α → Value) (w:World) (b n:Nat) (g:α → Option Int):Prop :=
 ∃ D:DataW Unit,w.ownsMap P K (plainElem P E) b n D∧∀ a kl,keyOf P K (key a) = some kl →
  Maps.has D kl = (g a).isSome∧∀ x,g a = some x → D.atKey kl (.lit (.int .i64 0)) = .lit (.int .i64 x)
section
variable {α:Type} {P:Program} {K E:TypeId} {key:α → Value} {w w':World} {b n:Nat} {g:α → Option Int}
theorem TabI.made (w:World) (P:Program) (K E:TypeId) (key:α → Value):TabI P K E key (w.alloc (.map #[] 0)) w.heap.size 0 (fun _=>none) :=
 ⟨_,World.ownsMap_made _ _ _ _,fun a kl _=>⟨by simp [Maps.has_eq],fun x hx=>by cases hx⟩⟩
theorem TabI.lt (h:TabI P K E key w b n g):b < w.heap.size:=by
 obtain ⟨D,h1,h2⟩:=h
 exact h1.lt
theorem TabI.kept (h:TabI P K E key w b n g) {row:Option Nat} (hg:w.grownBy w' row) (hne:some b ≠ row):TabI P K E key w' b n g:=by
 obtain ⟨D,h1,h2⟩:=h
 exact ⟨D,h1.kept hg hne,h2⟩
theorem TabI.block (h:TabI P K E key w b n g) (he:w'.heap[b]? = w.heap[b]?):TabI P K E key w' b n g:=by
 obtain ⟨D,⟨es,clock,hb,F,hs,hD⟩,h2⟩:=h
 exact ⟨D,⟨es,clock,he.trans hb,F,hs,hD⟩,h2⟩
theorem TabI.below {B:Nat} (h:TabI P K E key w b n g) (hb:Below B w w') (hB:b < B):TabI P K E key w' b n g:=h.block (hb.block b hB)
theorem TabI.alloc (h:TabI P K E key w b n g) (o:Obj):TabI P K E key (w.alloc o) b n g:=h.kept (World.grownBy_alloc w o none) (by simp)
theorem wpList_tab_hit {ops:Array Oper} {rest:List Oper} {o:Oper} {a:Act} {Q:Exit → Act → World → Prop} (hg:o.guard = none) (m x:Operand) (t:TypeId) (hop:o.op = Op.lookup t m x true)
  (KK:Keyed P K) (ht:P.underlying t = some (.map K E)) (he:P.underlying E = some (.int .i64)) (hz:(zeroValue E).run P w = .ok (.int .i64 0) w)
  (hm:a.eval m = .map (some b)) (h:TabI P K E key w b n g) (c:α) (hx:a.eval x = key c) (hk:∃ kl,keyOf P K (key c) = some kl) (y:Int) (hy:g c = some y)
  (hK:wpList P ops Q rest (a.put o.dst (.tuple #[.int .i64 y,.bool true])) w):wpList P ops Q (o :: rest) a w:=by
 obtain ⟨D,h1,h2⟩:=h
 obtain ⟨kl,hkl⟩:=hk
 obtain ⟨h3,h4⟩:=h2 c kl hkl
 refine wpList_lookup_own_ok_int w hg m x t hop K E .i64 KK ht he hz b n D hm h1 (key c) kl hx hkl ?_
 intro z hz1 _
 rw [h4 y hy] at hz1
 simp only [DataW.lit.injEq,Lit.int.injEq,true_and] at hz1
 rw [h3,hy,← hz1]
 exact hK
theorem wpList_tab_miss {ops:Array Oper} {rest:List Oper} {o:Oper} {a:Act} {Q:Exit → Act → World → Prop} (hg:o.guard = none) (m x:Operand) (t:TypeId) (hop:o.op = Op.lookup t m x true)
  (KK:Keyed P K) (ht:P.underlying t = some (.map K E)) (he:P.underlying E = some (.int .i64)) (hz:(zeroValue E).run P w = .ok (.int .i64 0) w)
  (hm:a.eval m = .map (some b)) (h:TabI P K E key w b n g) (c:α) (hx:a.eval x = key c) (hk:∃ kl,keyOf P K (key c) = some kl) (hy:g c = none)
  (hK:wpList P ops Q rest (a.put o.dst (.tuple #[.int .i64 0,.bool false])) w):wpList P ops Q (o :: rest) a w:=by
 obtain ⟨D,h1,h2⟩:=h
 obtain ⟨kl,hkl⟩:=hk
 obtain ⟨h3,h4⟩:=h2 c kl hkl
 rw [hy] at h3
 refine wpList_lookup_own_ok_int w hg m x t hop K E .i64 KK ht he hz b n D hm h1 (key c) kl hx hkl ?_
 intro z hz1 _
 rw [Maps.atKey_of_not_has h3] at hz1
 simp only [DataW.lit.injEq,Lit.int.injEq,true_and] at hz1
 rw [h3,← hz1]
 exact hK
theorem wpList_tab_put {ops:Array Oper} {rest:List Oper} {o:Oper} {a:Act} {Q:Exit → Act → World → Prop} (hg:o.guard = none) (m x v:Operand) (t:TypeId) (hop:o.op = Op.mapUpdate t m x v)
  (KK:Keyed P K) (ht:P.underlying t = some (.map K E)) (he:P.underlying E = some (.int .i64))
  (hm:a.eval m = .map (some b)) (h:TabI P K E key w b n g) (hn:n ≤ 1000000000) (c:α) (hx:a.eval x = key c) (hk:∃ kl,keyOf P K (key c) = some kl) (y:Int) (hv:a.eval v = .int .i64 y) (hw:(Lit.int .i64 y).wf = true)
  (g':α → Option Int) (hg1:∀ d,key d = key c → g' d = some y) (hg2:∀ d,key d ≠ key c → g' d = g d)
  (hK:∀ w',TabI P K E key w' b (n + 1) g' → w.grownBy w' (some b) → wpList P ops Q rest (a.put o.dst undef) w'):wpList P ops Q (o :: rest) a w:=by
 obtain ⟨D,h1,h2⟩:=h
 obtain ⟨kl,hkl⟩:=hk
 refine wpList_mapUpdate_own w hg m x v t hop K E KK ht _ b n D hm h1 (by unfold maxLen;omega) _ _ kl hx hv hkl (.lit (.int .i64 y)) [] (plainElem_int he hw) ?_
 intro w' h3 h4
 refine hK w' ⟨_,h3,fun d kd hkd=>?_⟩ h4
 by_cases hd:key d = key c
 ·have:kd = kl:=by rw [hd,hkl] at hkd;injection hkd with e;exact e.symm
  subst this
  rw [hg1 d hd]
  exact ⟨Maps.has_put_same h1.isMap (KK.key hkl) _,fun z hz=>by injection hz with hz;subst hz;exact Maps.atKey_put_same h1.isMap (KK.key hkl) _ _⟩
 ·have hne:kd ≠ kl:=fun e=>hd (KK.inj (by rw [← e];exact hkd) hkl)
  rw [hg2 d hd,Maps.has_put_other hne,Maps.atKey_put_other hne]
  exact h2 d kd hkd
end
end Go.Proofs.Ytdnmpndnpfklcaa
/- Words on blocks that are known whole; edges as a table. No program in sight. -/
namespace Go.Proofs.Ytdnmpndnpfklcaa
open Go.RowKit Go
def Blk (w:World) (b:Nat) (t:TypeId) (vs:List Value):Prop:=w.heap[b]? = some (.cells vs.toArray t (0,0))
section
variable {w w':World} {b:Nat} {t:TypeId} {vs:List Value}
theorem Blk.new (w:World) (t:TypeId) (vs:List Value):Blk (w.alloc (.cells vs.toArray t)) w.heap.size t vs:=heap_alloc_new w _
theorem Blk.lt (h:Blk w b t vs):b < w.heap.size:=(Array.getElem?_eq_some_iff.1 h).1
theorem Blk.cell (h:Blk w b t vs) {j:Nat} {u:Value} (hj:vs[j]? = some u):w.cell? ⟨b,j,none⟩ = some u:=by
 rw [cell_of_row w b j vs.toArray t (0,0) h];simpa using hj
theorem Blk.free (h:Blk w b t vs) (j:Nat):w.frozen? ⟨b,j,none⟩ = false:=by
 unfold Blk at h
 simp [World.frozen?,h]
theorem Blk.kept (h:Blk w b t vs) {row:Option Nat} (hg:w.grownBy w' row) (hne:some b ≠ row):Blk w' b t vs:=(hg.block b h.lt hne).trans h
theorem Blk.below (h:Blk w b t vs) {B:Nat} (hb:Below B w w') (hB:b < B):Blk w' b t vs:=(hb.block b hB).trans h
theorem Blk.set (h:Blk w b t vs) {j:Nat} (_hj:j < vs.length) (u:Value):Blk (w.setCell ⟨b,j,none⟩ u) b t (vs.set j u):=by
 unfold Blk at *
 have hlt:b < w.heap.size:=(Array.getElem?_eq_some_iff.1 h).1
 have hg:w.heap[b] = .cells vs.toArray t (0,0):=by
  rw [Array.getElem?_eq_getElem hlt] at h;injection h
 unfold World.setCell
 simp [hlt,Array.getElem_modify,hg]
theorem grown_setCell (w:World) (b j:Nat) (u:Value):w.grownBy (w.setCell ⟨b,j,none⟩ u) (some b) :=
 ⟨rfl,rfl,rfl,by simp [World.setCell],fun k _ hne=>Below.heap_setCell _ _ _ _ (fun e=>hne (by rw [e]))⟩
theorem grown_below (h:Below w.heap.size w w') (row:Option Nat):w.grownBy w' row:=⟨h.os,h.tape,h.output,h.size,fun k hk _=>h.block k hk⟩
end
def lkE (s v:Int):List Ed → Option Int
 | []=>none
 | x :: r=>if x.f = s∧x.e = v then some x.t else lkE s v r
theorem add_lit0 (b k:Nat):((⟨b,0,none⟩:Addr).add k) = ⟨b,k,none⟩:=by
 unfold Addr.add
 split
 ·rename_i h;subst h;rfl
 ·simp
theorem made_ints (n:Nat):madeCells #[.int .i64 0] n = (iv (List.replicate n 0)).toArray:=by
 apply Array.ext
 ·simp [madeCells,iv]
 ·intro i h1 h2
  simp [madeCells,iv,Nat.mod_one]
theorem wpList_pushA {P:Program} (w:World) (us:List Value) {ops:Array Oper} {rest:List Oper} {o:Oper} {a:Act} {Q:Exit → Act → World → Prop} (hgd:o.guard = none) (s x:Operand) (t:TypeId)
  (ho:o.op = .call { callee:=.builtin .append,args:=#[s,x],argTypes:=#[t,t] })
  (base:Nat) (e:TypeId) (z:Value) (size bytes:Nat) (ht:P.underlying t = some (.slice e)) (hinfo:(P.info? e).map (fun i=>(i.zero,i.size,i.bytes)) = some (some z,size,bytes))
  (hz1:z.cells.size = size) (hsz:0 < size) (hus:us.length = size) (v:Value) (n:Nat) (xs:List Value) (hs:a.eval s = v) (hown:w.ownsRow base e size v n xs)
  (hx:a.eval x = .slice (some ⟨w.heap.size,0,none⟩) 1 1) (h1:∀ u ∈ us,u.oneCell' = true) (hbytes:(n + 1) * bytes ≤ 140737488355328) (hn:n + 1 ≤ 9223372036854775807) (hbase:base ≤ w.heap.size)
  (h:∀ A c w',w'.ownsRow base e size (.slice A (n + 1) c) (n + 1) (xs ++ us) → w.grownBy w' v.ownBlock → ((Value.slice A (n + 1) c).ownBlock = v.ownBlock ∨ ∃ g,(Value.slice A (n + 1) c).ownBlock = some g∧w.heap.size ≤ g) → wpList P ops Q rest (a.put o.dst (.slice A (n + 1) c)) w') :
  wpList P ops Q (o :: rest) a (w.alloc (.cells us.toArray e)):=by
 obtain ⟨i,hi,hz,hs1,hby⟩:=info_parts hinfo
 refine wpList_append_own_at (w.alloc (.cells us.toArray e)) hgd s x t ho base e i z size bytes ht hi hz hs1 hby hz1 hsz v n xs hs (hown.alloc _) ⟨w.heap.size,0,none⟩ 1 1 us hx (by rw [hus,Nat.one_mul]) ?_ h1 (by unfold maxLen;omega) hbytes (by simp;omega) ?_
 ·intro j y hj
  rw [add_lit0,cell_of_row _ _ _ _ e (0,0) (heap_alloc_new w _)]
  simpa using hj
 ·intro v' w' ho' hg _ hloc
  have hg':w.grownBy w' v.ownBlock:=⟨hg.os,hg.tape,hg.output,Nat.le_trans (by simp) hg.size,fun k hk hne=>(hg.block k (by simp;omega) hne).trans (Below.heap_alloc w _ k hk)⟩
  obtain ⟨A,c,rfl⟩:∃ A c,v' = .slice A (n + 1) c:=by
   rcases ho'.2 with ⟨hv,h0⟩ | ⟨g,cap,cur,hv,_⟩
   ·omega
   ·exact ⟨_,_,hv⟩
  exact h A c w' ho' hg' (hloc.imp id (fun hl=>⟨_,hl,by simp⟩))
end Go.Proofs.Ytdnmpndnpfklcaa

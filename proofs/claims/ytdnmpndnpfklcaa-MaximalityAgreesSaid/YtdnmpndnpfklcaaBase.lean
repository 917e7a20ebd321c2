/- Small words on slices of ints, for the walks: a slice that reads as a list, a row that the call owns. No program in sight. -/
import Derived.WalkKit
import Derived.WalkSpells
import Derived.Maps.AppendAt
import Derived.Deep.AppendLies
import Derived.Deep.Draws
import Derived.Lib.Hide
namespace Go.Proofs.Ytdnmpndnpfklcaa
open Go.RowKit Go
theorem block_of_add (a:Addr) (n:Nat):(a.add n).block = a.block:=by unfold Addr.add;split <;> rfl
theorem add_of_add (a:Addr) (i j:Nat):(a.add i).add j = a.add (i + j):=by
 unfold Addr.add
 by_cases hi:i = 0 <;> by_cases hj:j = 0 <;> simp [hi,hj,Nat.add_assoc]
theorem add_zero' (a:Addr):a.add 0 = a:=rfl
def RdV (w:World) (B:Nat) (A:Option Addr) (vs:List Value):Prop :=
 ∀ k u,vs[k]? = some u → ∃ ad,A = some ad∧ad.block < B∧w.cell? (ad.add k) = some u
def iv (l:List Int):List Value:=l.map (Value.int .i64)
theorem iv_length (l:List Int):(iv l).length = l.length:=by simp [iv]
theorem iv_append (a b:List Int):iv (a ++ b) = iv a ++ iv b:=by simp [iv]
theorem iv_one (l:List Int):∀ u ∈ iv l,u.oneCell' = true:=by
 intro u hu
 simp [iv] at hu
 obtain ⟨a,_,rfl⟩:=hu
 rfl
theorem iv_get (l:List Int) (k:Nat):(iv l)[k]? = l[k]?.map (Value.int .i64):=by simp [iv]
def RdI (w:World) (B:Nat) (A:Option Addr) (l:List Int):Prop:=RdV w B A (iv l)
section
variable {w w':World} {B B':Nat} {A:Option Addr} {vs:List Value} {l:List Int}
theorem RdV.nil:RdV w B A []:=fun k u h=>by simp at h
theorem RdV.keep (h:RdV w B A vs) (hk:∀ p:Addr,p.block < B → w'.cell? p = w.cell? p):RdV w' B A vs:=fun k u hu=>by
 obtain ⟨ad,e,hb,hc⟩:=h k u hu
 exact ⟨ad,e,hb,(hk _ (by rw [block_of_add];exact hb)).trans hc⟩
theorem RdV.more (h:RdV w B A vs) (hB:B ≤ B'):RdV w B' A vs:=fun k u hu=>by
 obtain ⟨ad,e,hb,hc⟩:=h k u hu
 exact ⟨ad,e,by omega,hc⟩
theorem RdV.below (h:RdV w B A vs) (hb:Below B w w'):RdV w' B A vs:=h.keep fun _ hp=>hb.cell hp
theorem RdV.after (h:RdV w B A vs) (hb:Below B' w w') (hB:B ≤ B'):RdV w' B A vs:=h.keep fun _ hp=>hb.cell (by omega)
theorem RdV.alloc (h:RdV w B A vs) (hB:B ≤ w.heap.size) (o:Obj):RdV (w.alloc o) B A vs:=h.keep fun p hp=>World.cell?_alloc_lt w o p (by omega)
theorem RdV.at_ {k:Nat} (h:RdV w B A vs) (hk:k < vs.length):∃ ad u,A = some ad∧ad.block < B∧vs[k]? = some u∧w.cell? (ad.add k) = some u:=by
 obtain ⟨ad,e,hb,hc⟩:=h k vs[k] (List.getElem?_eq_getElem hk)
 exact ⟨ad,_,e,hb,List.getElem?_eq_getElem hk,hc⟩
theorem RdV.of_own {base:Nat} {e:TypeId} {n c:Nat} (h:w.ownsRow base e 1 (.slice A n c) n vs):RdV w w.heap.size A vs:=fun k u hu=>by
 have hn:0 < n:=by
  have h1:=h.1
  have:=(List.getElem?_eq_some_iff.1 hu).1
  omega
 obtain ⟨g,cap,hv,_,hlt⟩:=h.form hn
 have hA:A = some ⟨g,0,none⟩:=by injection hv
 subst hA
 exact ⟨_,rfl,hlt,h.cells (g:=g) rfl k u hu⟩
theorem RdI.nil:RdI w B A []:=RdV.nil
theorem RdI.keep (h:RdI w B A l) (hk:∀ p:Addr,p.block < B → w'.cell? p = w.cell? p):RdI w' B A l:=RdV.keep h hk
theorem RdI.more (h:RdI w B A l) (hB:B ≤ B'):RdI w B' A l:=RdV.more h hB
theorem RdI.below (h:RdI w B A l) (hb:Below B w w'):RdI w' B A l:=RdV.below h hb
theorem RdI.after (h:RdI w B A l) (hb:Below B' w w') (hB:B ≤ B'):RdI w' B A l:=RdV.after h hb hB
theorem RdI.at_ {k:Nat} (h:RdI w B A l) (hk:k < l.length):∃ ad x,A = some ad∧ad.block < B∧l[k]? = some x∧w.cell? (ad.add k) = some (.int .i64 x):=by
 obtain ⟨ad,e,hb,hc⟩:=h k (.int .i64 l[k]) (by rw [iv_get,List.getElem?_eq_getElem hk];rfl)
 exact ⟨ad,_,e,hb,List.getElem?_eq_getElem hk,hc⟩
theorem RdI.of_own {base:Nat} {e:TypeId} {n c:Nat} (h:w.ownsRow base e 1 (.slice A n c) n (iv l)):RdI w w.heap.size A l:=RdV.of_own h
end
def bv (l:List Int):List Value:=l.map (Value.int .u8)
structure SlV where
 A:Option Addr
 c:Nat
 l:List Int
section
variable {w w':World} {base:Nat} {e:TypeId} {size n:Nat} {v:Value} {xs:List Value}
theorem own_below (h:w.ownsRow base e size v n xs) (hb:Below w.heap.size w w'):w'.ownsRow base e size v n xs :=
 h.kept (row:=none) ⟨hb.os,hb.tape,hb.output,hb.size,fun k hk _=>hb.block k hk⟩ (by cases hv:v.ownBlock <;> simp)
theorem own_base {B':Nat} (h:w.ownsRow B' e size v n xs) (hB:base ≤ B'):w.ownsRow base e size v n xs :=
 ⟨h.1,h.2.imp id (fun ⟨g,cap,cur,a,b,c⟩=>⟨g,cap,cur,a,Nat.le_trans hB b,c⟩)⟩
theorem own_slI {l:List Int} (h:w.ownsRow base e 1 v l.length (iv l)):∃ A c,v = .slice A l.length c∧l.length ≤ c∧c ≤ 9223372036854775807∧RdI w w.heap.size A l:=by
 rcases h.2 with ⟨rfl,h0⟩ | ⟨g,cap,cur,rfl,_,_,hnc,hcm,_⟩
 ·have hl:l = []:=List.eq_nil_of_length_eq_zero h0
  subst hl
  exact ⟨none,0,rfl,Nat.le_refl _,by omega,RdI.nil⟩
 ·exact ⟨_,_,rfl,hnc,by simpa [maxLen] using hcm,RdI.of_own h⟩
end
theorem cell_zero {w:World} {ad:Addr} {u:Value} (h:w.cell? (ad.add 0) = some u):w.cell? ad = some u:=h
theorem cell_succ {w:World} {ad:Addr} {j:Nat} {u:Value} (h:w.cell? (ad.add (j + 1)) = some u):w.cell? ⟨ad.block,ad.off + (j + 1),none⟩ = some u:=by
 unfold Addr.add at h
 rwa [if_neg (by omega)] at h
theorem dr0 (w:World) (a:Nat):∃ n,w.drewN a = w.drewN n:=⟨a,rfl⟩
theorem dr1 (w:World) (a b:Nat):∃ n,(w.drewN a).drewN b = w.drewN n:=⟨_,World.drewN_drewN _ _ _⟩
theorem dr2 (w:World) (a b c:Nat):∃ n,((w.drewN a).drewN b).drewN c = w.drewN n:=⟨_,by rw [World.drewN_drewN,World.drewN_drewN]⟩
theorem dr3 (w:World) (a b c d:Nat):∃ n,(((w.drewN a).drewN b).drewN c).drewN d = w.drewN n:=⟨_,by rw [World.drewN_drewN,World.drewN_drewN,World.drewN_drewN]⟩
theorem dr00 (w:World):∃ n,w = w.drewN n:=⟨0,rfl⟩
theorem below_drewN {B:Nat} {a w:World} (h:Below B a w) (n:Nat):Below B a (w.drewN n):=⟨h.os,h.tape,h.output,h.size,h.block⟩
def RetO (I:TypeId) (l:List Int) (w:World) (e:Ending) (w':World):Prop:=∃ v,e = .returned v∧w'.ownsRow w.heap.size I 1 v l.length (iv l)∧Below w.heap.size w w'
theorem wpList_push {P:Program} (w:World) (u:Value) {ops:Array Oper} {rest:List Oper} {o:Oper} {a:Act} {Q:Exit → Act → World → Prop} (hgd:o.guard = none) (s x:Operand) (t:TypeId)
  (ho:o.op = .call { callee:=.builtin .append,args:=#[s,x],argTypes:=#[t,t] })
  (base:Nat) (e:TypeId) (z:Value) (bytes:Nat) (ht:P.underlying t = some (.slice e)) (hinfo:(P.info? e).map (fun i=>(i.zero,i.size,i.bytes)) = some (some z,1,bytes))
  (hz1:z.cells.size = 1) (v:Value) (n:Nat) (xs:List Value) (hs:a.eval s = v) (hown:w.ownsRow base e 1 v n xs)
  (hx:a.eval x = .slice (some ⟨w.heap.size,0,none⟩) 1 1) (h1:u.oneCell' = true) (hbytes:(n + 1) * bytes ≤ 140737488355328) (hn:n + 1 ≤ 9223372036854775807) (hbase:base ≤ w.heap.size)
  (h:∀ v' w',w'.ownsRow base e 1 v' (n + 1) (xs ++ [u]) → w.grownBy w' v.ownBlock → Below base w w' → wpList P ops Q rest (a.put o.dst v') w') :
  wpList P ops Q (o :: rest) a (w.alloc (.cells #[u] e)):=by
 obtain ⟨i,hi,hz,hs1,hby⟩:=info_parts hinfo
 refine wpList_append_own (w.alloc (.cells #[u] e)) hgd s x t ho base e i z 1 bytes ht hi hz hs1 hby hz1 (by omega) v n xs hs (hown.alloc _) ⟨w.heap.size,0,none⟩ 1 1 [u] hx rfl ?_ ?_ (by unfold maxLen;omega) hbytes (by simp;omega) ?_
 ·intro j y hj
  match j,hj with
  | 0,hj=>simp at hj;subst hj;simp [Addr.add]
  | j + 1,hj=>simp at hj
 ·intro y hy
  simp at hy;subst hy;exact h1
 ·intro v' w' ho' hg _
  have hg':w.grownBy w' v.ownBlock:=⟨hg.os,hg.tape,hg.output,Nat.le_trans (by simp) hg.size,fun k hk hne=>(hg.block k (by simp;omega) hne).trans (Below.heap_alloc w _ k hk)⟩
  exact h v' w' ho' hg' ((Below.refl _ _).grown hg' hbase fun k hk=>(hown.lt k hk).1)
theorem run_app_nil {P:Program} (w:World) (base:Nat) (t ty e:TypeId) (i:TypeInfo) (size:Nat) (ht:P.underlying t = some (.slice e)) (hi:P.info? e = some i)
  (v:Value) (n:Nat) (xs:List Value) (hown:w.ownsRow base e size v n xs) (c:Nat):(Builtin.append_ #[t,t] ty #[v,.slice none 0 c]).run P w = .ok v w:=by
 rcases hown.2 with ⟨rfl,rfl⟩ | ⟨g,cap,cur,rfl,_,_,hnc,_⟩
 ·simp [Builtin.append_,run_underlying ht,sizeOf,typeInfo,hi,Builtin.lenOf,Builtin.firstCells]
 ·simp [Builtin.append_,run_underlying ht,sizeOf,typeInfo,hi,Builtin.lenOf,Builtin.firstCells,hnc,storeCells]
theorem run_app {P:Program} (w:World) (base:Nat) (t ty e:TypeId) (i:TypeInfo) (z:Value) (bytes:Nat) (ht:P.underlying t = some (.slice e)) (hi:P.info? e = some i) (hz:i.zero = some z)
  (hsize:i.size = 1) (hby:i.bytes = bytes) (hzs:z.cells.size = 1) (v:Value) (n:Nat) (xs:List Value) (hown:w.ownsRow base e 1 v n xs)
  (B:Nat) (A:Option Addr) (m c:Nat) (news:List Value) (hm:news.length = m) (hr:RdV w B A news) (h1:∀ u ∈ news,u.oneCell' = true)
  (h63:n + m ≤ maxLen) (hbytes:(n + m) * bytes ≤ 140737488355328) (hbase:base ≤ w.heap.size) :
  ∃ v' w',(Builtin.append_ #[t,t] ty #[v,.slice A m c]).run P w = .ok v' w'∧w'.ownsRow base e 1 v' (n + m) (xs ++ news)∧w.grownBy w' v.ownBlock∧(v' = .slice none 0 0 → v = .slice none 0 0):=by
 rcases A with _ | ad
 ·have hm0:m = 0:=by
   rcases Nat.eq_zero_or_pos m with h0 | h0
   ·exact h0
   ·obtain ⟨ad,_,h,_⟩:=hr.at_ (k:=0) (by omega)
    cases h
  subst hm0
  have hn:news = []:=List.eq_nil_of_length_eq_zero hm
  subst hn
  exact ⟨v,w,run_app_nil w base t ty e i 1 ht hi v n xs hown c,by simpa using hown,World.grownBy.refl w _,fun h=>h⟩
 ·have hcells:∀ j u,news[j]? = some u → w.cell? (ad.add j) = some u:=fun j u hu=>by
   obtain ⟨ad',h,_,hc⟩:=hr j u hu
   injection h with h
   subst h
   exact hc
  obtain ⟨v',w',hrun,h2,h3,h4,_⟩:=run_append_own_at (P:=P) w base t ty e i z 1 bytes ht hi hz hsize hby hzs (by omega) v n xs hown ad m c news (by omega) hcells h1 h63 hbytes hbase
  exact ⟨v',w',hrun,h2,h3,fun h=>(h4.1 h).1⟩
theorem wpList_app {P:Program} (w:World) {ops:Array Oper} {rest:List Oper} {o:Oper} {a:Act} {Q:Exit → Act → World → Prop} (hgd:o.guard = none) (s x:Operand) (t:TypeId)
  (ho:o.op = .call { callee:=.builtin .append,args:=#[s,x],argTypes:=#[t,t] })
  (base:Nat) (e:TypeId) (z:Value) (bytes:Nat) (ht:P.underlying t = some (.slice e)) (hinfo:(P.info? e).map (fun i=>(i.zero,i.size,i.bytes)) = some (some z,1,bytes))
  (hz1:z.cells.size = 1) (v:Value) (n:Nat) (xs:List Value) (hs:a.eval s = v) (hown:w.ownsRow base e 1 v n xs)
  (B:Nat) (A:Option Addr) (m c:Nat) (news:List Value) (hm:news.length = m) (hx:a.eval x = .slice A m c) (hr:RdV w B A news) (h1:∀ u ∈ news,u.oneCell' = true)
  (hn:n + m ≤ 9223372036854775807) (hbytes:(n + m) * bytes ≤ 140737488355328) (hbase:base ≤ w.heap.size)
  (h:∀ v' w',w'.ownsRow base e 1 v' (n + m) (xs ++ news) → w.grownBy w' v.ownBlock → Below base w w' → (v' = .slice none 0 0 → v = .slice none 0 0) → wpList P ops Q rest (a.put o.dst v') w') :
  wpList P ops Q (o :: rest) a w:=by
 obtain ⟨i,hi,hz,hs1,hby⟩:=info_parts hinfo
 refine wpList_plain hgd fun K hK=>?_
 obtain ⟨v',w',hrun,h2,h3,h4⟩:=run_app (P:=P) w base t o.type e i z bytes ht hi hz hs1 hby hz1 v n xs hown B A m c news hm hr h1 (by unfold maxLen;omega) hbytes hbase
 unfold Oper.wp execOp
 simp only [ho,resolve,invoke,builtin,Sem.run_bind,Sem.run_pure,Result.andThen_ok,List.map_toArray,List.map_cons,List.map_nil,hs,hx,hrun]
 exact hK _ _ (h v' w' h2 h3 ((Below.refl _ _).grown h3 hbase fun k hk=>(hown.lt k hk).1) h4)
end Go.Proofs.Ytdnmpndnpfklcaa

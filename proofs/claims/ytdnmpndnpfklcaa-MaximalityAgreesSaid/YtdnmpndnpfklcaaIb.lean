/- Walks: classed, reach.Dead, automaton.Step, the model's step, Live. Printed by wip/mkjb.py. -/
import Derived.Test.YtdnmpndnpfklcaaUf
import Derived.Test.YtdnmpndnpfklcaaIa
import Derived.Test.YtdnmpndnpfklcaaUk
import Derived.BigQuiet
import Derived.Maps.Own
import Derived.Maps.OwnOps
import Derived.Maps.OwnSet
import Derived.Test.YtdnmpndnpfklcaaUc
import Derived.Deep.Cut
import Derived.Deep.AppendLies
import Derived.Deep.RegionLaw
import Derived.Deep.CutRange
import Derived.Deep.CutBlock
import Derived.WideKeyEntry
import Derived.Test.YtdnmpndnpfklcaaUr
import Derived.Deep.MidRow
import Derived.Lib.SliceRun

namespace Go.Proofs.Ytdnmpndnpfklcaa
open Go.RowKit Go
def RetLE (l:List Int) (w:World) (e:Ending) (w':World):Prop:=∃ v,e = .returned (.tuple #[v,.int .i64 0])∧w'.ownsRow w.heap.size 3 1 v l.length (iv l)∧Below w.heap.size w w'
end Go.Proofs.Ytdnmpndnpfklcaa
/- Walks: diagnosability.Live. Printed by wip/mkjc.py. -/
namespace Go.Proofs.Ytdnmpndnpfklcaa
open Go.RowKit Go
end Go.Proofs.Ytdnmpndnpfklcaa

/- Walks: alphabet.chosen, alphabet.Select: a map of functions. -/
namespace Go.Proofs.Ytdnmpndnpfklcaa
open Go.RowKit Go Go.Maps
end Go.Proofs.Ytdnmpndnpfklcaa

/- Walks: diagnosability's Quiet, settled. Printed by wip/mkje.py. -/
namespace Go.Proofs.Ytdnmpndnpfklcaa
open Go.RowKit Go
end Go.Proofs.Ytdnmpndnpfklcaa

/- Walks: forcing.Check; a system as a value. -/
namespace Go.Proofs.Ytdnmpndnpfklcaa
open Go.RowKit Go
end Go.Proofs.Ytdnmpndnpfklcaa

/- Walks: forcing.Loop, forcing.open; two rows that grow apart; tuples of two do not lie in a zero automaton's block. -/
namespace Go.Proofs.Ytdnmpndnpfklcaa
open Go.RowKit Go Go.Maps
end Go.Proofs.Ytdnmpndnpfklcaa

/- Walks: the law's step, all, ends; diagnosability.words. Printed by wip/mkjf.py. -/
namespace Go.Proofs.Ytdnmpndnpfklcaa
open Go.RowKit Go
end Go.Proofs.Ytdnmpndnpfklcaa

/- Walks: diagnosability.Model.moves. Printed by wip/mkjg.py. -/
namespace Go.Proofs.Ytdnmpndnpfklcaa
open Go.RowKit Go

/- two chains, each a literal of one element and an append of it, that come up in any order -/
end Go.Proofs.Ytdnmpndnpfklcaa

/- Walks: diagnosability.Twin: the twin plant of a class of faults. -/
namespace Go.Proofs.Ytdnmpndnpfklcaa
open Go.RowKit Go Go.Maps
end Go.Proofs.Ytdnmpndnpfklcaa

/- Plain words on rank, and the opened twin plant in memory. -/
namespace Go.Proofs.Ytdnmpndnpfklcaa
open Go.RowKit Go
theorem iv_gI {l:List Int} {i:Nat} (h:i < l.length):(iv l)[i]? = some (.int .i64 (gI l (i:Int))):=by
 unfold iv gI
 rw [List.getElem?_map,Int.toNat_natCast,List.getD_eq_getElem?_getD,List.getElem?_eq_getElem h];rfl
end Go.Proofs.Ytdnmpndnpfklcaa

/- Walks: slices.Reverse at moves. -/
namespace Go.Proofs.Ytdnmpndnpfklcaa
open Go.RowKit Go
def setL:List Value → Nat → List Value → List Value
 | L,_,[]=>L
 | L,o,v :: vs=>setL (L.set o v) (o + 1) vs
theorem setL_app:∀ (vs A B:List Value) (o:Nat),setL (A ++ B) (A.length + o) vs = A ++ setL B o vs
 | [],_,_,_=>rfl
 | v :: vs,A,B,o=>by
  rw [setL,setL,List.set_append,if_neg (by omega),show A.length + o - A.length = o by omega]
  exact setL_app vs A (B.set o v) (o + 1)
theorem Blk.sets {b:Nat} {t:TypeId}:∀ (vs:List Value) {w:World} {L:List Value} {o:Nat},Blk w b t L → o + vs.length ≤ L.length → Blk (w.setCells b o vs) b t (setL L o vs)∧w.grownBy (w.setCells b o vs) (some b)
 | [],w,L,o,h,_=>⟨h,grown_refl _ _⟩
 | v :: vs,w,L,o,h,hl=>by
  rw [List.length_cons] at hl
  have h1:=h.set (j:=o) (by omega) v
  obtain ⟨h2,h3⟩:=Blk.sets vs h1 (o:=o + 1) (by rw [List.length_set];omega)
  exact ⟨h2,(grown_setCell w b o v).trans h3⟩
theorem Blk.there {b:Nat} {t:TypeId} {w:World} {L:List Value} (h:Blk w b t L) {o n:Nat} (hl:o + n ≤ L.length):w.there b o n:=fun i hi=>by
 have h1:=h.cell (j:=o + i) (List.getElem?_eq_getElem (by omega))
 have h2:=h.free (o + i)
 exact ⟨by rw [h1];rfl,h2⟩
theorem step_store {P:Program} {ops:Array Oper} {o:Oper} {a:Act} {K:Act → World → Prop} {Q:Exit → Act → World → Prop} {E:Prop} {w:World} (hgd:o.guard = none) (ty:TypeId) (x y:Operand) (ho:o.op = .store ty x y)
  (b of:Nat) (cells:Array Value) (hx:a.eval x = .pointer (some ⟨b,of,none⟩)) (hy:a.eval y = .agg cells) (ht:w.there b of cells.size) (hi:(P.info? ty).map (·.size) = some cells.size) (h1:cells.all (·.oneCell') = true)
  (h:K (a.put o.dst undef) (w.setCells b of cells.toList)):if Region.wanted o (yielded ops a.tmps) = true then Oper.wp P o a w K Q else E:=by
 rw [if_pos (by simp [Region.wanted,hgd])]
 exact wp_store_mid ty x y ho b of cells hx hy ht hi h1 h
end Go.Proofs.Ytdnmpndnpfklcaa
/- Words on maps from ints to moves; the memory of diagnosability.twin.path. -/
namespace Go.Proofs.Ytdnmpndnpfklcaa
open Go.RowKit Go Go.Maps
theorem intLaw:Keyed Try.prog 3:=int_keyed Try.underlying3
theorem intKey (c:Int) (h:(Lit.int .i64 c).wf = true):∃ kl,keyOf Try.prog 3 (.int .i64 c) = some kl:=⟨_,keyOf_int_mk Try.underlying3 h⟩
end Go.Proofs.Ytdnmpndnpfklcaa

/- Walks: diagnosability.Model.moves. Printed by wip/mkjg.py. -/
namespace Go.Proofs.Ytdnmpndnpfklcaa
open Go.RowKit Go
end Go.Proofs.Ytdnmpndnpfklcaa

/- Walks: diagnosability.Twin at a right model and class. -/
namespace Go.Proofs.Ytdnmpndnpfklcaa
open Go.RowKit Go Go.Maps
end Go.Proofs.Ytdnmpndnpfklcaa

/- Words on diagnosability.open: three rows made in any order; the moves of each pair, gathered. -/
namespace Go.Proofs.Ytdnmpndnpfklcaa
open Go.RowKit Go
end Go.Proofs.Ytdnmpndnpfklcaa
/- Walks: diagnosability.open. -/
namespace Go.Proofs.Ytdnmpndnpfklcaa
open Go.RowKit Go
end Go.Proofs.Ytdnmpndnpfklcaa

/- Walks: diagnosability.twin.path. -/
namespace Go.Proofs.Ytdnmpndnpfklcaa
open Go.RowKit Go Go.Maps
theorem own_lit4 (w:World) (base:Nat) (hb:base ≤ w.heap.size) (a b c d:Value) (e:TypeId):(w.alloc (.cells #[a,b,c,d] e)).ownsRow base e 4 (.slice (some ⟨w.heap.size,0,none⟩) 1 1) 1 [a,b,c,d] :=
 ⟨by simp,.inr ⟨w.heap.size,1,#[a,b,c,d],rfl,hb,heap_alloc_new w _,Nat.le_refl _,by unfold maxLen;omega,by simp,by simp⟩⟩
end Go.Proofs.Ytdnmpndnpfklcaa

/- Walks: diagnosability.twin.rank. -/
namespace Go.Proofs.Ytdnmpndnpfklcaa
open Go.RowKit Go
end Go.Proofs.Ytdnmpndnpfklcaa

/- Walks: diagnosability.twin.solve, Diagnosable, Ranks. -/
namespace Go.Proofs.Ytdnmpndnpfklcaa
open Go.RowKit Go
end Go.Proofs.Ytdnmpndnpfklcaa

/- Walks: diagnosability.Lasso. -/
namespace Go.Proofs.Ytdnmpndnpfklcaa
open Go.RowKit Go
end Go.Proofs.Ytdnmpndnpfklcaa

/- Walks: the law's examples, known. Printed by wip/mkju.py. -/
namespace Go.Proofs.Ytdnmpndnpfklcaa
open Go.RowKit Go
theorem add_lit (b j:Nat):(⟨b,0,none⟩:Addr).add j = ⟨b,j,none⟩:=by
 rw [Addr.add_mid,Nat.zero_add]
theorem rdI_blk {w:World} {b:Nat} {t:TypeId} {l:List Int} (h:Blk w b t (iv l)):RdI w w.heap.size (some ⟨b,0,none⟩) l:=fun k u hu=>⟨_,rfl,h.lt,by rw [add_lit];exact h.cell hu⟩
theorem rdR_blk {α:Type} {sz:Nat} {f:α → List Value} {w:World} {b:Nat} {t:TypeId} {l:List α} (hs:∀ x ∈ l,(f x).length = sz) (h:Blk w b t (l.flatMap f)):RdR sz f w w.heap.size (some ⟨b,0,none⟩) l :=
 fun k x hx=>⟨_,rfl,h.lt,fun j u hj=>by rw [add_lit];exact h.cell (flat_get f sz l hs k x j u hx hj)⟩
theorem rdX_blk {w:World} {b:Nat} {t:TypeId} {l:List Ed} (h:Blk w b t (l.flatMap edc)):RdX w w.heap.size (some ⟨b,0,none⟩) l:=rdR_blk (fun _ _=>rfl) h
end Go.Proofs.Ytdnmpndnpfklcaa
/- Walks: known. -/
namespace Go.Proofs.Ytdnmpndnpfklcaa
open Go.RowKit Go
end Go.Proofs.Ytdnmpndnpfklcaa

/- Walks: the events of a sketch; Make. -/
namespace Go.Proofs.Ytdnmpndnpfklcaa
open Go.RowKit Go
end Go.Proofs.Ytdnmpndnpfklcaa
/- Walks: Make of law 41: the model of a sketch. -/
namespace Go.Proofs.Ytdnmpndnpfklcaa
open Go.RowKit Go
end Go.Proofs.Ytdnmpndnpfklcaa

/- Words on sketched models; slices.Clone at events. -/
namespace Go.Proofs.Ytdnmpndnpfklcaa
open Go.RowKit Go
end Go.Proofs.Ytdnmpndnpfklcaa

/- Plain: what the law's search finds (chapter 41). -/
namespace Go.Proofs.Ytdnmpndnpfklcaa
open Go
end Go.Proofs.Ytdnmpndnpfklcaa

/- Walks: slices.IndexFunc, ContainsFunc at integers, edges, events, the closure may make memory. -/
namespace Go.Proofs.Ytdnmpndnpfklcaa
open Go.RowKit Go
end Go.Proofs.Ytdnmpndnpfklcaa

/- Walks: the law's reached, live, quiet's closures. -/
namespace Go.Proofs.Ytdnmpndnpfklcaa
open Go.RowKit Go
theorem RdI.own_at' {w:World} {B n:Nat} {v:Value} {l:List Int} {i:Nat} {s:Int} (hl:l.length = n) (h:w.ownsRow B 3 1 v n (iv l)) (hs:l[i]? = some s):∃ (oa:Addr) (oc:Nat),v = .slice (some oa) n oc∧oa.block < w.heap.size∧w.cell? (oa.add i) = some (.int .i64 s):=by
 subst hl
 obtain ⟨OA,oc,rfl,h1,h2,h3⟩:=own_slI h
 obtain ⟨ad,e1,hb,hc⟩:=h3 i (.int .i64 s) (by simp [iv,hs])
 subst e1
 exact ⟨ad,oc,rfl,hb,hc⟩
theorem rdI_own {w:World} {B n c:Nat} {A:Option Addr} {l:List Int} (hl:l.length = n) (h:w.ownsRow B 3 1 (.slice A n c) n (iv l)):RdI w w.heap.size A l:=by
 subst hl
 obtain ⟨A',c',e,_,_,h3⟩:=own_slI h
 injection e with e1 e2 e3
 subst e1
 exact h3
end Go.Proofs.Ytdnmpndnpfklcaa

/- Walks: slices.DeleteFunc at ints, with a function that captures one value (as in chapter 45); projection.Alike; steps where there is no state; diagnosability.Model.run. -/
namespace Go.Proofs.Ytdnmpndnpfklcaa
open Go.RowKit Go
end Go.Proofs.Ytdnmpndnpfklcaa
/- Walks: projection.Alike; Model.step where there is no state; diagnosability.Model.run. -/
namespace Go.Proofs.Ytdnmpndnpfklcaa
open Go.RowKit Go
end Go.Proofs.Ytdnmpndnpfklcaa
/- Walk: diagnosability.Verify. -/
namespace Go.Proofs.Ytdnmpndnpfklcaa
open Go.RowKit Go
def C5 (W:World) (b:Nat) (v0 v1 v2 v3 v4:Value):Prop:=W.cell? ⟨b,0,none⟩ = some v0∧W.cell? ⟨b,1,none⟩ = some v1∧W.cell? ⟨b,2,none⟩ = some v2∧W.cell? ⟨b,3,none⟩ = some v3∧W.cell? ⟨b,4,none⟩ = some v4
theorem Blk.c5 {w:World} {b:Nat} {t:TypeId} {v0 v1 v2 v3 v4:Value} {vs:List Value} (h:Blk w b t (v0 :: v1 :: v2 :: v3 :: v4 :: vs)):C5 w b v0 v1 v2 v3 v4:=⟨h.cell (j:=0) rfl,h.cell (j:=1) rfl,h.cell (j:=2) rfl,h.cell (j:=3) rfl,h.cell (j:=4) rfl⟩
structure IV where
 A:Option Addr
 n:Nat
 c:Nat
 l:List Int
structure IV.ok (w:World) (B:Nat) (x:IV):Prop where
 la:x.l.length = x.n
 ac:x.n ≤ x.c
 cA:x.c ≤ 9223372036854775807
 ra:RdI w B x.A x.l
theorem IV.ok.below {w w':World} {B:Nat} {x:IV} (h:x.ok w B) (hb:Below B w w'):x.ok w' B:=⟨h.la,h.ac,h.cA,h.ra.below hb⟩
theorem IV.ok.more {w:World} {B B':Nat} {x:IV} (h:x.ok w B) (hB:B ≤ B'):x.ok w B':=⟨h.la,h.ac,h.cA,h.ra.more hB⟩
end Go.Proofs.Ytdnmpndnpfklcaa

/- Plain: least numbers of steps: the search back and the search forward (chapter 28). -/
namespace Go.Proofs.Ytdnmpndnpfklcaa
open Go
inductive Dp (ed:List Ed) (N:List Bool) (ma:List Int):Int → Nat → Prop
 | mk {s:Int}:fl N s = true → s ∈ ma → Dp ed N ma s 0
 | st {x:Ed} {d:Nat}:x ∈ ed → fl N x.f = true → Dp ed N ma x.t d → Dp ed N ma x.f (d + 1)
def DisOk (ed:List Ed) (N:List Bool) (ma:List Int) (s v:Int):Prop:=(v = -1∧∀ d,¬ Dp ed N ma s d) ∨ ∃ d:Nat,v = (d:Int)∧Dp ed N ma s d∧∀ e,Dp ed N ma s e → d ≤ e
theorem DisOk.unique {ed:List Ed} {N:List Bool} {ma:List Int} {s v u:Int} (h:DisOk ed N ma s v) (k:DisOk ed N ma s u):v = u:=by
 rcases h with ⟨rfl,h⟩ | ⟨d,rfl,h1,h2⟩
 ·rcases k with ⟨rfl,_⟩ | ⟨e,rfl,k1,_⟩
  ·rfl
  ·exact absurd k1 (h e)
 ·rcases k with ⟨rfl,k⟩ | ⟨e,rfl,k1,k2⟩
  ·exact absurd h1 (k d)
  ·have:=h2 e k1
   have:=k2 d h1
   omega
theorem Dp.in_ {ed:List Ed} {N:List Bool} {ma:List Int} {s:Int} {d:Nat} (h:Dp ed N ma s d):fl N s = true:=by
 cases h with
 | mk h _=>exact h
 | st _ h _=>exact h
def preL (es:List Ed) (t:Int):List Ed:=es.filter fun x=>decide (x.t = t)
theorem preL_mem {es:List Ed} {t:Int} {x:Ed}:x ∈ preL es t ↔ x ∈ es∧x.t = t:=by unfold preL;simp
abbrev DS:=List Int × List Int
def dsX (N:List Bool) (d:Int) (s:DS) (x:Ed):DS:=if fl N x.f = true∧gI s.1 x.f < 0 then (s.1.set x.f.toNat (d + 1),s.2 ++ [x.f]) else s
def dsR (N:List Bool) (d:Int) (l:List Ed) (s:DS):DS:=l.foldl (dsX N d) s
def dsG (es:List Ed) (N:List Bool):Nat → Nat → DS → DS
 | 0,_,s=>s
 | g + 1,i,s=>match s.2[i]? with
  | none=>s
  | some k=>dsG es N g (i + 1) (dsR N (gI s.1 k) (preL es k) s)
def dsM (N:List Bool) (s:DS) (m:Int):DS:=if fl N m = true then (s.1.set m.toNat 0,s.2 ++ [m]) else s
def dsI (N:List Bool) (ma:List Int) (s:DS):DS:=ma.foldl (dsM N) s
def dsS (es:List Ed) (N:List Bool) (ma:List Int):DS:=dsG es N (N.length + 1) 0 (dsI N ma (List.replicate N.length (-1),[]))
section
variable {es:List Ed} {N:List Bool} {ma:List Int} {n i:Nat} {s:DS}
structure DsI (es:List Ed) (N:List Bool) (ma:List Int) (n i:Nat) (s:DS):Prop where
 len:s.1.length = n
 nd:s.2.Nodup
 rng:∀ k ∈ s.2,(0 ≤ k∧k < (n:Int))∧fl N k = true
 on:∀ k:Int,0 ≤ k → k < (n:Int) → (k ∈ s.2∧0 ≤ gI s.1 k) ∨ (k ∉ s.2∧gI s.1 k = -1)
 snd:∀ k ∈ s.2,Dp es N ma k (gI s.1 k).toNat
 mono:∀ (j j':Nat) (a b:Int),j ≤ j' → s.2[j]? = some a → s.2[j']? = some b → gI s.1 a ≤ gI s.1 b
 top:∀ (k b:Int),s.2[i]? = some k → b ∈ s.2 → gI s.1 b ≤ gI s.1 k + 1
 mkd:∀ m ∈ ma,fl N m = true → m ∈ s.2∧gI s.1 m = 0
 clo:∀ (j:Nat) (k:Int),j < i → s.2[j]? = some k → ∀ x ∈ es,x.t = k → fl N x.f = true → x.f ∈ s.2∧gI s.1 x.f ≤ gI s.1 k + 1
theorem nodup_snoc {l:List Int} {x:Int} (h:l.Nodup) (hx:x ∉ l):(l ++ [x]).Nodup:=by
 rw [List.nodup_append]
 exact ⟨h,by simp,fun a ha b hb e=>hx (by rw [List.mem_singleton.1 hb] at e;exact e ▸ ha)⟩
structure DsJ (N:List Bool) (pre:List Int) (n:Nat) (s:DS):Prop where
 len:s.1.length = n
 nd:s.2.Nodup
 on:∀ k:Int,0 ≤ k → k < (n:Int) → (k ∈ s.2∧gI s.1 k = 0) ∨ (k ∉ s.2∧gI s.1 k = -1)
 mem:∀ k,k ∈ s.2 ↔ k ∈ pre∧fl N k = true
theorem dsI_spec (hr:∀ m ∈ ma,0 ≤ m∧m < (n:Int)) (hnd:ma.Nodup):∀ (r pre:List Int) (s:DS),pre ++ r = ma → DsJ N pre n s → DsJ N ma n (dsI N r s)
 | [],pre,s,e,h=>by rw [List.append_nil] at e;rw [← e];exact h
 | m :: r,pre,s,e,h=>by
  have hm:m ∈ ma:=by rw [← e];simp
  have hg:=hr m hm
  have hnp:m ∉ pre:=by
   rw [← e,List.nodup_append] at hnd
   intro hp
   exact hnd.2.2 m hp m (by simp) rfl
  show DsJ N ma n (dsI N r (dsM N s m))
  refine dsI_spec hr hnd r (pre ++ [m]) _ (by rw [← e];simp) ?_
  unfold dsM
  by_cases hf:fl N m = true
  ·rw [if_pos hf]
   have hns:m ∉ s.2:=fun hs=>hnp ((h.mem m).1 hs).1
   refine ⟨by simp [h.len],nodup_snoc h.nd hns,fun k h0 h1=>?_,fun k=>?_⟩
   ·show (k ∈ s.2 ++ [m]∧gI (s.1.set m.toNat 0) k = 0) ∨ (k ∉ s.2 ++ [m]∧gI (s.1.set m.toNat 0) k = -1)
    rw [gI_set hg.1 (by rw [h.len];exact hg.2) h0]
    by_cases hk:k = m
    ·rw [if_pos hk];exact .inl ⟨by simp [hk],rfl⟩
    ·rw [if_neg hk]
     rcases h.on k h0 h1 with ⟨q1,q2⟩ | ⟨q1,q2⟩
     ·exact .inl ⟨List.mem_append_left _ q1,q2⟩
     ·exact .inr ⟨by simp [q1,hk],q2⟩
   ·show k ∈ s.2 ++ [m] ↔ _
    rw [List.mem_append,List.mem_append,h.mem k]
    constructor
    ·rintro (⟨q1,q2⟩ | q)
     ·exact ⟨.inl q1,q2⟩
     ·exact ⟨.inr q,by rw [List.mem_singleton.1 q];exact hf⟩
    ·rintro ⟨q1 | q1,q2⟩
     ·exact .inl ⟨q1,q2⟩
     ·exact .inr q1
  ·rw [if_neg hf]
   refine ⟨h.len,h.nd,h.on,fun k=>?_⟩
   rw [h.mem k,List.mem_append]
   constructor
   ·rintro ⟨q1,q2⟩;exact ⟨.inl q1,q2⟩
   ·rintro ⟨q1 | q1,q2⟩
    ·exact ⟨q1,q2⟩
    ·rw [List.mem_singleton.1 q1] at q2;exact absurd q2 hf
theorem gI_rep1 (n:Nat) (k:Int) (h0:0 ≤ k) (h1:k < (n:Int)):gI (List.replicate n (-1)) k = -1:=by
 unfold gI
 rw [List.getD_eq_getElem?_getD,List.getElem?_replicate,if_pos (by omega)]
 rfl
theorem DsI.start (hr:∀ m ∈ ma,0 ≤ m∧m < (n:Int)) (hnd:ma.Nodup):DsI es N ma n 0 (dsI N ma (List.replicate n (-1),[])):=by
 have h:=dsI_spec (N:=N) hr hnd ma [] (List.replicate n (-1),[]) rfl ⟨by simp,by simp,fun k h0 h1=>.inr ⟨by simp,gI_rep1 n k h0 h1⟩,fun k=>by simp⟩
 have hz:∀ k ∈ (dsI N ma (List.replicate n (-1),[])).2,gI (dsI N ma (List.replicate n (-1),[])).1 k = 0:=fun k hk=>by
  have hg:=hr k ((h.mem k).1 hk).1
  rcases h.on k hg.1 hg.2 with q | q
  ·exact q.2
  ·exact absurd hk q.1
 refine ⟨h.len,h.nd,fun k hk=>⟨hr k ((h.mem k).1 hk).1,((h.mem k).1 hk).2⟩,fun k h0 h1=>?_,fun k hk=>?_,fun j j' a b _ ha hb=>?_,fun k b hk hb=>?_,fun m hm hf=>?_,fun j k hj=>absurd hj (Nat.not_lt_zero _)⟩
 ·rcases h.on k h0 h1 with q | q
  ·exact .inl ⟨q.1,by rw [q.2];omega⟩
  ·exact .inr q
 ·rw [hz k hk];exact .mk ((h.mem k).1 hk).2 ((h.mem k).1 hk).1
 ·rw [hz a (List.mem_of_getElem? ha),hz b (List.mem_of_getElem? hb)];omega
 ·rw [hz b hb,hz k (List.mem_of_getElem? hk)];omega
 ·have:=(h.mem m).2 ⟨hm,hf⟩
  exact ⟨this,hz m this⟩
structure DsQ (es:List Ed) (N:List Bool) (ma:List Int) (n i:Nat) (k:Int) (pre:List Ed) (s:DS):Prop where
 o:DsI es N ma n i s
 at_:s.2[i]? = some k
 row:∀ x ∈ pre,fl N x.f = true → x.f ∈ s.2∧gI s.1 x.f ≤ gI s.1 k + 1
theorem DsQ.step (he:∀ x ∈ es,(0 ≤ x.f∧x.f < (n:Int))∧(0 ≤ x.t∧x.t < (n:Int))) {k:Int} {pre:List Ed} (h:DsQ es N ma n i k pre s) {x:Ed} (hx:x ∈ es) (hxt:x.t = k):DsQ es N ma n i k (pre ++ [x]) (dsX N (gI s.1 k) s x)∧gI (dsX N (gI s.1 k) s x).1 k = gI s.1 k:=by
 have hxe:=he x hx
 have hkm:=List.mem_of_getElem? h.at_
 have hil:=(List.getElem?_eq_some_iff.1 h.at_).1
 unfold dsX
 by_cases hc:fl N x.f = true∧gI s.1 x.f < 0
 ·rw [if_pos hc]
  have hns:x.f ∉ s.2:=fun hs=>by
   rcases h.o.on x.f hxe.1.1 hxe.1.2 with q | q
   ·omega
   ·exact q.1 hs
  have hk0:0 ≤ gI s.1 k:=by
   rcases h.o.on k (h.o.rng k hkm).1.1 (h.o.rng k hkm).1.2 with q | q
   ·exact q.2
   ·exact absurd hkm q.1
  have hst:∀ b:Int,0 ≤ b → gI (s.1.set x.f.toNat (gI s.1 k + 1)) b = if b = x.f then gI s.1 k + 1 else gI s.1 b:=fun b h0=>gI_set hxe.1.1 (by rw [h.o.len];exact hxe.1.2) h0
  have hold:∀ b ∈ s.2,gI (s.1.set x.f.toNat (gI s.1 k + 1)) b = gI s.1 b:=fun b hb=>by
   have hbx:b ≠ x.f:=fun e=>hns (by rw [← e];exact hb)
   rw [hst b (h.o.rng b hb).1.1,if_neg hbx]
  have hnew:gI (s.1.set x.f.toNat (gI s.1 k + 1)) x.f = gI s.1 k + 1:=by rw [hst _ hxe.1.1,if_pos rfl]
  have hsnoc:∀ (j:Nat) (b:Int),(s.2 ++ [x.f])[j]? = some b → (s.2[j]? = some b∧j < s.2.length) ∨ (b = x.f∧j = s.2.length):=fun j b hb=>by
   rcases Nat.lt_or_ge j s.2.length with h1 | h1
   ·rw [List.getElem?_append_left h1] at hb;exact .inl ⟨hb,h1⟩
   ·rw [List.getElem?_append_right h1] at hb
    have hj:j - s.2.length = 0:=by
     have:=(List.getElem?_eq_some_iff.1 hb).1
     simp at this
     omega
    rw [hj] at hb
    simp at hb
    exact .inr ⟨hb.symm,by omega⟩
  refine ⟨⟨⟨by simp [h.o.len],nodup_snoc h.o.nd hns,fun b hb=>?_,fun b h0 h1=>?_,fun b hb=>?_,fun j j' a b hjj ha hb=>?_,fun a b ha hb=>?_,fun m hm hf=>?_,fun j b hj hb y hy hyt hyf=>?_⟩,?_,fun y hy hf=>?_⟩,hold k hkm⟩
  ·rcases List.mem_append.1 hb with hb | hb
   ·exact h.o.rng b hb
   ·rw [List.mem_singleton.1 hb];exact ⟨hxe.1,hc.1⟩
  ·show (b ∈ s.2 ++ [x.f]∧0 ≤ gI (s.1.set x.f.toNat (gI s.1 k + 1)) b) ∨ (b ∉ s.2 ++ [x.f]∧gI (s.1.set x.f.toNat (gI s.1 k + 1)) b = -1)
   rw [hst b h0]
   by_cases hb:b = x.f
   ·rw [if_pos hb];exact .inl ⟨by simp [hb],by omega⟩
   ·rw [if_neg hb]
    rcases h.o.on b h0 h1 with q | q
    ·exact .inl ⟨List.mem_append_left _ q.1,q.2⟩
    ·exact .inr ⟨by simp [q.1,hb],q.2⟩
  ·show Dp es N ma b (gI (s.1.set x.f.toNat (gI s.1 k + 1)) b).toNat
   rcases List.mem_append.1 hb with hb | hb
   ·rw [hold b hb];exact h.o.snd b hb
   ·rw [List.mem_singleton.1 hb,hnew,show (gI s.1 k + 1).toNat = (gI s.1 k).toNat + 1 by omega]
    exact .st hx hc.1 (by rw [hxt];exact h.o.snd k hkm)
  ·show gI (s.1.set x.f.toNat (gI s.1 k + 1)) a ≤ gI (s.1.set x.f.toNat (gI s.1 k + 1)) b
   rcases hsnoc j a ha with ⟨ha,hja⟩ | ⟨rfl,hja⟩
   ·rcases hsnoc j' b hb with ⟨hb,hjb⟩ | ⟨rfl,hjb⟩
    ·rw [hold a (List.mem_of_getElem? ha),hold b (List.mem_of_getElem? hb)]
     exact h.o.mono j j' a b hjj ha hb
    ·rw [hold a (List.mem_of_getElem? ha),hnew]
     exact h.o.top k a h.at_ (List.mem_of_getElem? ha)
   ·rcases hsnoc j' b hb with ⟨hb,hjb⟩ | ⟨rfl,hjb⟩
    ·omega
    ·omega
  ·show gI (s.1.set x.f.toNat (gI s.1 k + 1)) b ≤ gI (s.1.set x.f.toNat (gI s.1 k + 1)) a + 1
   rcases hsnoc i a ha with ⟨ha,_⟩ | ⟨_,hj⟩
   ·rw [h.at_] at ha
    injection ha with ha
    subst ha
    rw [hold k hkm]
    rcases List.mem_append.1 hb with hb | hb
    ·rw [hold b hb];exact h.o.top k b h.at_ hb
    ·rw [List.mem_singleton.1 hb,hnew];omega
   ·omega
  ·have:=h.o.mkd m hm hf
   exact ⟨List.mem_append_left _ this.1,by show gI (s.1.set x.f.toNat (gI s.1 k + 1)) m = 0;rw [hold m this.1];exact this.2⟩
  ·show y.f ∈ s.2 ++ [x.f]∧gI (s.1.set x.f.toNat (gI s.1 k + 1)) y.f ≤ gI (s.1.set x.f.toNat (gI s.1 k + 1)) b + 1
   rcases hsnoc j b hb with ⟨hb,_⟩ | ⟨_,hj2⟩
   ·have:=h.o.clo j b hj hb y hy hyt hyf
    rw [hold y.f this.1,hold b (List.mem_of_getElem? hb)]
    exact ⟨List.mem_append_left _ this.1,this.2⟩
   ·omega
  ·show (s.2 ++ [x.f])[i]? = some k
   rw [List.getElem?_append_left hil];exact h.at_
  ·show y.f ∈ s.2 ++ [x.f]∧gI (s.1.set x.f.toNat (gI s.1 k + 1)) y.f ≤ gI (s.1.set x.f.toNat (gI s.1 k + 1)) k + 1
   rw [hold k hkm]
   rcases List.mem_append.1 hy with hy | hy
   ·have:=h.row y hy hf
    rw [hold y.f this.1]
    exact ⟨List.mem_append_left _ this.1,this.2⟩
   ·rw [List.mem_singleton.1 hy,hnew]
    exact ⟨by simp,by omega⟩
 ·rw [if_neg hc]
  refine ⟨⟨h.o,h.at_,fun y hy hf=>?_⟩,rfl⟩
  rcases List.mem_append.1 hy with hy | hy
  ·exact h.row y hy hf
  ·rw [List.mem_singleton.1 hy] at hf ⊢
   rcases h.o.on x.f hxe.1.1 hxe.1.2 with q | q
   ·exact ⟨q.1,h.o.top k x.f h.at_ q.1⟩
   ·exact absurd ⟨hf,by omega⟩ hc
theorem DsQ.rows (he:∀ x ∈ es,(0 ≤ x.f∧x.f < (n:Int))∧(0 ≤ x.t∧x.t < (n:Int))) {k d:Int}:∀ (r pre:List Ed) (s:DS),(∀ x ∈ r,x ∈ es∧x.t = k) → gI s.1 k = d → DsQ es N ma n i k pre s → DsQ es N ma n i k (pre ++ r) (dsR N d r s)
 | [],pre,s,_,_,h=>by rw [List.append_nil];exact h
 | x :: r,pre,s,hr,hd,h=>by
  obtain ⟨h1,h2⟩:=h.step he (hr x List.mem_cons_self).1 (hr x List.mem_cons_self).2
  rw [hd] at h1 h2
  have:=DsQ.rows he r (pre ++ [x]) (dsX N d s x) (fun y hy=>hr y (List.mem_cons_of_mem _ hy)) h2 h1
  rw [List.append_assoc] at this
  exact this
theorem DsI.round (he:∀ x ∈ es,(0 ≤ x.f∧x.f < (n:Int))∧(0 ≤ x.t∧x.t < (n:Int))) (h:DsI es N ma n i s) {k:Int} (hk:s.2[i]? = some k):DsI es N ma n (i + 1) (dsR N (gI s.1 k) (preL es k) s):=by
 have hq:=DsQ.rows he (preL es k) [] s (fun x hx=>preL_mem.1 hx) rfl ⟨h,hk,fun x hx=>by cases hx⟩
 rw [List.nil_append] at hq
 obtain ⟨o,a,r⟩:=hq
 refine ⟨o.len,o.nd,o.rng,o.on,o.snd,o.mono,fun b c hb hc=>?_,o.mkd,fun j b hj hb x hx hxt hf=>?_⟩
 ·have h1:=o.mono i (i + 1) k b (by omega) a hb
  have h2:=o.top k c a hc
  omega
 ·rcases Nat.lt_or_ge j i with h1 | h1
  ·exact o.clo j b h1 hb x hx hxt hf
  ·obtain rfl:j = i:=by omega
   rw [a] at hb
   injection hb with hb
   subst hb
   exact r x (preL_mem.2 ⟨hx,hxt⟩) hf
theorem DsI.qlen (h:DsI es N ma n i s):s.2.length ≤ n:=by
 have:=nodup_le (m:=rngI (n:Int)) h.nd (fun k hk=>rngI_mem.2 (h.rng k hk).1)
 rwa [rngI_len,Int.toNat_natCast] at this
theorem DsI.fin (h:DsI es N ma n i s) (hi:s.2.length ≤ i) {k:Int} (h0:0 ≤ k) (h1:k < (n:Int)):DisOk es N ma k (gI s.1 k):=by
 have hle:∀ (k:Int) (d:Nat),Dp es N ma k d → k ∈ s.2∧gI s.1 k ≤ (d:Int):=fun k d hd=>by
  induction hd with
  | mk hf hm=>have:=h.mkd _ hm hf;exact ⟨this.1,by omega⟩
  | st hx hf _ ih =>
   obtain ⟨j,hj⟩:=List.getElem?_of_mem ih.1
   have:=h.clo j _ (by have:=(List.getElem?_eq_some_iff.1 hj).1;omega) hj _ hx rfl hf
   exact ⟨this.1,by omega⟩
 rcases h.on k h0 h1 with ⟨q1,q2⟩ | ⟨q1,q2⟩
 ·exact .inr ⟨(gI s.1 k).toNat,by omega,h.snd k q1,fun e he=>by have:=(hle k e he).2;omega⟩
 ·exact .inl ⟨q2,fun d hd=>q1 (hle k d hd).1⟩
theorem dsG_spec (he:∀ x ∈ es,(0 ≤ x.f∧x.f < (n:Int))∧(0 ≤ x.t∧x.t < (n:Int))):∀ (g i:Nat) (s:DS),DsI es N ma n i s → n + 1 ≤ g + i → (dsG es N g i s).1.length = n∧∀ k:Int,0 ≤ k → k < (n:Int) → DisOk es N ma k (gI (dsG es N g i s).1 k)
 | 0,i,s,h,hg=>⟨h.len,fun k h0 h1=>h.fin (by have:=h.qlen;omega) h0 h1⟩
 | g + 1,i,s,h,hg=>by
  unfold dsG
  cases hk:s.2[i]? with
  | none=>exact ⟨h.len,fun k h0 h1=>h.fin (List.getElem?_eq_none_iff.1 hk) h0 h1⟩
  | some k=>exact dsG_spec he g (i + 1) _ (h.round he hk) (by omega)
theorem dsS_spec (he:∀ x ∈ es,(0 ≤ x.f∧x.f < (N.length:Int))∧(0 ≤ x.t∧x.t < (N.length:Int))) (hr:∀ m ∈ ma,0 ≤ m∧m < (N.length:Int)) (hnd:ma.Nodup) :
  (dsS es N ma).1.length = N.length∧∀ k:Int,0 ≤ k → k < (N.length:Int) → DisOk es N ma k (gI (dsS es N ma).1 k) :=
 dsG_spec he (N.length + 1) 0 _ (DsI.start hr hnd) (by omega)
end
end Go.Proofs.Ytdnmpndnpfklcaa

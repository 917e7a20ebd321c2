/- Walks: classed, reach.Dead, automaton.Step, the model's step, Live. Printed by wip/mkjb.py. -/
import Derived.Test.YtdnmpndnpfklcaaUf
import Derived.Test.YtdnmpndnpfklcaaIa
import Derived.Test.YtdnmpndnpfklcaaUk
import Derived.BigQuiet
import Derived.Maps.Own
import Derived.Maps.OwnOps
import Derived.Maps.OwnSet
import Derived.Test.YtdnmpndnpfklcaaMi
import Derived.Deep.Cut
import Derived.Deep.AppendLies
import Derived.Deep.RegionLaw
import Derived.Deep.CutRange
import Derived.Deep.CutBlock
import Derived.WideKeyEntry
import Derived.Test.YtdnmpndnpfklcaaUr
import Derived.Deep.MidRow
import Derived.Lib.SliceRun

namespace Go.Proofs.Ytdnmpndnpfklcaa
open Go.RowKit Go
def RetLE (l:List Int) (w:World) (e:Ending) (w':World):Prop:=∃ v,e = .returned (.tuple #[v,.int .i64 0])∧w'.ownsRow w.heap.size 3 1 v l.length (iv l)∧Below w.heap.size w w'
end Go.Proofs.Ytdnmpndnpfklcaa
/- Walks: diagnosability.Live. Printed by wip/mkjc.py. -/
namespace Go.Proofs.Ytdnmpndnpfklcaa
open Go.RowKit Go
theorem rngI_snoc (k:Nat):rngI ((k + 1:Nat):Int) = rngI (k:Int) ++ [(k:Int)]:=by
 unfold rngI
 rw [Int.toNat_natCast,Int.toNat_natCast,List.range_succ,List.map_append]
 rfl
end Go.Proofs.Ytdnmpndnpfklcaa

/- Walks: alphabet.chosen, alphabet.Select: a map of functions. -/
namespace Go.Proofs.Ytdnmpndnpfklcaa
open Go.RowKit Go Go.Maps
end Go.Proofs.Ytdnmpndnpfklcaa

/- Walks: diagnosability's Quiet, settled. Printed by wip/mkje.py. -/
namespace Go.Proofs.Ytdnmpndnpfklcaa
open Go.RowKit Go
end Go.Proofs.Ytdnmpndnpfklcaa

/- Walks: forcing.Check; a system as a value. -/
namespace Go.Proofs.Ytdnmpndnpfklcaa
open Go.RowKit Go
end Go.Proofs.Ytdnmpndnpfklcaa

/- Walks: forcing.Loop, forcing.open; two rows that grow apart; tuples of two do not lie in a zero automaton's block. -/
namespace Go.Proofs.Ytdnmpndnpfklcaa
open Go.RowKit Go Go.Maps
end Go.Proofs.Ytdnmpndnpfklcaa

/- Walks: the law's step, all, ends; diagnosability.words. Printed by wip/mkjf.py. -/
namespace Go.Proofs.Ytdnmpndnpfklcaa
open Go.RowKit Go
end Go.Proofs.Ytdnmpndnpfklcaa

/- Walks: diagnosability.Model.moves. Printed by wip/mkjg.py. -/
namespace Go.Proofs.Ytdnmpndnpfklcaa
open Go.RowKit Go

/- two chains, each a literal of one element and an append of it, that come up in any order -/
end Go.Proofs.Ytdnmpndnpfklcaa

/- Walks: diagnosability.Twin: the twin plant of a class of faults. -/
namespace Go.Proofs.Ytdnmpndnpfklcaa
open Go.RowKit Go Go.Maps
end Go.Proofs.Ytdnmpndnpfklcaa

/- Plain words on rank, and the opened twin plant in memory. -/
namespace Go.Proofs.Ytdnmpndnpfklcaa
open Go.RowKit Go
theorem iv_gI {l:List Int} {i:Nat} (h:i < l.length):(iv l)[i]? = some (.int .i64 (gI l (i:Int))):=by
 unfold iv gI
 rw [List.getElem?_map,Int.toNat_natCast,List.getD_eq_getElem?_getD,List.getElem?_eq_getElem h];rfl
end Go.Proofs.Ytdnmpndnpfklcaa

/- Walks: slices.Reverse at moves. -/
namespace Go.Proofs.Ytdnmpndnpfklcaa
open Go.RowKit Go
def setL:List Value → Nat → List Value → List Value
 | L,_,[]=>L
 | L,o,v :: vs=>setL (L.set o v) (o + 1) vs
theorem setL_app:∀ (vs A B:List Value) (o:Nat),setL (A ++ B) (A.length + o) vs = A ++ setL B o vs
 | [],_,_,_=>rfl
 | v :: vs,A,B,o=>by
  rw [setL,setL,List.set_append,if_neg (by omega),show A.length + o - A.length = o by omega]
  exact setL_app vs A (B.set o v) (o + 1)
theorem Blk.sets {b:Nat} {t:TypeId}:∀ (vs:List Value) {w:World} {L:List Value} {o:Nat},Blk w b t L → o + vs.length ≤ L.length → Blk (w.setCells b o vs) b t (setL L o vs)∧w.grownBy (w.setCells b o vs) (some b)
 | [],w,L,o,h,_=>⟨h,grown_refl _ _⟩
 | v :: vs,w,L,o,h,hl=>by
  rw [List.length_cons] at hl
  have h1:=h.set (j:=o) (by omega) v
  obtain ⟨h2,h3⟩:=Blk.sets vs h1 (o:=o + 1) (by rw [List.length_set];omega)
  exact ⟨h2,(grown_setCell w b o v).trans h3⟩
theorem Blk.there {b:Nat} {t:TypeId} {w:World} {L:List Value} (h:Blk w b t L) {o n:Nat} (hl:o + n ≤ L.length):w.there b o n:=fun i hi=>by
 have h1:=h.cell (j:=o + i) (List.getElem?_eq_getElem (by omega))
 have h2:=h.free (o + i)
 exact ⟨by rw [h1];rfl,h2⟩
theorem step_store {P:Program} {ops:Array Oper} {o:Oper} {a:Act} {K:Act → World → Prop} {Q:Exit → Act → World → Prop} {E:Prop} {w:World} (hgd:o.guard = none) (ty:TypeId) (x y:Operand) (ho:o.op = .store ty x y)
  (b of:Nat) (cells:Array Value) (hx:a.eval x = .pointer (some ⟨b,of,none⟩)) (hy:a.eval y = .agg cells) (ht:w.there b of cells.size) (hi:(P.info? ty).map (·.size) = some cells.size) (h1:cells.all (·.oneCell') = true)
  (h:K (a.put o.dst undef) (w.setCells b of cells.toList)):if Region.wanted o (yielded ops a.tmps) = true then Oper.wp P o a w K Q else E:=by
 rw [if_pos (by simp [Region.wanted,hgd])]
 exact wp_store_mid ty x y ho b of cells hx hy ht hi h1 h
end Go.Proofs.Ytdnmpndnpfklcaa
/- Words on maps from ints to moves; the memory of diagnosability.twin.path. -/
namespace Go.Proofs.Ytdnmpndnpfklcaa
open Go.RowKit Go Go.Maps
theorem intLaw:Keyed Try.prog 3:=int_keyed Try.underlying3
theorem intKey (c:Int) (h:(Lit.int .i64 c).wf = true):∃ kl,keyOf Try.prog 3 (.int .i64 c) = some kl:=⟨_,keyOf_int_mk Try.underlying3 h⟩
end Go.Proofs.Ytdnmpndnpfklcaa

/- Walks: diagnosability.Model.moves. Printed by wip/mkjg.py. -/
namespace Go.Proofs.Ytdnmpndnpfklcaa
open Go.RowKit Go
end Go.Proofs.Ytdnmpndnpfklcaa

/- Walks: diagnosability.Twin at a right model and class. -/
namespace Go.Proofs.Ytdnmpndnpfklcaa
open Go.RowKit Go Go.Maps
end Go.Proofs.Ytdnmpndnpfklcaa

/- Words on diagnosability.open: three rows made in any order; the moves of each pair, gathered. -/
namespace Go.Proofs.Ytdnmpndnpfklcaa
open Go.RowKit Go
end Go.Proofs.Ytdnmpndnpfklcaa
/- Walks: diagnosability.open. -/
namespace Go.Proofs.Ytdnmpndnpfklcaa
open Go.RowKit Go
end Go.Proofs.Ytdnmpndnpfklcaa

/- Walks: diagnosability.twin.path. -/
namespace Go.Proofs.Ytdnmpndnpfklcaa
open Go.RowKit Go Go.Maps
theorem own_lit4 (w:World) (base:Nat) (hb:base ≤ w.heap.size) (a b c d:Value) (e:TypeId):(w.alloc (.cells #[a,b,c,d] e)).ownsRow base e 4 (.slice (some ⟨w.heap.size,0,none⟩) 1 1) 1 [a,b,c,d] :=
 ⟨by simp,.inr ⟨w.heap.size,1,#[a,b,c,d],rfl,hb,heap_alloc_new w _,Nat.le_refl _,by unfold maxLen;omega,by simp,by simp⟩⟩
theorem own_some {w:World} {base:Nat} {e:TypeId} {size n k c:Nat} {A:Option Addr} {xs:List Value} (h:w.ownsRow base e size (.slice A k c) n xs) (hn:0 < n):∃ ad,A = some ad:=by
 rcases h.2 with ⟨h1,h2⟩ | ⟨q,cap,cur,h1,_⟩
 ·omega
 ·injection h1 with h1;exact ⟨_,h1⟩
end Go.Proofs.Ytdnmpndnpfklcaa

/- Walks: diagnosability.twin.rank. -/
namespace Go.Proofs.Ytdnmpndnpfklcaa
open Go.RowKit Go
end Go.Proofs.Ytdnmpndnpfklcaa

/- Walks: diagnosability.twin.solve, Diagnosable, Ranks. -/
namespace Go.Proofs.Ytdnmpndnpfklcaa
open Go.RowKit Go
end Go.Proofs.Ytdnmpndnpfklcaa

/- Walks: diagnosability.Lasso. -/
namespace Go.Proofs.Ytdnmpndnpfklcaa
open Go.RowKit Go
end Go.Proofs.Ytdnmpndnpfklcaa

/- Walks: the law's examples, known. Printed by wip/mkju.py. -/
namespace Go.Proofs.Ytdnmpndnpfklcaa
open Go.RowKit Go
theorem add_lit (b j:Nat):(⟨b,0,none⟩:Addr).add j = ⟨b,j,none⟩:=by
 rw [Addr.add_mid,Nat.zero_add]
theorem rdI_blk {w:World} {b:Nat} {t:TypeId} {l:List Int} (h:Blk w b t (iv l)):RdI w w.heap.size (some ⟨b,0,none⟩) l:=fun k u hu=>⟨_,rfl,h.lt,by rw [add_lit];exact h.cell hu⟩
theorem rdR_blk {α:Type} {sz:Nat} {f:α → List Value} {w:World} {b:Nat} {t:TypeId} {l:List α} (hs:∀ x ∈ l,(f x).length = sz) (h:Blk w b t (l.flatMap f)):RdR sz f w w.heap.size (some ⟨b,0,none⟩) l :=
 fun k x hx=>⟨_,rfl,h.lt,fun j u hj=>by rw [add_lit];exact h.cell (flat_get f sz l hs k x j u hx hj)⟩
theorem rdX_blk {w:World} {b:Nat} {t:TypeId} {l:List Ed} (h:Blk w b t (l.flatMap edc)):RdX w w.heap.size (some ⟨b,0,none⟩) l:=rdR_blk (fun _ _=>rfl) h
end Go.Proofs.Ytdnmpndnpfklcaa
/- Walks: known. -/
namespace Go.Proofs.Ytdnmpndnpfklcaa
open Go.RowKit Go
end Go.Proofs.Ytdnmpndnpfklcaa

/- Walks: the events of a sketch; Make. -/
namespace Go.Proofs.Ytdnmpndnpfklcaa
open Go.RowKit Go
end Go.Proofs.Ytdnmpndnpfklcaa
/- Walks: Make of law 41: the model of a sketch. -/
namespace Go.Proofs.Ytdnmpndnpfklcaa
open Go.RowKit Go
end Go.Proofs.Ytdnmpndnpfklcaa

/- Words on sketched models; slices.Clone at events. -/
namespace Go.Proofs.Ytdnmpndnpfklcaa
open Go.RowKit Go
end Go.Proofs.Ytdnmpndnpfklcaa

/- Plain: what the law's search finds (chapter 41). -/
namespace Go.Proofs.Ytdnmpndnpfklcaa
open Go
end Go.Proofs.Ytdnmpndnpfklcaa

/- Walks: slices.IndexFunc, ContainsFunc at integers, edges, events, the closure may make memory. -/
namespace Go.Proofs.Ytdnmpndnpfklcaa
open Go.RowKit Go
end Go.Proofs.Ytdnmpndnpfklcaa

/- Walks: the law's reached, live, quiet's closures. -/
namespace Go.Proofs.Ytdnmpndnpfklcaa
open Go.RowKit Go
theorem RdI.own_at' {w:World} {B n:Nat} {v:Value} {l:List Int} {i:Nat} {s:Int} (hl:l.length = n) (h:w.ownsRow B 3 1 v n (iv l)) (hs:l[i]? = some s):∃ (oa:Addr) (oc:Nat),v = .slice (some oa) n oc∧oa.block < w.heap.size∧w.cell? (oa.add i) = some (.int .i64 s):=by
 subst hl
 obtain ⟨OA,oc,rfl,h1,h2,h3⟩:=own_slI h
 obtain ⟨ad,e1,hb,hc⟩:=h3 i (.int .i64 s) (by simp [iv,hs])
 subst e1
 exact ⟨ad,oc,rfl,hb,hc⟩
theorem rdI_own {w:World} {B n c:Nat} {A:Option Addr} {l:List Int} (hl:l.length = n) (h:w.ownsRow B 3 1 (.slice A n c) n (iv l)):RdI w w.heap.size A l:=by
 subst hl
 obtain ⟨A',c',e,_,_,h3⟩:=own_slI h
 injection e with e1 e2 e3
 subst e1
 exact h3
end Go.Proofs.Ytdnmpndnpfklcaa

/- Walks: slices.DeleteFunc at ints, with a function that captures one value (as in chapter 45); projection.Alike; steps where there is no state; diagnosability.Model.run. -/
namespace Go.Proofs.Ytdnmpndnpfklcaa
open Go.RowKit Go
end Go.Proofs.Ytdnmpndnpfklcaa
/- Walks: projection.Alike; Model.step where there is no state; diagnosability.Model.run. -/
namespace Go.Proofs.Ytdnmpndnpfklcaa
open Go.RowKit Go
end Go.Proofs.Ytdnmpndnpfklcaa
/- Walk: diagnosability.Verify. -/
namespace Go.Proofs.Ytdnmpndnpfklcaa
open Go.RowKit Go
def C5 (W:World) (b:Nat) (v0 v1 v2 v3 v4:Value):Prop:=W.cell? ⟨b,0,none⟩ = some v0∧W.cell? ⟨b,1,none⟩ = some v1∧W.cell? ⟨b,2,none⟩ = some v2∧W.cell? ⟨b,3,none⟩ = some v3∧W.cell? ⟨b,4,none⟩ = some v4
theorem Blk.c5 {w:World} {b:Nat} {t:TypeId} {v0 v1 v2 v3 v4:Value} {vs:List Value} (h:Blk w b t (v0 :: v1 :: v2 :: v3 :: v4 :: vs)):C5 w b v0 v1 v2 v3 v4:=⟨h.cell (j:=0) rfl,h.cell (j:=1) rfl,h.cell (j:=2) rfl,h.cell (j:=3) rfl,h.cell (j:=4) rfl⟩
structure IV where
 A:Option Addr
 n:Nat
 c:Nat
 l:List Int
structure IV.ok (w:World) (B:Nat) (x:IV):Prop where
 la:x.l.length = x.n
 ac:x.n ≤ x.c
 cA:x.c ≤ 9223372036854775807
 ra:RdI w B x.A x.l
theorem IV.ok.below {w w':World} {B:Nat} {x:IV} (h:x.ok w B) (hb:Below B w w'):x.ok w' B:=⟨h.la,h.ac,h.cA,h.ra.below hb⟩
theorem IV.ok.more {w:World} {B B':Nat} {x:IV} (h:x.ok w B) (hB:B ≤ B'):x.ok w B':=⟨h.la,h.ac,h.cA,h.ra.more hB⟩
end Go.Proofs.Ytdnmpndnpfklcaa

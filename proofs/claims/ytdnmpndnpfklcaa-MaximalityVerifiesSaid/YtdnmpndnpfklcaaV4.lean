/- A slice of changes that came in. -/
import Derived.Test.YtdnmpndnpfklcaaBn
namespace Go.Proofs.Ytdnmpndnpfklcaa
open Go.ChangeShapes Go.WideShapes Go.ChangeAt Go.RowKit Go.Deep Go
structure Ch where
 wh:Int
 qa:Int
 qb:Int
def chc (c:Ch):List Value:=[.int .u8 c.wh,.int .u8 c.qa,.int .i8 c.qb]
def Ch.ok (c:Ch):Prop:=(0 ≤ c.wh∧c.wh ≤ 255)∧(0 ≤ c.qa∧c.qa ≤ 255)∧-128 ≤ c.qb∧c.qb ≤ 127
def ChArg (w:World) (A:Option Addr) (len cap:Nat) (l:List Ch):Prop:=l.length = len∧len ≤ cap∧cap ≤ 9223372036854775807∧RdR 3 chc w w.heap.size A l∧∀ c ∈ l,c.ok
theorem ChArg.below {w w':World} {A:Option Addr} {len cap:Nat} {l:List Ch} (h:ChArg w A len cap l) (hb:Below w.heap.size w w'):ChArg w' A len cap l:=⟨h.1,h.2.1,h.2.2.1,(h.2.2.2.1.below hb).more hb.size,h.2.2.2.2⟩
theorem i8_wf {z:Int} (h:(Lit.int .i8 z).wf = true):-128 ≤ z∧z ≤ 127:=by
 simp [Lit.wf,IntKind.min,IntKind.max,IntKind.bits,IntKind.signed] at h
 omega
section
variable {H:Type} {enc:TypeId × Value → H} {W:World} {spare:Nat → Bool} {held:Bool}
theorem chArg_of {t e:TypeId} {f0 f1 f2:Field} {a:Option Addr} {len cap:Nat} {d:DataW H} {p:List MemPlace} (ht:Try.prog.underlying t = some (.slice e)) (he:Try.prog.underlying e = some (.struct #[f0,f1,f2]))
  (hone:oneCellFields Try.prog #[f0,f1,f2] = true) (hC:Try.prog.cellsOf e = 3) (h0:Try.prog.underlying f0.type = some (.int .u8)) (h1:Try.prog.underlying f1.type = some (.int .u8)) (h2:Try.prog.underlying f2.type = some (.int .i8))
  (h:DataW.Trod enc Try.prog W 0 spare held t (.slice a len cap) d p) (hsp:∀ b,spare b = true):∃ l:List Ch,ChArg W a len cap l:=by
 obtain ⟨fuel,hf⟩:=h
 rcases open_slice_fields ht he hone hC hf with hcs | ⟨x,n,c,m,hcs,hl,hm,hmm,hi⟩
 ·simp [Value.cells] at hcs
  obtain ⟨rfl,rfl,rfl⟩:=hcs
  exact ⟨[],rfl,Nat.le_refl _,by omega,RdR.nil,fun c hc=>by cases hc⟩
 ·simp [Value.cells] at hcs
  obtain ⟨rfl,rfl,rfl⟩:=hcs
  have hmc:len ≤ m:=by rw [hmm,hsp];exact hl
  obtain ⟨l,hll,hp⟩:=list_of (P:=fun (i:Nat) (e:Ch)=>(x.block < W.heap.size∧∀ j u,(chc e)[j]? = some u → W.cell? (x.add (i * 3 + j)) = some u)∧e.ok) len (fun i hil=>by
   obtain ⟨k,hk⟩:=hi i (by omega)
   obtain ⟨v0,y0,c0,t0⟩:=hk 0 f0 rfl
   obtain ⟨v1,y1,c1,t1⟩:=hk 1 f1 rfl
   obtain ⟨v2,y2,c2,t2⟩:=hk 2 f2 rfl
   obtain ⟨n0,e0,_,r0⟩:=DataW.trod_int h0 t0
   obtain ⟨n1,e1,_,r1⟩:=DataW.trod_int h1 t1
   obtain ⟨n2,e2,_,r2⟩:=DataW.trod_int h2 t2
   simp only [List.cons.injEq,and_true] at e0 e1 e2
   subst e0 e1 e2
   refine ⟨⟨n0,n1,n2⟩,⟨?_,fun j u hj=>?_⟩,u8_wf r0,u8_wf r1,i8_wf r2⟩
   ·have:=World.block_lt_of_cell? W _ c0
    rwa [block_of_add] at this
   ·match j,hj with
    | 0,hj=>simp [chc] at hj;subst hj;exact c0
    | 1,hj=>simp [chc] at hj;subst hj;exact c1
    | 2,hj=>simp [chc] at hj;subst hj;exact c2)
  refine ⟨l,hll,hl,by simpa [maxLen] using hm,fun k e hk=>?_,fun c hc=>?_⟩
  ·obtain ⟨⟨h1,h2⟩,_⟩:=hp k e hk
   exact ⟨x,rfl,h1,h2⟩
  ·obtain ⟨k,hk⟩:=List.getElem?_of_mem hc
   exact (hp k c hk).2
end
end Go.Proofs.Ytdnmpndnpfklcaa

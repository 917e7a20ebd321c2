/- From a row's readings to the walks' words: slices of integers that came in. -/
import Derived.Test.YtdnmpndnpfklcaaRows
import Derived.Test.YtdnmpndnpfklcaaBase
import Derived.ProofKit
import Derived.OpenShut
import Derived.ShutString
import Derived.ChangeOld
import Derived.Deep.Slices
import Derived.Deep.Fields
import Derived.ChangeSame
import Derived.ChangeMaps5
import Derived.Test.YtdnmpndnpfklcaaAa
namespace Go.Proofs.Ytdnmpndnpfklcaa
open Go.ChangeShapes Go.WideShapes Go.ChangeAt Go.RowKit Go
theorem own:ownKnob Try.prog.godebug = none:=by kernel_rfl
theorem laidOut:laidOutB Try.prog = true:=by kernel_rfl
end Go.Proofs.Ytdnmpndnpfklcaa
/- From a row's readings to the walks' words: slices of slices of ints. -/
namespace Go.Proofs.Ytdnmpndnpfklcaa
open Go.ChangeShapes Go.WideShapes Go.ChangeAt Go.RowKit Go.Deep Go
theorem list_of {α:Type} {P:Nat → α → Prop}:∀ (n:Nat),(∀ i,i < n → ∃ e,P i e) → ∃ l:List α,l.length = n∧∀ k e,l[k]? = some e → P k e
 | 0,_=>⟨[],rfl,fun k e h=>by simp at h⟩
 | n + 1,h=>by
  obtain ⟨l,hl,hp⟩:=list_of n (fun i hi=>h i (by omega))
  obtain ⟨e,he⟩:=h n (by omega)
  refine ⟨l ++ [e],by simp [hl],fun k u hk=>?_⟩
  rcases Nat.lt_or_ge k n with h1 | h1
  ·rw [List.getElem?_append_left (by omega)] at hk
   exact hp k u hk
  ·rw [List.getElem?_append_right (by omega),hl] at hk
   have:k = n:=by
    rcases Nat.lt_or_ge k (n + 1) with h2 | h2
    ·omega
    ·rw [List.getElem?_eq_none (by simp;omega)] at hk;cases hk
   subst this
   simp at hk
   subst hk
   exact he
end Go.Proofs.Ytdnmpndnpfklcaa
/- From a row's readings to the walks' words: slices of automata. -/
namespace Go.Proofs.Ytdnmpndnpfklcaa
open Go.ChangeShapes Go.WideShapes Go.ChangeAt Go.RowKit Go.Deep Go
section
variable {H:Type} {enc:TypeId × Value → H} {P:Program} {w:World} {base:Nat} {spare:Nat → Bool} {held:Bool}
-- the opening of a slice of structs of one-cell fields
theorem open_slice_fields {t e:TypeId} {fs:Array Field} {fuel:Nat} {cs:List Value} {x:DataW H × List MemPlace} (ht:P.underlying t = some (.slice e)) (he:P.underlying e = some (.struct fs))
  (hone:oneCellFields P fs = true) (hC:P.cellsOf e = fs.size) (h:DataW.trod enc P w base spare held fuel t cs = some x) :
  cs = [.slice none 0 0] ∨
  ∃ (a:Addr) (len cap m:Nat),cs = [.slice (some a) len cap]∧len ≤ cap∧cap ≤ maxLen∧m = (if spare a.block then cap else len) ∧
   ∀ i,i < m → ∃ n:Nat,∀ (j:Nat) (f:Field),fs[j]? = some f → ∃ (v:Value) (y:DataW H × List MemPlace),w.cell? (a.add (i * fs.size + j)) = some v∧DataW.trod enc P w base spare held n f.type [v] = some y:=by
 rcases open_slice ht h with h0 | ⟨a,len,cap,m,n,D,Pl,hcs,hb,hl,hm,hmm,hx,hi⟩
 ·exact .inl h0.1
 ·refine .inr ⟨a,len,cap,m,hcs,hl,hm,hmm,fun i him=>?_⟩
  obtain ⟨cs',hc,ht'⟩:=hi i him
  rw [hC] at hc
  obtain ⟨ys,n',hn',hy,hlen,hyl,hf⟩:=DataW.trod_struct he ht'
  obtain ⟨_,hcl,hat⟩:=World.cells?_some hc
  refine ⟨n',fun j f hj=>?_⟩
  obtain ⟨ho,hk⟩:=hone_of hone j f hj
  have hjl:j < fs.size:=(Array.getElem?_eq_some_iff.1 hj).1
  have hcell:=hat j hjl
  have hv:cs'[j]? = some (cs'[j]'(by omega)):=List.getElem?_eq_getElem (by omega)
  have h1:=hf j f hj
  rw [ho,hk] at h1
  have hone':(cs'.drop j).take 1 = [cs'[j]'(by omega)]:=by
   rw [List.drop_eq_getElem_cons (by omega)]
   rfl
  rw [hone'] at h1
  have hys:ys[j]? = some (ys[j]'(by omega)):=List.getElem?_eq_getElem (by omega)
  refine ⟨_,_,?_,h1.trans hys⟩
  rw [← Go.Deep.add_add,hcell,hv]
end
end Go.Proofs.Ytdnmpndnpfklcaa
/- From a row's readings to the walks' words: an automaton by value. -/
namespace Go.Proofs.Ytdnmpndnpfklcaa
open Go.ChangeShapes Go.WideShapes Go.ChangeAt Go.RowKit Go.Deep Go
end Go.Proofs.Ytdnmpndnpfklcaa

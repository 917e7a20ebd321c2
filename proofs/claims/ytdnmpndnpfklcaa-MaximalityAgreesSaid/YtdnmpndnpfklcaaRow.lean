/- From a row's readings to the walks' words: slices of integers that came in. -/
import Derived.Test.YtdnmpndnpfklcaaRows
import Derived.Test.YtdnmpndnpfklcaaBase
import Derived.ProofKit
import Derived.OpenShut
import Derived.ShutString
import Derived.ChangeOld
import Derived.Deep.Slices
import Derived.Deep.Fields
import Derived.ChangeSame
import Derived.ChangeMaps5
import Derived.Test.YtdnmpndnpfklcaaAa
namespace Go.Proofs.Ytdnmpndnpfklcaa
open Go.ChangeShapes Go.WideShapes Go.ChangeAt Go.RowKit Go
theorem own:ownKnob Try.prog.godebug = none:=by kernel_rfl
theorem laidOut:laidOutB Try.prog = true:=by kernel_rfl
end Go.Proofs.Ytdnmpndnpfklcaa
/- From a row's readings to the walks' words: slices of slices of ints. -/
namespace Go.Proofs.Ytdnmpndnpfklcaa
open Go.ChangeShapes Go.WideShapes Go.ChangeAt Go.RowKit Go.Deep Go
theorem list_of {α:Type} {P:Nat → α → Prop}:∀ (n:Nat),(∀ i,i < n → ∃ e,P i e) → ∃ l:List α,l.length = n∧∀ k e,l[k]? = some e → P k e
 | 0,_=>⟨[],rfl,fun k e h=>by simp at h⟩
 | n + 1,h=>by
  obtain ⟨l,hl,hp⟩:=list_of n (fun i hi=>h i (by omega))
  obtain ⟨e,he⟩:=h n (by omega)
  refine ⟨l ++ [e],by simp [hl],fun k u hk=>?_⟩
  rcases Nat.lt_or_ge k n with h1 | h1
  ·rw [List.getElem?_append_left (by omega)] at hk
   exact hp k u hk
  ·rw [List.getElem?_append_right (by omega),hl] at hk
   have:k = n:=by
    rcases Nat.lt_or_ge k (n + 1) with h2 | h2
    ·omega
    ·rw [List.getElem?_eq_none (by simp;omega)] at hk;cases hk
   subst this
   simp at hk
   subst hk
   exact he
end Go.Proofs.Ytdnmpndnpfklcaa
/- From a row's readings to the walks' words: slices of automata. -/
namespace Go.Proofs.Ytdnmpndnpfklcaa
open Go.ChangeShapes Go.WideShapes Go.ChangeAt Go.RowKit Go.Deep Go
section
variable {H:Type} {enc:TypeId × Value → H} {P:Program} {w:World} {base:Nat} {spare:Nat → Bool} {held:Bool}
-- the opening of a slice of structs of one-cell fields
end
end Go.Proofs.Ytdnmpndnpfklcaa
/- From a row's readings to the walks' words: an automaton by value. -/
namespace Go.Proofs.Ytdnmpndnpfklcaa
open Go.ChangeShapes Go.WideShapes Go.ChangeAt Go.RowKit Go.Deep Go
end Go.Proofs.Ytdnmpndnpfklcaa

/- Walks: slices.Equal at edges, automaton.Equal; the law's same, sameAll, none. -/
import Derived.Test.YtddhaidimadliaaSa
import Derived.Test.YtddhaidimadliaaAa
import Derived.Test.YtddhaidimadliaaMh
import Derived.Test.YtddhaidimadliaaMa
import Derived.Test.YtddhaidimadliaaQa
namespace Go.Proofs.Ytddhaidimadliaa
open Go.RowKit Go

end Go.Proofs.Ytddhaidimadliaa




/- Walks: the law's two, none; what is read of blocks written out. -/
namespace Go.Proofs.Ytddhaidimadliaa
open Go.RowKit Go Go.Maps

section
variable {w : World} {b : Nat} {t : TypeId} {vs : List Value}
theorem Blk.al (h : Blk w b t vs) (o : Obj) : Blk (w.alloc o) b t vs := h.below (box_below _ _) h.lt
theorem Blk.at_ (w : World) (t : TypeId) (vs : List Value) (h : w.heap.size = b) : Blk (w.alloc (.cells vs.toArray t)) b t vs := by subst h; exact Blk.new _ _ _
end

end Go.Proofs.Ytddhaidimadliaa

/- Walks: product.Compose with a fresh result, at few automata. -/
namespace Go.Proofs.Ytddhaidimadliaa
open Go.RowKit Go Go.Maps

theorem AutR.ok {w : World} {B : Nat} {A : Option Addr} {na ca : Nat} {M : Option Addr} {nm cm : Nat} {E : Option Addr} {ne ce : Nat} {a : Aut} (h : AutR w B A na ca M nm cm E ne ce a) : (AV.mk A na ca M nm cm E ne ce a).ok w B := h
end Go.Proofs.Ytddhaidimadliaa

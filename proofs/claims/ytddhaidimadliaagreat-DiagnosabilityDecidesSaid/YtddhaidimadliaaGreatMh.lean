/- Walks: product.Synchronous. -/
import Derived.Test.YtddhaidimadliaaGreatMe
import Derived.Deep.RegionHeld3
namespace Go.Proofs.YtddhaidimadliaaGreat
open Go.RowKit Go Go.Maps
def Fr3 (r:Nat) (A M E:Option Addr):Prop:=(∀ ad,A = some ad → r < ad.block)∧(∀ ad,M = some ad → r < ad.block)∧(∀ ad,E = some ad → r < ad.block)
end Go.Proofs.YtddhaidimadliaaGreat

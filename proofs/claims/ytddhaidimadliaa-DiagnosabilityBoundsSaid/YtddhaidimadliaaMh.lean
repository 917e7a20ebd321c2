/- Walks: product.Synchronous. -/
import Derived.Test.YtddhaidimadliaaMe
import Derived.Deep.RegionHeld3
namespace Go.Proofs.Ytddhaidimadliaa
open Go.RowKit Go Go.Maps

/-- three slices that lie above a block -/
def Fr3 (r : Nat) (A M E : Option Addr) : Prop := (∀ ad, A = some ad → r < ad.block) ∧ (∀ ad, M = some ad → r < ad.block) ∧ (∀ ad, E = some ad → r < ad.block)
end Go.Proofs.Ytddhaidimadliaa

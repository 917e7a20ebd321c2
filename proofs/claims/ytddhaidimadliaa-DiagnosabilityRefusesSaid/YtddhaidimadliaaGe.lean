/- Walks: L03.Make. -/
import Derived.Test.YtddhaidimadliaaGd
import Derived.IntWalk
namespace Go.Proofs.Ytddhaidimadliaa
open Go.RowKit Go

/-- a graph as cells -/
def gcells (g : Gr) : List Value := .int .u8 g.st :: .int .u8 g.mb :: bv g.to
end Go.Proofs.Ytddhaidimadliaa

/- Walks: the law's infimal. -/
import Derived.Test.YtcchnibgehonoaaDoorDo
namespace Go.Proofs.YtcchnibgehonoaaDoor
open Go.RowKit Go Go.Maps

end Go.Proofs.YtcchnibgehonoaaDoor

/- Walks: the law's reached. -/
import Derived.Test.YtcchnibgehonoaaDoorDh
namespace Go.Proofs.YtcchnibgehonoaaDoor
open Go.RowKit Go Go.Maps

end Go.Proofs.YtcchnibgehonoaaDoor

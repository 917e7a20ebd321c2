/- Walks: the law's refuses, forced, wrong. -/
import Derived.Test.YtioijhpbedmeaaaDoorYb
import Derived.Test.YtioijhpbedmeaaaDoorUl
import Derived.Test.YtioijhpbedmeaaaDoorUa
import Derived.Test.YtioijhpbedmeaaaDoorUq
namespace Go.Proofs.YtioijhpbedmeaaaDoor
open Go.RowKit Go Go.Maps

end Go.Proofs.YtioijhpbedmeaaaDoor

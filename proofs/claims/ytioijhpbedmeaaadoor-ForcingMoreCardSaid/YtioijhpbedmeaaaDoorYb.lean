/- Walks: the law's step. -/
import Derived.Test.YtioijhpbedmeaaaDoorGa
import Derived.Test.YtioijhpbedmeaaaDoorTu
import Derived.Deep.Cut
namespace Go.Proofs.YtioijhpbedmeaaaDoor
open Go.RowKit Go

end Go.Proofs.YtioijhpbedmeaaaDoor

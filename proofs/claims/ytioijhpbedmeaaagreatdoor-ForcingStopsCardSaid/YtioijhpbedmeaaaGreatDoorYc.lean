/- Walks: the law's refuses, forced, wrong. -/
import Derived.Test.YtioijhpbedmeaaaGreatDoorYb
import Derived.Test.YtioijhpbedmeaaaGreatDoorUl
import Derived.Test.YtioijhpbedmeaaaGreatDoorUa
import Derived.Test.YtioijhpbedmeaaaGreatDoorUq
namespace Go.Proofs.YtioijhpbedmeaaaGreatDoor
open Go.RowKit Go Go.Maps

end Go.Proofs.YtioijhpbedmeaaaGreatDoor

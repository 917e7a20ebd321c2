/- Walks: forcing.Verify. -/
import Derived.Test.YtioijhpbedmeaaaGreatDoorUv
namespace Go.Proofs.YtioijhpbedmeaaaGreatDoor
open Go.RowKit Go Go.Maps

end Go.Proofs.YtioijhpbedmeaaaGreatDoor

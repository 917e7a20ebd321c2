/- The opening of a sketch of law 41. -/
import Derived.Test.YtddhaidimadliaaJx
import Derived.Test.YtddhaidimadliaaRow
import Derived.WalkKit
import Derived.ProofKit
import Derived.OpenShut
namespace Go.Proofs.Ytddhaidimadliaa
open Go.ChangeShapes Go.WideShapes Go.ChangeAt Go.RowKit Go
variable {H : Type} {enc : TypeId × Value → H} {W : World} {spare : Nat → Bool} {held : Bool}

end Go.Proofs.Ytddhaidimadliaa

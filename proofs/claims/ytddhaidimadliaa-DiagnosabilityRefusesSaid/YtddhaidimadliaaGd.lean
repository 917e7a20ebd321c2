/- Walks: ref03.Canonical. -/
import Derived.Test.YtddhaidimadliaaGa
import Derived.Test.YtddhaidimadliaaTu
namespace Go.Proofs.Ytddhaidimadliaa
open Go.RowKit Go

end Go.Proofs.Ytddhaidimadliaa

/- From a row's readings to the walks' words: graphs, parts, problems (chapter 26). -/
import Derived.Test.YtddhaidimadliaaRow
import Derived.Test.YtddhaidimadliaaGe
import Derived.Deep.Strs
namespace Go.Proofs.Ytddhaidimadliaa
open Go.ChangeShapes Go.WideShapes Go.ChangeAt Go.RowKit Go.Deep Go

end Go.Proofs.Ytddhaidimadliaa

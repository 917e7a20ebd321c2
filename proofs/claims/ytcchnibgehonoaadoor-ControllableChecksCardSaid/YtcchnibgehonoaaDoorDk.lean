/- Plain: what a closure holds; a set is invariant exactly if its closure has no more states. -/
import Derived.Test.YtcchnibgehonoaaDoorDj
namespace Go.Proofs.YtcchnibgehonoaaDoor

end Go.Proofs.YtcchnibgehonoaaDoor

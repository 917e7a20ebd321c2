/- Plain: the law's infimal language: the product with a requirement that has a further state. -/
import Derived.Test.YtcchnibgehonoaaDoorDn
namespace Go.Proofs.YtcchnibgehonoaaDoor

end Go.Proofs.YtcchnibgehonoaaDoor

/- Parts of a struct in memory: a load and a store of some of its cells. -/
import Derived.Test.YtopgljkfoogihaaDoorShP
import Derived.Deep.MidRow
namespace Go.Proofs.YtopgljkfoogihaaDoor
open Go.RowKit

end Go.Proofs.YtopgljkfoogihaaDoor

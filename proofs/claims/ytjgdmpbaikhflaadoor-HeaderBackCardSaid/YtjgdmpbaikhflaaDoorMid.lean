/- Parts of a struct in memory: a load and a store of some of its cells. -/
import Derived.Test.YtjgdmpbaikhflaaDoorShP
import Derived.Deep.MidRow
namespace Go.Proofs.YtjgdmpbaikhflaaDoor
open Go.RowKit

end Go.Proofs.YtjgdmpbaikhflaaDoor

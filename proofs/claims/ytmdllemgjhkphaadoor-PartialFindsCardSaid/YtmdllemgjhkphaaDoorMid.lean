/- Parts of a struct in memory: a load and a store of some of its cells. -/
import Derived.Test.YtmdllemgjhkphaaDoorShP
import Derived.Deep.MidRow
namespace Go.Proofs.YtmdllemgjhkphaaDoor
open Go.RowKit

end Go.Proofs.YtmdllemgjhkphaaDoor

import Derived.Test.YtobjgebojhjhnaaDoorOpb
import Derived.Test.YtobjgebojhjhnaaDoorQr9
namespace Go.Proofs.YtobjgebojhjhnaaDoor
open Go.RowKit Go.ChangeShapes Go.WideShapes Go.ChangeAt
section
variable {H : Type} {enc : TypeId × Value → H} {w : World} {base : Nat} {spare : Nat → Bool} {held : Bool}
end
end Go.Proofs.YtobjgebojhjhnaaDoor

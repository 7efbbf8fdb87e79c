import Derived.WalkKit
import Derived.Lib.EndianBits
namespace Go.Proofs.YtobjgebojhjhnaaGreatDoor
open Go.RowKit
theorem Ly (k:Nat):256 ^ k=2 ^ (8*k):=by rw[Nat.pow_mul]
end Go.Proofs.YtobjgebojhjhnaaGreatDoor

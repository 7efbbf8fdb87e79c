import Derived.WalkKit
import Derived.Lib.EndianBits
namespace Go.Proofs.YtobjgebojhjhnaaDoor
open Go.RowKit
theorem pow_256 (k : Nat) : 256 ^ k = 2 ^ (8 * k) := by rw [Nat.pow_mul]
end Go.Proofs.YtobjgebojhjhnaaDoor

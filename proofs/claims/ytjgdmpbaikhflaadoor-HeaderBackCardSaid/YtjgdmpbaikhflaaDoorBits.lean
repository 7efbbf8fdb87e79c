/- Small laws on the bits of numbers. -/
import Derived.WalkKit
import Derived.Lib.EndianBits
namespace Go.Proofs.YtjgdmpbaikhflaaDoor
open Go.RowKit

theorem pow_split (k : Nat) (h : 8 * k + 8 ≤ 64) : 2 ^ (8 * k) * 256 ≤ 18446744073709551616 := by
  have : 2 ^ (8 * k + 8) ≤ 2 ^ 64 := Nat.pow_le_pow_right (by omega) h
  rw [Nat.pow_add] at this
  exact this
/-- 'n | b << (8 * k)', n below 2^(8k), b a byte: they are added. -/
theorem or_shl_u64 (a b k : Nat) (ha : a < 2 ^ (8 * k)) (hb : b < 256) (hk : 8 * k + 8 ≤ 64) :
    bits .or .u64 (a : Int) (IntKind.u64.wrap (IntKind.u64.wrap (b : Int) * 2 ^ (8 * k))) = ((a + 2 ^ (8 * k) * b : Nat) : Int) := by
  have hp := pow_split k hk
  have hq : 2 ^ (8 * k) * b ≤ 2 ^ (8 * k) * 255 := Nat.mul_le_mul_left _ (by omega)
  have e1 : IntKind.u64.wrap (b : Int) = b := wraps_u64 _ (by omega) (by omega)
  have e3 : (b : Int) * 2 ^ (8 * k) = ((2 ^ (8 * k) * b : Nat) : Int) := by rw [Int.natCast_mul, Int.mul_comm (b : Int)]; simp
  generalize hP : 2 ^ (8 * k) = p at *
  have e2 : IntKind.u64.wrap ((p * b : Nat) : Int) = ((p * b : Nat) : Int) := wraps_u64 _ (by omega) (by omega)
  rw [e1, e3, e2]
  rw [bits_join_low .u64 64 (by decide) wraps_u64 (8 * k) (a : Int) ((p * b : Nat) : Int) (by omega) ?_ (by omega) (by omega) ?_ (by omega)]
  · omega
  · rw [show (2 : Int) ^ (8 * k) = ((2 ^ (8 * k) : Nat) : Int) from by simp, hP]; omega
  · rw [show (2 : Int) ^ (8 * k) = ((2 ^ (8 * k) : Nat) : Int) from by simp, hP, ← Int.natCast_emod, Nat.mul_mod_right]; rfl
theorem pow_256 (k : Nat) : 256 ^ k = 2 ^ (8 * k) := by rw [Nat.pow_mul]
end Go.Proofs.YtjgdmpbaikhflaaDoor

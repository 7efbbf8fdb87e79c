/- 'k & 0xffff'. -/
import Derived.Laws.BitsLemmas
namespace Go.Proofs.YtijnkieakenipaaDoor
open Go
theorem and_ffff (n : Int) : bits .and .i64 n 65535 = n % 65536 := by
  have h127 : (BitVec.ofInt 64 65535).toNat = 2 ^ 16 - 1 := by decide
  have key : (BitVec.ofInt 64 n &&& BitVec.ofInt 64 65535).toNat = (n % ((2 ^ 64 : Nat) : Int)).toNat % 2 ^ 16 := by
    rw [BitVec.toNat_and, BitVec.toNat_ofInt, h127, Nat.and_two_pow_sub_one_eq_mod]
  show IntKind.i64.wrap ((BitVec.ofInt 64 n &&& BitVec.ofInt 64 65535).toNat : Nat) = n % 65536
  rw [key, IntKind.wrap_i64]
  omega
/-- an index out of whatever number -/
theorem and_ffff_at (n : Int) (K : Nat) (hK : 0 < K) : ∃ (q : Int) (i : Nat), bits .and .i64 n 65535 = q ∧ 0 ≤ q ∧ q % (K : Int) = (i : Int) ∧ q.tmod (K : Int) = (i : Int) ∧ i < K := by
  have h0 : 0 ≤ n % 65536 := Int.emod_nonneg _ (by decide)
  have h1 : 0 ≤ (n % 65536) % (K : Int) := Int.emod_nonneg _ (by omega)
  have h2 : (n % 65536) % (K : Int) < K := Int.emod_lt_of_pos _ (by omega)
  refine ⟨_, ((n % 65536) % (K : Int)).toNat, and_ffff n, h0, by omega, ?_, by omega⟩
  rw [Int.tmod_eq_emod_of_nonneg h0]
  omega
end Go.Proofs.YtijnkieakenipaaDoor

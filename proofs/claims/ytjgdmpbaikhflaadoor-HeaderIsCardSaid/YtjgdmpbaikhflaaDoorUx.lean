/- u256.Shl as a number's law; target.Expand as a number's law. -/
import Derived.Test.YtjgdmpbaikhflaaDoorUl
import Derived.Test.YtjgdmpbaikhflaaDoorUc
namespace Go.Proofs.YtjgdmpbaikhflaaDoor
open Go.RowKit
theorem bitLen_hi : ∀ (k x : Nat), x < 18446744073709551616 → Lib.bitLen x ≤ k → x < 2 ^ k
  | 0, x, hx, h => by
    by_cases h0 : x = 0
    · subst h0; decide
    · rw [Lib.bitLen_half x h0 hx] at h; omega
  | k + 1, x, hx, h => by
    by_cases h0 : x = 0
    · subst h0; exact Nat.pow_pos (by omega)
    · rw [Lib.bitLen_half x h0 hx] at h
      have := bitLen_hi k (x / 2) (by omega) (by omega)
      rw [Nat.pow_succ]
      omega
theorem bitLen_iff (m n : Nat) (hm : m < 4294967296) (hn : n < 256) : 256 < Lib.bitLen m + n ↔ 115792089237316195423570985008687907853269984665640564039457584007913129639936 ≤ m * 2 ^ n := by
  have e : (115792089237316195423570985008687907853269984665640564039457584007913129639936 : Nat) = 2 ^ (256 - n) * 2 ^ n := by
    rw [← Nat.pow_add, Nat.sub_add_cancel (by omega)]
  rw [e, Nat.mul_le_mul_right_iff (Nat.pow_pos (by omega))]
  constructor
  · intro h
    rcases Nat.lt_or_ge m (2 ^ (256 - n)) with h' | h'
    · by_cases h64 : 256 - n ≤ 64
      · have := Lib.bitLen_le m (256 - n) h64 h'
        omega
      · have := bitLen_64 (x := m) (by omega)
        omega
    · exact h'
  · intro h
    rcases Nat.lt_or_ge 256 (Lib.bitLen m + n) with h' | h'
    · exact h'
    · have := bitLen_hi (256 - n) m (by omega) (by omega)
      omega
theorem two_parts (m d : Nat) (hm : m < 4294967296) (hd : d < 64) : ∃ P : Nat, P = m * 2 ^ d ∧ P < 79228162514264337593543950336 ∧ m / 2 ^ (64 - d) = P / 18446744073709551616 := by
  refine ⟨_, rfl, ?_, ?_⟩
  · have h1 : m * 2 ^ d < 4294967296 * 2 ^ d := Nat.mul_lt_mul_of_pos_right hm (Nat.pow_pos (by omega))
    have h2 : 2 ^ d ≤ 2 ^ 64 := Nat.pow_le_pow_right (by omega) (by omega)
    omega
  · have e : (18446744073709551616 : Nat) = 2 ^ (64 - d) * 2 ^ d := by rw [← Nat.pow_add, Nat.sub_add_cancel (by omega)]
    rw [e, Nat.mul_div_mul_right _ _ (Nat.pow_pos (by omega))]
theorem cast_parts (m d : Nat) (hm : m < 4294967296) (hd : d < 64) : ∃ P : Nat, P = m * 2 ^ d ∧ P < 79228162514264337593543950336 ∧ (m : Int) * 2 ^ d % 18446744073709551616 = ((P % 18446744073709551616 : Nat) : Int) ∧ (m : Int) / 2 ^ (64 - d) = ((P / 18446744073709551616 : Nat) : Int) := by
  obtain ⟨P, hP, h1, h2⟩ := two_parts m d hm hd
  refine ⟨P, hP, h1, ?_, ?_⟩
  · rw [hP]; simp
  · rw [← h2]; simp
/-- a small number moved up -/
theorem UShl (m n : Nat) (hm : m < 4294967296) (w : World) :
    Calls Tryd.prog 43 #[.agg (uq4 m 0 0 0).toArray, .int .i64 (n : Int)] w fun e w' => e = .returned (.tuple #[.agg (uc (m * 2 ^ n % 115792089237316195423570985008687907853269984665640564039457584007913129639936)).toArray, .bool (decide (115792089237316195423570985008687907853269984665640564039457584007913129639936 ≤ m * 2 ^ n))]) ∧ Below w.heap.size w w' := by
  rcases Nat.lt_or_ge n 256 with hn | hn
  · by_cases h0 : n = 0
    · subst h0
      have e1 : m * 2 ^ 0 % 115792089237316195423570985008687907853269984665640564039457584007913129639936 = m := by omega
      have e2 : decide (115792089237316195423570985008687907853269984665640564039457584007913129639936 ≤ m * 2 ^ 0) = false := by simp; omega
      rw [e1, e2, uc_small (by omega)]
      exact UShl_z m w
    · obtain ⟨q, d, hq, hd, rfl⟩ : ∃ q d, q < 4 ∧ d < 64 ∧ n = 64 * q + d := ⟨n / 64, n % 64, by omega, by omega, by omega⟩
      have hb : decide (256 < len4 m 0 0 0 + (64 * q + d)) = decide (115792089237316195423570985008687907853269984665640564039457584007913129639936 ≤ m * 2 ^ (64 * q + d)) := by
        rw [decide_eq_decide, ← bitLen_iff m _ hm hn]
        simp [len4]
      rw [← hb]
      obtain ⟨P, hP, hP2, c1, c2⟩ := cast_parts m d hm hd
      have hV : m * 2 ^ (64 * q + d) = P * 2 ^ (64 * q) := by rw [hP, Nat.mul_assoc, ← Nat.pow_add, Nat.add_comm d]
      rw [hV]
      have hq4 : q = 0 ∨ q = 1 ∨ q = 2 ∨ q = 3 := by omega
      rcases hq4 with rfl | rfl | rfl | rfl
      · have h := UShl_0 m d hm hd (by omega) w
        rw [c1, c2] at h
        have e : uc (P * 2 ^ (64 * 0) % 115792089237316195423570985008687907853269984665640564039457584007913129639936) = [.int .u64 ((P % 18446744073709551616 : Nat) : Int), .int .u64 ((P / 18446744073709551616 : Nat) : Int), .int .u64 0, .int .u64 0] := by
          rw [uc, show [Value.int .u64 ((P % 18446744073709551616 : Nat) : Int), .int .u64 ((P / 18446744073709551616 : Nat) : Int), .int .u64 0, .int .u64 0] = uq4 (P % 18446744073709551616) (P / 18446744073709551616) 0 0 from rfl, u4_eq]
          unfold lim
          omega
        rw [e]
        exact h
      · have h := UShl_1 m d hm hd (by omega) w
        rw [c1, c2] at h
        have e : uc (P * 2 ^ (64 * 1) % 115792089237316195423570985008687907853269984665640564039457584007913129639936) = [.int .u64 0, .int .u64 ((P % 18446744073709551616 : Nat) : Int), .int .u64 ((P / 18446744073709551616 : Nat) : Int), .int .u64 0] := by
          rw [uc, show [Value.int .u64 0, Value.int .u64 ((P % 18446744073709551616 : Nat) : Int), .int .u64 ((P / 18446744073709551616 : Nat) : Int), .int .u64 0] = uq4 0 (P % 18446744073709551616) (P / 18446744073709551616) 0 from rfl, u4_eq]
          unfold lim
          omega
        rw [e]
        exact h
      · have h := UShl_2 m d hm hd (by omega) w
        rw [c1, c2] at h
        have e : uc (P * 2 ^ (64 * 2) % 115792089237316195423570985008687907853269984665640564039457584007913129639936) = [.int .u64 0, .int .u64 0, .int .u64 ((P % 18446744073709551616 : Nat) : Int), .int .u64 ((P / 18446744073709551616 : Nat) : Int)] := by
          rw [uc, show [Value.int .u64 0, .int .u64 0, Value.int .u64 ((P % 18446744073709551616 : Nat) : Int), .int .u64 ((P / 18446744073709551616 : Nat) : Int)] = uq4 0 0 (P % 18446744073709551616) (P / 18446744073709551616) from rfl, u4_eq]
          unfold lim
          omega
        rw [e]
        exact h
      · have h := UShl_3 m d hm hd (by omega) w
        rw [c1] at h
        have e : uc (P * 2 ^ (64 * 3) % 115792089237316195423570985008687907853269984665640564039457584007913129639936) = [.int .u64 0, .int .u64 0, .int .u64 0, .int .u64 ((P % 18446744073709551616 : Nat) : Int)] := by
          rw [uc, show [Value.int .u64 0, .int .u64 0, .int .u64 0, Value.int .u64 ((P % 18446744073709551616 : Nat) : Int)] = uq4 0 0 0 (P % 18446744073709551616) from rfl, u4_eq]
          unfold lim
          omega
        rw [e]
        exact h
  · have e : m * 2 ^ n = m * 2 ^ (n - 256) * 115792089237316195423570985008687907853269984665640564039457584007913129639936 := by
      rw [show (115792089237316195423570985008687907853269984665640564039457584007913129639936 : Nat) = 2 ^ 256 from rfl, Nat.mul_assoc, ← Nat.pow_add, Nat.sub_add_cancel hn]
    have e1 : m * 2 ^ n % 115792089237316195423570985008687907853269984665640564039457584007913129639936 = 0 := by rw [e, Nat.mul_mod_left]
    have e2 : decide (115792089237316195423570985008687907853269984665640564039457584007913129639936 ≤ m * 2 ^ n) = !decide (m = 0) := by
      by_cases h0 : m = 0
      · subst h0; simp
      · rw [decide_eq_true, decide_eq_false h0]; rfl
        have : 0 < m * 2 ^ (n - 256) := Nat.mul_pos (by omega) (Nat.pow_pos (by omega))
        rw [e]; omega
    rw [e1, e2, uc_small (by omega)]
    exact UShl_b m n hn w
/-- the target of some bits -/
def mExp (b : Nat) : Option Nat :=
  if b % 8388608 = 0 then none
  else if b / 8388608 % 2 = 1 then none
  else if b / 16777216 < 3 then (if b % 8388608 / 2 ^ (8 * (3 - b / 16777216)) = 0 then none else some (b % 8388608 / 2 ^ (8 * (3 - b / 16777216))))
  else if 115792089237316195423570985008687907853269984665640564039457584007913129639936 ≤ b % 8388608 * 2 ^ (8 * (b / 16777216 - 3)) then none
  else some (b % 8388608 * 2 ^ (8 * (b / 16777216 - 3)))
theorem mExp_lt {b t : Nat} (h : mExp b = some t) : t < 115792089237316195423570985008687907853269984665640564039457584007913129639936 ∧ 0 < t := by
  unfold mExp at h
  split at h
  · cases h
  · split at h
    · cases h
    · split at h
      · split at h
        · cases h
        · rename_i h1
          injection h with h
          subst h
          refine ⟨?_, Nat.pos_of_ne_zero h1⟩
          exact Nat.lt_of_le_of_lt (Nat.div_le_self _ _) (by omega)
      · split at h
        · cases h
        · rename_i h0 _ _ h1
          injection h with h
          subst h
          refine ⟨by omega, ?_⟩
          exact Nat.mul_pos (by omega) (Nat.pow_pos (by omega))
end Go.Proofs.YtjgdmpbaikhflaaDoor

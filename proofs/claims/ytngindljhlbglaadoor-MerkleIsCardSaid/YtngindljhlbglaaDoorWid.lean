/- Plain law: how wide each level is, how high a tree. -/
import Derived.Test.YtngindljhlbglaaDoorRoot
namespace Go.Proofs.YtngindljhlbglaaDoor
open Go.RowKit

theorem mLvF_len : ∀ (f : Nat) (l : List (List UInt8)), (mLvF f l).length ≤ f + 1
  | 0, l => by rw [mLvF]; simp
  | f + 1, l => by
    rw [mLvF]
    split
    · simp
    · rw [List.length_cons]; have := mLvF_len f (mUp l); omega
theorem mLv_len (l : List (List UInt8)) : (mLv l).length ≤ 13 := by
  rw [mLv]
  split
  · simp
  · exact mLvF_len 12 l
theorem ceil_step (n j : Nat) : ((n + 1) / 2 + 2 ^ j - 1) / 2 ^ j = (n + 2 ^ (j + 1) - 1) / 2 ^ (j + 1) := by
  have hp : 0 < 2 ^ j := Nat.pow_pos (by omega)
  rw [Nat.pow_succ, Nat.mul_comm (2 ^ j) 2, ← Nat.div_div_eq_div_mul]
  congr 1
  omega
theorem lvF_height : ∀ (f : Nat) (l : List (List UInt8)), 0 < l.length → l.length ≤ 2 ^ f →
    ∃ K, (mLvF f l).length = K + 1 ∧ K ≤ f ∧ (∀ j, j < K → 1 < (l.length + 2 ^ j - 1) / 2 ^ j) ∧ (l.length + 2 ^ K - 1) / 2 ^ K ≤ 1
  | 0, l, h0, hf => ⟨0, by rw [mLvF]; rfl, Nat.le_refl _, fun j hj => absurd hj (Nat.not_lt_zero _), by simp at hf ⊢; omega⟩
  | f + 1, l, h0, hf => by
    by_cases h1 : l.length ≤ 1
    · exact ⟨0, by rw [mLvF_one _ _ h1]; rfl, by omega, fun j hj => absurd hj (Nat.not_lt_zero _), by simp; omega⟩
    · have hpow : 2 ^ (f + 1) = 2 * 2 ^ f := by rw [Nat.pow_succ]; omega
      have hup := mUp_length l
      obtain ⟨K, k1, k2, k3, k4⟩ := lvF_height f (mUp l) (by omega) (by omega)
      rw [hup] at k3 k4
      refine ⟨K + 1, by rw [mLvF, if_neg h1, List.length_cons, k1], by omega, fun j hj => ?_, by rw [← ceil_step]; exact k4⟩
      cases j with
      | zero => simp; omega
      | succ j => rw [← ceil_step]; exact k3 j (by omega)
theorem mWidth_nat (n j : Nat) (hn : n ≤ 4096) (hj : j ≤ 12) : mWidth n j = (((n + 2 ^ j - 1) / 2 ^ j : Nat) : Int) := by
  have hp : 0 < 2 ^ j := Nat.pow_pos (by omega)
  rw [mWidth, if_neg (by omega), show min (max (n : Int) 0) 4096 = (n : Int) by omega, show (min (j : Int) 12).toNat = j by omega]
  rw [show (n : Int) + 2 ^ j - 1 = ((n + 2 ^ j - 1 : Nat) : Int) by rw [Int.ofNat_sub (by omega)]; simp]
  simp
/-- Height tells how many levels stand on the leaves. -/
theorem Height_levels (l : List (List UInt8)) (n : Nat) (hn : l.length = n) (h0 : 0 < n) (h1 : n ≤ 4096) (w : World) : Calls Tryd.prog 12 #[.int .i64 (n : Int)] w fun e w' => e = .returned (.int .i64 (((mLv l).length - 1 : Nat) : Int)) ∧ w' = w := by
  have hlv : mLv l = mLvF 12 l := by rw [mLv, if_neg (by omega)]
  obtain ⟨K, k1, k2, k3, k4⟩ := lvF_height 12 l (by omega) (by omega)
  rw [hlv, k1, Nat.add_sub_cancel]
  rw [hn] at k3 k4
  exact Height n K k2 (fun j hj => by rw [mWidth_nat n j h1 (by omega)]; have := k3 j hj; omega) (by rw [mWidth_nat n K h1 k2]; omega) w
end Go.Proofs.YtngindljhlbglaaDoor

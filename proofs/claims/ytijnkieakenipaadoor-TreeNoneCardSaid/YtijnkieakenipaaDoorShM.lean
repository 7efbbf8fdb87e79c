/- Plain law: the blocks of a text, one behind the other. -/
import Derived.Test.YtijnkieakenipaaDoorShB
namespace Go.Proofs.YtijnkieakenipaaDoor
/-- k blocks of 64 bytes, one behind the other -/
def shFold : Nat → List W32 → List UInt8 → List W32
  | 0, h, _ => h
  | k + 1, h, bs => shFold k (shBlock h (bs.take 64)) (bs.drop 64)
theorem shFold_snoc (k : Nat) (h : List W32) (bs : List UInt8) : shFold (k + 1) h bs = shBlock (shFold k h bs) ((bs.drop (64 * k)).take 64) := by
  induction k generalizing h bs with
  | zero => simp [shFold]
  | succ k ih =>
    rw [shFold, ih]
    simp only [shFold, List.drop_drop]
    rw [show 64 + 64 * k = 64 * (k + 1) by omega]
theorem shBlock_length (h : List W32) (bs : List UInt8) (hh : h.length = 8) : (shBlock h bs).length = 8 := by
  rw [shBlock, addv_length, shRounds_length _ _ hh]
theorem shFold_length (k : Nat) (h : List W32) (bs : List UInt8) (hh : h.length = 8) : (shFold k h bs).length = 8 := by
  induction k generalizing h bs with
  | zero => exact hh
  | succ k ih => rw [shFold, ih _ _ (shBlock_length _ _ hh)]
/-- only the first 64 k bytes count -/
theorem shFold_append (k : Nat) (h : List W32) (bs cs : List UInt8) (hb : 64 * k ≤ bs.length) : shFold k h (bs ++ cs) = shFold k h bs := by
  induction k generalizing h bs with
  | zero => rfl
  | succ k ih =>
    rw [shFold, shFold, List.take_append_of_le_length (by omega), List.drop_append_of_le_length (by omega), ih _ _ (by rw [List.length_drop]; omega)]
theorem shFold_add (j k : Nat) (h : List W32) (bs : List UInt8) : shFold (j + k) h bs = shFold k (shFold j h bs) (bs.drop (64 * j)) := by
  induction j generalizing h bs with
  | zero => simp [shFold]
  | succ j ih =>
    rw [show j + 1 + k = (j + k) + 1 by omega, shFold, ih, shFold, List.drop_drop, show 64 + 64 * j = 64 * (j + 1) by omega]
end Go.Proofs.YtijnkieakenipaaDoor

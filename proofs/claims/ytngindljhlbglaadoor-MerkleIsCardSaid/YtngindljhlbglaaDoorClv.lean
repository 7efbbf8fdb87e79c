/- Plain law: a leaf climbs to the root by its branch (as XClw, without the laws of layer 10). -/
import Derived.Test.YtngindljhlbglaaDoorWid
namespace Go.Proofs.YtngindljhlbglaaDoor

theorem mLvF_ne (f : Nat) (l : List (List UInt8)) : mLvF f l ≠ [] := by
  cases f with
  | zero => simp [mLvF]
  | succ f => rw [mLvF]; split <;> simp
theorem mRootOf_cons (x : List (List UInt8)) (ls : List (List (List UInt8))) (h : ls ≠ []) : mRootOf (x :: ls) = mRootOf ls := by
  unfold mRootOf
  rw [List.getLast?_cons]
  cases hg : ls.getLast? with
  | none => exact absurd (List.getLast?_eq_none_iff.1 hg) h
  | some y => rfl
/-- the place that a place is paired with -/
def mPr (i n : Nat) : Nat := min (if i % 2 = 0 then i + 1 else i - 1) (n - 1)
/-- a leaf's branch over levels -/
def mBr : List (List (List UInt8)) → Nat → List (List UInt8)
  | [], _ => []
  | x :: r, i => if 1 < x.length then x.getD (mPr i x.length) [] :: mBr r (i / 2) else mBr r i
/-- a leaf climbed by a branch -/
def mClimb : List UInt8 → List (List UInt8) → Nat → List UInt8
  | x, [], _ => x
  | x, o :: r, i => if i % 2 = 1 then mClimb (pairB o x) r (i / 2) else mClimb (pairB x o) r (i / 2)
theorem mClimb_length (x : List UInt8) (b : List (List UInt8)) (i : Nat) (hx : x.length = 32) : (mClimb x b i).length = 32 := by
  induction b generalizing x i with
  | nil => exact hx
  | cons o r ih =>
    rw [mClimb]
    split
    · exact ih _ _ (pairB_length _ _)
    · exact ih _ _ (pairB_length _ _)
theorem mUp_getD (l : List (List UInt8)) (k : Nat) (h : 2 * k < l.length) : (mUp l).getD k [] = pairB (l.getD (2 * k) []) (l.getD (min (2 * k + 1) (l.length - 1)) []) := by
  rw [List.getD_eq_getElem?_getD, mUp_get l k h, Option.getD_some]
theorem mRootOf_one (l : List (List UInt8)) : mRootOf [l] = l.getD 0 [] := by
  simp [mRootOf]
theorem climb_law : ∀ (f : Nat) (l : List (List UInt8)) (k : Nat), k < l.length → l.length ≤ 2 ^ f → mClimb (l.getD k []) (mBr (mLvF f l) k) k = mRootOf (mLvF f l)
  | 0, l, k, hk, hf => by
    have h1 : l.length = 1 := by simp at hf; omega
    obtain rfl : k = 0 := by omega
    rw [mLvF, mBr, if_neg (by omega), mBr, mClimb, mRootOf_one l]
  | f + 1, l, k, hk, hf => by
    by_cases h1 : l.length ≤ 1
    · obtain rfl : k = 0 := by omega
      rw [mLvF_one _ _ h1, mBr, if_neg (by omega), mBr, mClimb, mRootOf_one l]
    · have hup : (mUp l).length = (l.length + 1) / 2 := mUp_length l
      have hpow : 2 ^ (f + 1) = 2 * 2 ^ f := by rw [Nat.pow_succ]; omega
      rw [mLvF, if_neg h1, mRootOf_cons _ _ (mLvF_ne _ _), mBr, if_pos (by omega), mClimb]
      have ih := climb_law f (mUp l) (k / 2) (by omega) (by omega)
      by_cases ho : k % 2 = 1
      · rw [if_pos ho]
        have e : pairB (l.getD (mPr k l.length) []) (l.getD k []) = (mUp l).getD (k / 2) [] := by
          rw [mUp_getD l (k / 2) (by omega), mPr, if_neg (by omega), show min (k - 1) (l.length - 1) = 2 * (k / 2) by omega, show min (2 * (k / 2) + 1) (l.length - 1) = k by omega]
        rw [e]
        exact ih
      · rw [if_neg ho]
        have e : pairB (l.getD k []) (l.getD (mPr k l.length) []) = (mUp l).getD (k / 2) [] := by
          rw [mUp_getD l (k / 2) (by omega), mPr, if_pos (by omega), show 2 * (k / 2) = k by omega]
        rw [e]
        exact ih
/-- how high a tree is -/
def mHt (l : List (List UInt8)) : Nat := (mLv l).length - 1
theorem mBr_length : ∀ (f : Nat) (l : List (List UInt8)) (k : Nat), 0 < l.length → l.length ≤ 2 ^ f → (mBr (mLvF f l) k).length + 1 = (mLvF f l).length
  | 0, l, k, h0, hf => by
    have h1 : l.length = 1 := by simp at hf; omega
    rw [mLvF, mBr, if_neg (by omega), mBr]; rfl
  | f + 1, l, k, h0, hf => by
    by_cases h1 : l.length ≤ 1
    · rw [mLvF_one _ _ h1, mBr, if_neg (by omega), mBr]; rfl
    · have hup : (mUp l).length = (l.length + 1) / 2 := mUp_length l
      have hpow : 2 ^ (f + 1) = 2 * 2 ^ f := by rw [Nat.pow_succ]; omega
      rw [mLvF, if_neg h1, mBr, if_pos (by omega), List.length_cons, mBr_length f (mUp l) (k / 2) (by omega) (by omega), List.length_cons]
theorem mBr_32 : ∀ (ls : List (List (List UInt8))) (i : Nat), (∀ x ∈ ls, All32 x) → All32 (mBr ls i)
  | [], _, _ => fun _ h => by cases h
  | x :: r, i, h => by
    rw [mBr]
    split
    · rename_i hx
      intro y hy
      rcases List.mem_cons.1 hy with hy | hy
      · rw [hy]
        exact (h x (List.mem_cons_self ..)).get _ (by rw [mPr]; omega)
      · exact mBr_32 r _ (fun z hz => h z (List.mem_cons_of_mem _ hz)) y hy
    · exact mBr_32 r _ (fun z hz => h z (List.mem_cons_of_mem _ hz))
end Go.Proofs.YtngindljhlbglaaDoor

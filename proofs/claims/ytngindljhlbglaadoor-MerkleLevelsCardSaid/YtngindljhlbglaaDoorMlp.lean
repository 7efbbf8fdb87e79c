/- Plain laws of levels. -/
import Derived.Test.YtngindljhlbglaaDoorLvs
import Derived.Test.YtngindljhlbglaaDoorWid
namespace Go.Proofs.YtngindljhlbglaaDoor
open Go.RowKit
theorem mLvF_head (f : Nat) (l : List (List UInt8)) : (mLvF f l)[0]? = some l := by
  cases f with
  | zero => rfl
  | succ f => rw [mLvF]; split <;> rfl
theorem mLvF_next : ∀ (f : Nat) (l : List (List UInt8)) (h : Nat) (x y : List (List UInt8)), (mLvF f l)[h]? = some x → (mLvF f l)[h + 1]? = some y → y = mUp x ∧ 1 < x.length
  | 0, l, h, x, y, _, hy => by rw [mLvF] at hy; simp at hy
  | f + 1, l, h, x, y, hx, hy => by
    rw [mLvF] at hx hy
    split at hx
    · rename_i h1
      rw [if_pos h1] at hy
      simp at hy
    · rename_i h1
      rw [if_neg h1] at hy
      rw [List.getElem?_cons_succ] at hy
      cases h with
      | zero =>
        obtain rfl : l = x := by simpa using hx
        rw [mLvF_head] at hy
        injection hy with hy
        exact ⟨hy.symm, by omega⟩
      | succ h =>
        rw [List.getElem?_cons_succ] at hx
        exact mLvF_next f (mUp l) h x y hx hy
theorem mLvF_at_len : ∀ (f : Nat) (l : List (List UInt8)) (h : Nat) (x : List (List UInt8)), (mLvF f l)[h]? = some x → x.length = (l.length + 2 ^ h - 1) / 2 ^ h
  | 0, l, h, x, hx => by
    rw [mLvF] at hx
    cases h with
    | zero => obtain rfl : l = x := by simpa using hx
              simp
    | succ h => simp at hx
  | f + 1, l, h, x, hx => by
    rw [mLvF] at hx
    cases h with
    | zero =>
      obtain rfl : l = x := by split at hx <;> simpa using hx
      simp
    | succ h =>
      split at hx
      · simp at hx
      · rw [List.getElem?_cons_succ] at hx
        rw [mLvF_at_len f (mUp l) h x hx, mUp_length, ceil_step]
/-- what MerkleLevels asks of the levels -/
theorem levels_laws (l : List (List UInt8)) (n : Nat) (hn : l.length = n) (h0 : 0 < n) (h1 : n ≤ 60) :
    ∃ K, (mLv l).length = K + 1 ∧ K ≤ 12 ∧ (mLv l)[0]? = some l ∧
      (∀ (h : Nat) (x : List (List UInt8)), (mLv l)[h]? = some x → mWidth n h = (x.length : Int) ∧ 0 < x.length ∧ x.length ≤ 60) ∧
      (∀ (h : Nat) (x y : List (List UInt8)), (mLv l)[h]? = some x → (mLv l)[h + 1]? = some y → y.length = (x.length + 1) / 2 ∧ 1 < x.length ∧ ∀ i, i < y.length → y.getD i [] = pairB (x.getD (2 * i) []) (x.getD (min (2 * i + 1) (x.length - 1)) [])) ∧
      (∀ (x : List (List UInt8)), (mLv l)[K]? = some x → x.length = 1 ∧ mRootOf (mLv l) = x.getD 0 []) := by
  obtain ⟨f, hf, hlv⟩ : ∃ f, f = 12 ∧ mLv l = mLvF f l := ⟨12, rfl, by rw [mLv, if_neg (by omega)]⟩
  obtain ⟨K, k1, k2, k3, k4⟩ := lvF_height f l (by omega) (by rw [hf]; omega)
  rw [hlv]
  have hw : ∀ (h : Nat) (x : List (List UInt8)), (mLvF f l)[h]? = some x → mWidth n h = (x.length : Int) ∧ 0 < x.length ∧ x.length ≤ 60 := by
    intro h x hx
    have hlt := (List.getElem?_eq_some_iff.1 hx).1
    have e := mLvF_at_len f l h x hx
    have hp : 0 < 2 ^ h := Nat.pow_pos (by omega)
    refine ⟨by rw [mWidth_nat n h (by omega) (by omega), e, hn], ?_, ?_⟩
    · rw [e]; exact Nat.div_pos (by omega) hp
    · rw [e, hn]
      refine Nat.le_trans (m := n) ?_ h1
      refine Nat.le_of_lt_succ ((Nat.div_lt_iff_lt_mul hp).2 ?_)
      rw [Nat.succ_mul]
      have : n ≤ n * 2 ^ h := Nat.le_mul_of_pos_right _ hp
      omega
  refine ⟨K, k1, by omega, mLvF_head _ _, hw, ?_, ?_⟩
  · intro h x y hx hy
    obtain ⟨rfl, h1⟩ := mLvF_next f l h x y hx hy
    refine ⟨mUp_length x, h1, fun i hi => ?_⟩
    rw [mUp_length] at hi
    rw [List.getD_eq_getElem?_getD, mUp_get x i (by omega), Option.getD_some]
  · intro x hx
    have e := mLvF_at_len f l K x hx
    have := (hw K x hx).2.1
    refine ⟨by rw [e] at this ⊢; omega, ?_⟩
    have hl : (mLvF f l).getLast? = some x := by
      rw [List.getLast?_eq_getElem?, k1, Nat.add_sub_cancel, hx]
    rw [mRootOf, hl]
    rfl
theorem LvAt.cellOf {w : World} {ps : List (Option Addr × Nat)} {ls : List (List (List UInt8))} {bb off : Nat} (h : Rd w (some ⟨bb, off, none⟩) (scl ps ls)) (hl : LvAt w ps ls) (j : Nat) (x : List (List UInt8)) (hx : ls[j]? = some x) :
    w.cell? ⟨bb, off + j, none⟩ = some (.slice (ps.getD j (none, 0)).1 x.length (ps.getD j (none, 0)).2) ∧ Rd w (ps.getD j (none, 0)).1 (hcl x) := by
  have hj : j < ps.length := by rw [hl.1]; exact (List.getElem?_eq_some_iff.1 hx).1
  have hp : ps[j]? = some (ps.getD j (none, 0)) := by rw [List.getD_eq_getElem?_getD, List.getElem?_eq_getElem hj]; rfl
  refine ⟨?_, (hl.2 j _ x hp hx).1⟩
  have hc := scl_get ps ls j _ x hp hx
  rcases h with h | ⟨b, o, hA, h⟩
  · rw [h] at hc; simp at hc
  · cases hA
    exact h j _ hc
theorem scl_ne (ps : List (Option Addr × Nat)) (ls : List (List (List UInt8))) (h : ps.length = ls.length) (h0 : 0 < ls.length) : scl ps ls ≠ [] := by
  intro e
  have := scl_length ps ls h
  rw [e] at this
  simp at this
  omega
end Go.Proofs.YtngindljhlbglaaDoor

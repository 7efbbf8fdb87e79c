/- Plain laws of levels: each is made of the one ahead; how many hashes each has. -/
import Derived.Test.YtdkknincamkhpaaDoorPr7
namespace Go.Proofs.YtdkknincamkhpaaDoor
open Go.RowKit
theorem lvq_head (f : Nat) (l : List (List UInt8)) : (mLvF f l)[0]? = some l := by
  cases f with
  | zero => rfl
  | succ f => rw [mLvF]; split <;> rfl
theorem lvq_next : ∀ (f : Nat) (l : List (List UInt8)) (h : Nat) (x y : List (List UInt8)), (mLvF f l)[h]? = some x → (mLvF f l)[h + 1]? = some y → y = mUp x ∧ 1 < x.length
  | 0, l, h, x, y, _, hy => by rw [mLvF] at hy; simp at hy
  | f + 1, l, h, x, y, hx, hy => by
    rw [mLvF] at hx hy
    split at hx
    · rename_i h1
      rw [if_pos h1] at hy
      simp at hy
    · rename_i h1
      rw [if_neg h1] at hy
      rw [List.getElem?_cons_succ] at hy
      cases h with
      | zero =>
        obtain rfl : l = x := by simpa using hx
        rw [lvq_head] at hy
        injection hy with hy
        exact ⟨hy.symm, by omega⟩
      | succ h =>
        rw [List.getElem?_cons_succ] at hx
        exact lvq_next f (mUp l) h x y hx hy
theorem lvq_len : ∀ (f : Nat) (l : List (List UInt8)) (h : Nat) (x : List (List UInt8)), (mLvF f l)[h]? = some x → x.length = (l.length + 2 ^ h - 1) / 2 ^ h
  | 0, l, h, x, hx => by
    rw [mLvF] at hx
    cases h with
    | zero => obtain rfl : l = x := by simpa using hx
              simp
    | succ h => simp at hx
  | f + 1, l, h, x, hx => by
    rw [mLvF] at hx
    cases h with
    | zero =>
      obtain rfl : l = x := by split at hx <;> simpa using hx
      simp
    | succ h =>
      split at hx
      · simp at hx
      · rw [List.getElem?_cons_succ] at hx
        rw [lvq_len f (mUp l) h x hx, mUp_length, ceil_step]
/-- the levels of n leaves: one for each height; each as wide as its height says, and made of the one ahead -/
theorem lvq_levels (l : List (List UInt8)) (n : Nat) (hn : l.length = n) (h0 : 0 < n) (h1 : n ≤ 4096) :
    (mLv l).length = pHt n + 1 ∧ (mLv l)[0]? = some l ∧ (∀ (h : Nat) (x : List (List UInt8)), (mLv l)[h]? = some x → x.length = pWd n h) ∧ (∀ (h : Nat) (x y : List (List UInt8)), (mLv l)[h]? = some x → (mLv l)[h + 1]? = some y → y = mUp x ∧ 1 < x.length) := by
  have hlv : mLv l = mLvF 12 l := by rw [mLv, if_neg (by omega)]
  obtain ⟨K, k1, k2, k3, k4⟩ := lvF_height 12 l (by omega) (by rw [hn]; exact h1)
  rw [hn] at k3 k4
  obtain ⟨q1, q2, q3⟩ := pHt_spec n h1
  have hK : K = pHt n := by
    rcases Nat.lt_trichotomy K (pHt n) with h | h | h
    · have := q2 K h
      unfold pWd at this
      omega
    · exact h
    · have := k3 _ h
      unfold pWd at q3
      omega
  refine ⟨by rw [hlv, k1, hK], by rw [hlv]; exact lvq_head _ _, fun h x hx => ?_, fun h x y hx hy => ?_⟩
  · rw [hlv] at hx
    rw [lvq_len 12 l h x hx, hn, pWd]
  · rw [hlv] at hx hy
    exact lvq_next 12 l h x y hx hy
theorem lvq_at (l : List (List UInt8)) (n : Nat) (hn : l.length = n) (h0 : 0 < n) (h1 : n ≤ 4096) (h i : Nat) (hh : h ≤ pHt n) (hi : i < pWd n h) : ∃ x y, (mLv l)[h]? = some x ∧ x[i]? = some y ∧ x.length = pWd n h := by
  obtain ⟨e1, _, e3, _⟩ := lvq_levels l n hn h0 h1
  have hx : (mLv l)[h]? = some ((mLv l)[h]'(by omega)) := List.getElem?_eq_getElem (by omega)
  have hl := e3 h _ hx
  exact ⟨_, _, hx, List.getElem?_eq_getElem (by rw [hl]; exact hi), hl⟩
end Go.Proofs.YtdkknincamkhpaaDoor

/- Clv; Qm: put together for the claim. -/
import Derived.Test.YtdkknincamkhpaaDoorPr7
/- Plain law: a leaf climbs to the root by its branch (as XClw, without the laws of layer 10). -/
namespace Go.Proofs.YtdkknincamkhpaaDoor

theorem mLvF_ne (f : Nat) (l : List (List UInt8)) : mLvF f l ≠ [] := by
  cases f with
  | zero => simp [mLvF]
  | succ f => rw [mLvF]; split <;> simp
theorem mRootOf_cons (x : List (List UInt8)) (ls : List (List (List UInt8))) (h : ls ≠ []) : mRootOf (x :: ls) = mRootOf ls := by
  unfold mRootOf
  rw [List.getLast?_cons]
  cases hg : ls.getLast? with
  | none => exact absurd (List.getLast?_eq_none_iff.1 hg) h
  | some y => rfl
/-- the place that a place is paired with -/
def mPr (i n : Nat) : Nat := min (if i % 2 = 0 then i + 1 else i - 1) (n - 1)
/-- a leaf's branch over levels -/
def mBr : List (List (List UInt8)) → Nat → List (List UInt8)
  | [], _ => []
  | x :: r, i => if 1 < x.length then x.getD (mPr i x.length) [] :: mBr r (i / 2) else mBr r i
/-- a leaf climbed by a branch -/
def mClimb : List UInt8 → List (List UInt8) → Nat → List UInt8
  | x, [], _ => x
  | x, o :: r, i => if i % 2 = 1 then mClimb (pairB o x) r (i / 2) else mClimb (pairB x o) r (i / 2)
theorem mClimb_length (x : List UInt8) (b : List (List UInt8)) (i : Nat) (hx : x.length = 32) : (mClimb x b i).length = 32 := by
  induction b generalizing x i with
  | nil => exact hx
  | cons o r ih =>
    rw [mClimb]
    split
    · exact ih _ _ (pairB_length _ _)
    · exact ih _ _ (pairB_length _ _)
theorem mUp_getD (l : List (List UInt8)) (k : Nat) (h : 2 * k < l.length) : (mUp l).getD k [] = pairB (l.getD (2 * k) []) (l.getD (min (2 * k + 1) (l.length - 1)) []) := by
  rw [List.getD_eq_getElem?_getD, mUp_get l k h, Option.getD_some]
theorem mRootOf_one (l : List (List UInt8)) : mRootOf [l] = l.getD 0 [] := by
  simp [mRootOf]
theorem climb_law : ∀ (f : Nat) (l : List (List UInt8)) (k : Nat), k < l.length → l.length ≤ 2 ^ f → mClimb (l.getD k []) (mBr (mLvF f l) k) k = mRootOf (mLvF f l)
  | 0, l, k, hk, hf => by
    have h1 : l.length = 1 := by simp at hf; omega
    obtain rfl : k = 0 := by omega
    rw [mLvF, mBr, if_neg (by omega), mBr, mClimb, mRootOf_one l]
  | f + 1, l, k, hk, hf => by
    by_cases h1 : l.length ≤ 1
    · obtain rfl : k = 0 := by omega
      rw [mLvF_one _ _ h1, mBr, if_neg (by omega), mBr, mClimb, mRootOf_one l]
    · have hup : (mUp l).length = (l.length + 1) / 2 := mUp_length l
      have hpow : 2 ^ (f + 1) = 2 * 2 ^ f := by rw [Nat.pow_succ]; omega
      rw [mLvF, if_neg h1, mRootOf_cons _ _ (mLvF_ne _ _), mBr, if_pos (by omega), mClimb]
      have ih := climb_law f (mUp l) (k / 2) (by omega) (by omega)
      by_cases ho : k % 2 = 1
      · rw [if_pos ho]
        have e : pairB (l.getD (mPr k l.length) []) (l.getD k []) = (mUp l).getD (k / 2) [] := by
          rw [mUp_getD l (k / 2) (by omega), mPr, if_neg (by omega), show min (k - 1) (l.length - 1) = 2 * (k / 2) by omega, show min (2 * (k / 2) + 1) (l.length - 1) = k by omega]
        rw [e]
        exact ih
      · rw [if_neg ho]
        have e : pairB (l.getD k []) (l.getD (mPr k l.length) []) = (mUp l).getD (k / 2) [] := by
          rw [mUp_getD l (k / 2) (by omega), mPr, if_pos (by omega), show 2 * (k / 2) = k by omega]
        rw [e]
        exact ih
/-- how high a tree is -/
def mHt (l : List (List UInt8)) : Nat := (mLv l).length - 1
theorem mBr_length : ∀ (f : Nat) (l : List (List UInt8)) (k : Nat), 0 < l.length → l.length ≤ 2 ^ f → (mBr (mLvF f l) k).length + 1 = (mLvF f l).length
  | 0, l, k, h0, hf => by
    have h1 : l.length = 1 := by simp at hf; omega
    rw [mLvF, mBr, if_neg (by omega), mBr]; rfl
  | f + 1, l, k, h0, hf => by
    by_cases h1 : l.length ≤ 1
    · rw [mLvF_one _ _ h1, mBr, if_neg (by omega), mBr]; rfl
    · have hup : (mUp l).length = (l.length + 1) / 2 := mUp_length l
      have hpow : 2 ^ (f + 1) = 2 * 2 ^ f := by rw [Nat.pow_succ]; omega
      rw [mLvF, if_neg h1, mBr, if_pos (by omega), List.length_cons, mBr_length f (mUp l) (k / 2) (by omega) (by omega), List.length_cons]
theorem mBr_32 : ∀ (ls : List (List (List UInt8))) (i : Nat), (∀ x ∈ ls, All32 x) → All32 (mBr ls i)
  | [], _, _ => fun _ h => by cases h
  | x :: r, i, h => by
    rw [mBr]
    split
    · rename_i hx
      intro y hy
      rcases List.mem_cons.1 hy with hy | hy
      · rw [hy]
        exact (h x (List.mem_cons_self ..)).get _ (by rw [mPr]; omega)
      · exact mBr_32 r _ (fun z hz => h z (List.mem_cons_of_mem _ hz)) y hy
    · exact mBr_32 r _ (fun z hz => h z (List.mem_cons_of_mem _ hz))
end Go.Proofs.YtdkknincamkhpaaDoor
/- What a match is paired with, up to the root: plain laws. -/
namespace Go.Proofs.YtdkknincamkhpaaDoor
open Go.RowKit
def pSide (pos h i : Nat) (a b : List UInt8) : List (List UInt8) := if pos / 2 ^ h = 2 * i then [b] else if pos / 2 ^ h = 2 * i + 1 then [a] else []
/-- what the nodes above a place are paired with, below a node -/
def pPth (n : Nat) (fl : List UInt8) (hs : List (List UInt8)) (pos : Nat) : Nat → Nat → Nat → Nat → List (List UInt8)
  | 0, _, _, _ => []
  | h + 1, i, d, k =>
    match pDig fl d with
    | some true =>
      match pRd n fl hs h (2 * i) (d + 1) k with
      | some a =>
        if 2 * i + 1 < pWd n h then
          match pRd n fl hs h (2 * i + 1) a.d a.k with
          | some b => pPth n fl hs pos h (2 * i) (d + 1) k ++ pPth n fl hs pos h (2 * i + 1) a.d a.k ++ pSide pos h i a.x b.x
          | none => []
        else pPth n fl hs pos h (2 * i) (d + 1) k ++ pSide pos h i a.x a.x
      | none => []
    | _ => []
theorem half_pow (pos h : Nat) : pos / 2 ^ (h + 1) = pos / 2 ^ h / 2 := by rw [Nat.pow_succ, Nat.div_div_eq_div_mul]
theorem mClimb_snoc (z : List UInt8) : ∀ (p : List (List UInt8)) (x : List UInt8) (i : Nat), mClimb x (p ++ [z]) i = if i / 2 ^ p.length % 2 = 1 then pairB z (mClimb x p i) else pairB (mClimb x p i) z
  | [], x, i => by
    rw [List.nil_append, mClimb, mClimb, mClimb, mClimb, List.length_nil, Nat.pow_zero, Nat.div_one]
  | o :: p, x, i => by
    have e : i / 2 ^ (p.length + 1) = i / 2 / 2 ^ p.length := by rw [Nat.pow_succ, Nat.mul_comm, Nat.div_div_eq_div_mul]
    rw [List.cons_append, mClimb, mClimb, List.length_cons, e]
    split
    · exact mClimb_snoc z p _ _
    · exact mClimb_snoc z p _ _
theorem pPth_out (n : Nat) (fl : List UInt8) (hs : List (List UInt8)) (pos : Nat) : ∀ (h i d k : Nat), pos / 2 ^ h ≠ i → pPth n fl hs pos h i d k = []
  | 0, _, _, _, _ => by rw [pPth]
  | h + 1, i, d, k, hne => by
    rw [half_pow] at hne
    have h1 := pPth_out n fl hs pos h (2 * i) (d + 1) k (by omega)
    have hs1 : ∀ a b, pSide pos h i a b = [] := fun a b => by
      unfold pSide
      rw [if_neg (by omega), if_neg (by omega)]
    rw [pPth]
    split
    · split
      · rename_i a _
        have h2 := pPth_out n fl hs pos h (2 * i + 1) a.d a.k (by omega)
        split
        · split
          · rw [h1, h2, hs1]; rfl
          · rfl
        · rw [h1, hs1]; rfl
      · rfl
    · rfl
theorem div_of_range {pos h i : Nat} (h1 : i * 2 ^ h ≤ pos) (h2 : pos < (i + 1) * 2 ^ h) : pos / 2 ^ h = i := by
  have hp : 0 < 2 ^ h := Nat.pow_pos (by omega)
  apply Nat.div_eq_of_lt_le
  · exact h1
  · exact h2
/-- a match climbs to its node -/
theorem pPth_in (n : Nat) (fl : List UInt8) (hs : List (List UInt8)) (pos : Nat) (y : List UInt8) : ∀ (h i d k : Nat) (r : PRes), i < pWd n h → pRd n fl hs h i d k = some r → (pos, y) ∈ r.l → (pPth n fl hs pos h i d k).length = h ∧ mClimb y (pPth n fl hs pos h i d k) pos = r.x
  | 0, i, d, k, r, _, hr, hp => by
    rw [pRd] at hr
    cases e : pDig fl d with
    | none => rw [e] at hr; cases hr
    | some b =>
      rw [e, Option.bind_some] at hr
      cases e1 : hs[k]? with
      | none => rw [e1] at hr; cases hr
      | some x =>
        rw [e1] at hr
        obtain rfl := Option.some.inj hr
        dsimp only at hp ⊢
        split at hp
        · have := List.mem_singleton.1 hp
          injection this with q1 q2
          rw [pPth, mClimb]
          exact ⟨rfl, q2⟩
        · cases hp
  | h + 1, i, d, k, r, hi, hr, hp => by
    rw [pRd] at hr
    rw [pPth]
    rw [pWd_succ] at hi
    cases e : pDig fl d with
    | none => rw [e] at hr; cases hr
    | some b =>
      rw [e, Option.bind_some] at hr
      cases b with
      | false =>
        rw [if_neg (by simp)] at hr
        cases e1 : hs[k]? with
        | none => rw [e1] at hr; cases hr
        | some x =>
          rw [e1] at hr
          obtain rfl := Option.some.inj hr
          cases hp
      | true =>
        rw [if_pos rfl] at hr
        cases e1 : pRd n fl hs h (2 * i) (d + 1) k with
        | none => rw [e1] at hr; cases hr
        | some a =>
          rw [e1, Option.bind_some] at hr
          have pa := pRd_places n fl hs h (2 * i) (d + 1) k a (by omega) e1
          dsimp only
          split at hr
          · rename_i hw
            rw [if_pos hw]
            cases e2 : pRd n fl hs h (2 * i + 1) a.d a.k with
            | none => rw [e2] at hr; cases hr
            | some c =>
              rw [e2, Option.bind_some] at hr
              have pc := pRd_places n fl hs h (2 * i + 1) a.d a.k c hw e2
              dsimp only
              split at hr
              · cases hr
              · obtain rfl := Option.some.inj hr
                dsimp only at hp ⊢
                rcases List.mem_append.1 hp with hp | hp
                · obtain ⟨q1, q2, _⟩ := pa.1 _ hp
                  have hpos : pos / 2 ^ h = 2 * i := div_of_range q1 q2
                  obtain ⟨s1, s2⟩ := pPth_in n fl hs pos y h (2 * i) (d + 1) k a (by omega) e1 hp
                  rw [pPth_out n fl hs pos h (2 * i + 1) a.d a.k (by omega), List.append_nil]
                  unfold pSide
                  rw [if_pos hpos, List.length_append, s1, mClimb_snoc, s1, hpos, if_neg (by omega), s2]
                  exact ⟨rfl, rfl⟩
                · obtain ⟨q1, q2, _⟩ := pc.1 _ hp
                  have hpos : pos / 2 ^ h = 2 * i + 1 := div_of_range q1 q2
                  obtain ⟨s1, s2⟩ := pPth_in n fl hs pos y h (2 * i + 1) a.d a.k c hw e2 hp
                  rw [pPth_out n fl hs pos h (2 * i) (d + 1) k (by omega), List.nil_append]
                  unfold pSide
                  rw [if_neg (by omega), if_pos hpos, List.length_append, s1, mClimb_snoc, s1, hpos, if_pos (by omega), s2]
                  exact ⟨rfl, rfl⟩
          · rename_i hw
            rw [if_neg hw]
            obtain rfl := Option.some.inj hr
            dsimp only at hp ⊢
            obtain ⟨q1, q2, _⟩ := pa.1 _ hp
            have hpos : pos / 2 ^ h = 2 * i := div_of_range q1 q2
            obtain ⟨s1, s2⟩ := pPth_in n fl hs pos y h (2 * i) (d + 1) k a (by omega) e1 hp
            unfold pSide
            rw [if_pos hpos, List.length_append, s1, mClimb_snoc, s1, hpos, if_neg (by omega), s2]
            exact ⟨rfl, rfl⟩
theorem pPth_32 (n : Nat) (fl : List UInt8) (hs : List (List UInt8)) (h32 : All32 hs) (pos : Nat) : ∀ (h i d k : Nat), All32 (pPth n fl hs pos h i d k)
  | 0, _, _, _ => by rw [pPth]; exact fun x hx => by cases hx
  | h + 1, i, d, k => by
    have hs1 : ∀ a b : List UInt8, a.length = 32 → b.length = 32 → All32 (pSide pos h i a b) := fun a b ha hb => by
      unfold pSide
      split
      · exact All32.one hb
      · split
        · exact All32.one ha
        · exact fun x hx => by cases hx
    have app : ∀ a b : List (List UInt8), All32 a → All32 b → All32 (a ++ b) := fun a b ha hb x hx => by
      rcases List.mem_append.1 hx with hx | hx
      · exact ha x hx
      · exact hb x hx
    have nil : All32 ([] : List (List UInt8)) := fun x hx => by cases hx
    rw [pPth]
    split
    · split
      · rename_i a e1
        have a32 := (pRd_bounds n fl hs h32 _ _ _ _ _ e1).2.2.2.2.2.1
        split
        · split
          · rename_i b e2
            have b32 := (pRd_bounds n fl hs h32 _ _ _ _ _ e2).2.2.2.2.2.1
            exact app _ _ (app _ _ (pPth_32 n fl hs h32 pos h _ _ _) (pPth_32 n fl hs h32 pos h _ _ _)) (hs1 _ _ a32 b32)
          · exact nil
        · exact app _ _ (pPth_32 n fl hs h32 pos h _ _ _) (hs1 _ _ a32 a32)
      · exact nil
    · exact nil
end Go.Proofs.YtdkknincamkhpaaDoor

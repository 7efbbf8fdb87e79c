/- Parts of a tree: what is extracted of what was built; of any part, what is extracted with one hash or byte more, or less. -/
import Derived.Test.YtmdllemgjhkphaaDoorPz
namespace Go.Proofs.YtmdllemgjhkphaaDoor
open Go.RowKit
theorem nH_zero (hs : List (List UInt8)) (n : Nat) (hn : hs.length = n) (h0 : 0 < n) (h1 : n ≤ 4096) (p : Nat) : nH (mLv hs) 0 p = hs.getD p [] := by
  obtain ⟨_, e2, _, _⟩ := lvq_levels hs n hn h0 h1
  unfold nH
  rw [List.getD_eq_getElem?_getD (l := mLv hs), e2]
  rfl
theorem mRootOf_nH (hs : List (List UInt8)) (n : Nat) (hn : hs.length = n) (h0 : 0 < n) (h1 : n ≤ 4096) : mRootOf (mLv hs) = nH (mLv hs) (pHt n) 0 := by
  obtain ⟨e1, _, e3, _⟩ := lvq_levels hs n hn h0 h1
  unfold mRootOf nH
  rw [List.getLast?_eq_getElem?, e1, Nat.add_sub_cancel, List.getD_eq_getElem?_getD (l := mLv hs)]
  have hx : (mLv hs)[pHt n]? = some ((mLv hs)[pHt n]'(by omega)) := List.getElem?_eq_getElem (by omega)
  have hl := e3 _ _ hx
  have hp := pHt_pos n h0
  rw [hx, Option.map_some, Option.getD_some, Option.getD_some, List.getD_eq_getElem?_getD]
/-- the matches, in order -/
def mts (n : Nat) (ms : List Bool) (hs : List (List UInt8)) : List (Nat × List UInt8) := (List.range n).filterMap fun p => if ms.getD p false then some (p, hs.getD p []) else none
theorem pLc_root (n : Nat) (h1 : n ≤ 4096) : pLc n (pHt n) 0 = n := by
  have h2 := (pHt_spec n h1).2.2
  have hp : 0 < 2 ^ pHt n := Nat.pow_pos (by omega)
  unfold pWd at h2
  rw [Nat.div_le_iff_le_mul hp] at h2
  unfold pLc
  simp only [Nat.zero_add, Nat.one_mul, Nat.zero_mul]
  omega
theorem pMt_root (hs : List (List UInt8)) (ms : List Bool) (n : Nat) (hn : hs.length = n) (h0 : 0 < n) (h1 : n ≤ 4096) : pMt n ms (mLv hs) (pHt n) 0 = mts n ms hs := by
  rw [pMt_eq ms (mLv hs) (pHt n) 0 (pHt_pos n h0), pLc_root n h1, Nat.zero_mul, ← List.range_eq_range']
  unfold mts
  congr 1
  funext p
  rw [mtF, nH_zero hs n hn h0 h1]
theorem pBhs_length (hs : List (List UInt8)) (ms : List Bool) (n : Nat) (hn : hs.length = n) (h0 : 0 < n) (h1 : n ≤ 4096) : 0 < (pBhs hs ms).length ∧ (pBhs hs ms).length ≤ n ∧ (pBhs hs ms).length ≤ (pAll n ms).length := by
  have h := pHs_le ms (mLv hs) (pHt n) 0 (pHt_pos n h0)
  rw [pLc_root n h1] at h
  unfold pBhs
  rw [hn]
  refine ⟨h.2, h.1, ?_⟩
  unfold pHs
  rw [List.length_map]
  exact List.length_filter_le _ _
theorem pBfl_length (n : Nat) (ms : List Bool) : (pBfl n ms).length = ((pAll n ms).length + 7) / 8 := by rw [pBfl, pFlags_length, List.length_map]
/-- what is extracted of what was built -/
theorem pExt_built (hs : List (List UInt8)) (ms : List Bool) (n : Nat) (hn : hs.length = n) (h0 : 0 < n) (h1 : n ≤ 4096) :
    pExt n (pBhs hs ms) (pBfl n ms) = if pOk n ms (mLv hs) (pHt n) 0 then some ⟨mRootOf (mLv hs), mts n ms hs, (pAll n ms).length, (pBhs hs ms).length⟩ else none := by
  obtain ⟨b0, b1, b2⟩ := pBhs_length hs ms n hn h0 h1
  have hfl := pBfl_length n ms
  have hmay : pMay n (pBhs hs ms) (pBfl n ms) = true := decide_eq_true ⟨by omega, h1, b1, by omega⟩
  have hbh : pBhs hs ms = pHs (mLv hs) (pAll n ms) := by rw [pBhs, hn]
  unfold pExt
  rw [if_pos hmay, pRd_vis (plv_of hs n hn h0 h1) (pBfl n ms) (pBhs hs ms) (pHt n) 0 0 0 (Nat.le_refl _) (pHt_pos n h0) (fun j x hx => ?_) (fun j y hy => ?_)]
  · cases pOk n ms (mLv hs) (pHt n) 0 with
    | false => rfl
    | true =>
      rw [if_pos rfl, if_pos rfl, mRootOf_nH hs n hn h0 h1, pMt_root hs ms n hn h0 h1, Option.filter_some, if_pos]
      · rw [hbh, Nat.zero_add, Nat.zero_add]
        rfl
      · have hall : pVis n ms (pHt n) 0 = pAll n ms := rfl
        rw [hall, ← hbh, Nat.zero_add, Nat.zero_add]
        unfold pDone
        rw [decide_eq_true ⟨rfl, hfl.symm⟩, Bool.true_and]
        unfold pRest
        rw [List.all_eq_true]
        intro j hj
        have hj' : j < (8 - (pAll n ms).length % 8) % 8 := List.mem_range.1 hj
        clear hj
        have := pFlags_digits ((pAll n ms).map PV.d) ((pAll n ms).length + j) (by rw [pFlags_length, List.length_map]; omega)
        rw [← show pBfl n ms = pFlags ((pAll n ms).map PV.d) from rfl] at this
        rw [this, List.getD_eq_getElem?_getD, List.getElem?_eq_none (by rw [List.length_map]; omega)]
        rfl
  · rw [Nat.zero_add]
    have hj := (List.getElem?_eq_some_iff.1 hx).1
    have := pFlags_digits ((pAll n ms).map PV.d) j (by rw [pFlags_length]; unfold pAll; omega)
    rw [← show pBfl n ms = pFlags ((pAll n ms).map PV.d) from rfl] at this
    rw [this, List.getD_eq_getElem?_getD, show ((pAll n ms).map PV.d)[j]? = some x from hx]
    rfl
  · rw [Nat.zero_add, hbh]
    exact hy
theorem pOk_unlike (hs : List (List UInt8)) (ms : List Bool) (n : Nat) (hn : hs.length = n) (h0 : 0 < n) (h1 : n ≤ 4096) (ha : mAlike (mLv hs) = false) : pOk n ms (mLv hs) (pHt n) 0 = true := by
  refine pOk_of (H := pHt n) (fun h i hh hi e => ?_) _ _ (Nat.le_refl _)
  rw [(mAlike_iff hs n hn h0 h1).2 ⟨h, i, hh, hi, e⟩] at ha
  cases ha
theorem pOk_whole_iff (hs : List (List UInt8)) (ms : List Bool) (n : Nat) (hn : hs.length = n) (h0 : 0 < n) (h1 : n ≤ 4096) (hall : ∀ k, k < n → ms.getD k false = true) : pOk n ms (mLv hs) (pHt n) 0 = !mAlike (mLv hs) := by
  cases ha : mAlike (mLv hs) with
  | false => exact pOk_unlike hs ms n hn h0 h1 ha
  | true =>
    cases hok : pOk n ms (mLv hs) (pHt n) 0 with
    | false => rfl
    | true =>
      obtain ⟨h, i, hh, hi, e⟩ := (mAlike_iff hs n hn h0 h1).1 ha
      have hlt : h < pHt n := by
        rcases Nat.lt_or_ge h (pHt n) with q | q
        · exact q
        · obtain rfl : h = pHt n := by omega
          have := (pHt_spec n h1).2.2
          omega
      have h3 := (pWd_lt n h (2 * i + 1)).1 hi
      have h4 := pLc_root n h1
      refine absurd e (pOk_whole hall (pHt n) 0 (pHt_pos n h0) hok h i hlt (by simp) ?_ hi)
      unfold pLc at h4
      simp only [Nat.zero_add, Nat.one_mul, Nat.zero_mul] at h4 ⊢
      have e5 : 2 ^ pHt n = 2 ^ (pHt n - h) * 2 ^ h := by rw [← Nat.pow_add]; congr 1; omega
      have hp : 0 < 2 ^ h := Nat.pow_pos (by omega)
      rw [e5] at h4
      apply Nat.lt_of_mul_lt_mul_right (a := 2 ^ h)
      have : (2 * i) * 2 ^ h ≤ (2 * i + 1) * 2 ^ h := Nat.mul_le_mul_right _ (by omega)
      omega
/-- with no match: the root alone -/
theorem pAll_none (n : Nat) : pAll n [] = [⟨pHt n, 0, false⟩] := by
  have h : pHas n [] (pHt n) 0 = false := pHas_false (fun k _ _ _ h4 => absurd h4 (by simp))
  unfold pAll
  rw [pVis_told (fun e => by rw [h] at e; cases e), h]
theorem pBhs_none (hs : List (List UInt8)) (n : Nat) (hn : hs.length = n) (h0 : 0 < n) (h1 : n ≤ 4096) : pBhs hs [] = [mRootOf (mLv hs)] := by
  rw [mRootOf_nH hs n hn h0 h1, pBhs, hn, pAll_none, pHs_cons]
  simp [PV.told, pHs]
theorem pBfl_none (n : Nat) : pBfl n [] = [0] := by
  rw [pBfl, pAll_none]
  rfl
theorem pBhs_whole (hs : List (List UInt8)) (ms : List Bool) (n : Nat) (hn : hs.length = n) (h0 : 0 < n) (h1 : n ≤ 4096) (hall : ∀ k, k < n → ms.getD k false = true) : pBhs hs ms = hs := by
  rw [pBhs, hn, pAll, pHs_whole hall (mLv hs) (pHt n) 0 (pHt_pos n h0), pLc_root n h1, Nat.zero_mul, ← List.range_eq_range']
  apply List.ext_getElem
  · simp [hn]
  · intro i q1 q2
    rw [List.getElem_map, List.getElem_range, nH_zero hs n hn h0 h1, List.getD_eq_getElem?_getD, List.getElem?_eq_getElem q2]
    rfl
/-! ### of any part -/
theorem pExt_some {tot : Nat} {hs : List (List UInt8)} {fl : List UInt8} {r : PRes} (h : pExt tot hs fl = some r) : pMay tot hs fl = true ∧ pRd tot fl hs (pHt tot) 0 0 0 = some r ∧ r.k = hs.length ∧ (r.d + 7) / 8 = fl.length := by
  unfold pExt at h
  split at h
  · rename_i hm
    obtain ⟨h1, h2⟩ := Option.filter_eq_some_iff.1 h
    unfold pDone at h2
    rw [Bool.and_eq_true] at h2
    have := of_decide_eq_true h2.1
    exact ⟨hm, h1, this.1, this.2⟩
  · cases h
theorem pDig_app {fl : List UInt8} {d : Nat} {b : Bool} (c : UInt8) (h : pDig fl d = some b) : pDig (fl ++ [c]) d = some b := by
  have := pDig_some h
  unfold pDig at h ⊢
  rw [List.getElem?_append_left (by omega)]
  exact h
theorem pDig_take {fl : List UInt8} {d m : Nat} {b : Bool} (h : pDig (fl.take m) d = some b) : pDig fl d = some b := by
  unfold pDig at h ⊢
  rw [List.getElem?_take] at h
  split at h
  · exact h
  · cases h
theorem get_take {α : Type} {l : List α} {m k : Nat} {x : α} (h : (l.take m)[k]? = some x) : l[k]? = some x := by
  rw [List.getElem?_take] at h
  split at h
  · exact h
  · cases h
theorem get_app {α : Type} {l : List α} {k : Nat} {x : α} (y : α) (h : l[k]? = some x) : (l ++ [y])[k]? = some x := by
  rw [List.getElem?_append_left (List.getElem?_eq_some_iff.1 h).1]
  exact h
/-- one hash more -/
theorem pExt_moreH {tot : Nat} {hs : List (List UInt8)} {fl : List UInt8} {r : PRes} (h : pExt tot hs fl = some r) (y : List UInt8) : pExt tot (hs ++ [y]) fl = none := by
  obtain ⟨_, h2, h3, _⟩ := pExt_some h
  cases e : pExt tot (hs ++ [y]) fl with
  | none => rfl
  | some r' =>
    obtain ⟨_, q2, q3, _⟩ := pExt_some e
    have := pRd_mono tot fl fl hs (hs ++ [y]) (fun _ _ h => h) (fun _ _ h => get_app y h) _ _ _ _ _ h2
    rw [q2] at this
    obtain rfl := Option.some.inj this
    rw [List.length_append, List.length_singleton] at q3
    omega
theorem pExt_moreF {tot : Nat} {hs : List (List UInt8)} {fl : List UInt8} {r : PRes} (h : pExt tot hs fl = some r) (c : UInt8) : pExt tot hs (fl ++ [c]) = none := by
  obtain ⟨_, h2, _, h4⟩ := pExt_some h
  cases e : pExt tot hs (fl ++ [c]) with
  | none => rfl
  | some r' =>
    obtain ⟨_, q2, _, q4⟩ := pExt_some e
    have := pRd_mono tot fl (fl ++ [c]) hs hs (fun _ _ h => pDig_app c h) (fun _ _ h => h) _ _ _ _ _ h2
    rw [q2] at this
    obtain rfl := Option.some.inj this
    rw [List.length_append, List.length_singleton] at q4
    omega
theorem pExt_lessH {tot : Nat} {hs : List (List UInt8)} {fl : List UInt8} {r : PRes} (h : pExt tot hs fl = some r) (m : Nat) (hm : m < hs.length) : pExt tot (hs.take m) fl = none := by
  obtain ⟨_, h2, h3, _⟩ := pExt_some h
  cases e : pExt tot (hs.take m) fl with
  | none => rfl
  | some r' =>
    obtain ⟨_, q2, q3, _⟩ := pExt_some e
    have := pRd_mono tot fl fl (hs.take m) hs (fun _ _ h => h) (fun _ _ h => get_take h) _ _ _ _ _ q2
    rw [h2] at this
    obtain rfl := Option.some.inj this
    rw [List.length_take] at q3
    omega
theorem pExt_lessF {tot : Nat} {hs : List (List UInt8)} {fl : List UInt8} {r : PRes} (h : pExt tot hs fl = some r) (m : Nat) (hm : m < fl.length) : pExt tot hs (fl.take m) = none := by
  obtain ⟨_, h2, _, h4⟩ := pExt_some h
  cases e : pExt tot hs (fl.take m) with
  | none => rfl
  | some r' =>
    obtain ⟨_, q2, _, q4⟩ := pExt_some e
    have := pRd_mono tot (fl.take m) fl hs hs (fun _ _ h => pDig_take h) (fun _ _ h => h) _ _ _ _ _ q2
    rw [h2] at this
    obtain rfl := Option.some.inj this
    rw [List.length_take] at q4
    omega
theorem pExt_facts {tot : Nat} {hs : List (List UInt8)} (h32 : All32 hs) {fl : List UInt8} {r : PRes} (h : pExt tot hs fl = some r) : 0 < hs.length ∧ 0 < fl.length ∧ r.l.length ≤ hs.length ∧ r.x.length = 32 ∧ (∀ p ∈ r.l, p.2.length = 32) ∧ (∀ p ∈ r.l, p.1 < tot) ∧ r.l.Pairwise (fun p q => p.1 < q.1) ∧ tot ≤ 4096 ∧ 0 < tot := by
  obtain ⟨h1, h2, h3, h4⟩ := pExt_some h
  have hb := pRd_bounds tot fl hs h32 _ _ _ _ _ h2
  have hm : tot ≠ 0 ∧ tot ≤ 4096 ∧ hs.length ≤ tot ∧ hs.length ≤ 8 * fl.length := of_decide_eq_true h1
  have hp := pRd_places tot fl hs (pHt tot) 0 0 0 r (pHt_pos tot (by omega)) h2
  refine ⟨by omega, by omega, by omega, hb.2.2.2.2.2.1, hb.2.2.2.2.2.2, fun p hp' => (hp.1 p hp').2.2, hp.2, hm.2.1, by omega⟩
end Go.Proofs.YtmdllemgjhkphaaDoor

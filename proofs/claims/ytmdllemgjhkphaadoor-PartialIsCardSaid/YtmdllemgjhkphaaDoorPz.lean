/- Parts of a tree: alike ones, counts, matches; what is extracted of what was built. -/
import Derived.Test.YtmdllemgjhkphaaDoorPr20
namespace Go.Proofs.YtmdllemgjhkphaaDoor
open Go.RowKit
theorem pWd_lt (n h j : Nat) : j < pWd n h ↔ j * 2 ^ h < n := by
  have hp : 0 < 2 ^ h := Nat.pow_pos (by omega)
  unfold pWd
  rw [Nat.lt_iff_add_one_le, Nat.le_div_iff_mul_le hp, Nat.add_mul, Nat.one_mul]
  omega
theorem pow_s (h : Nat) : 2 ^ (h + 1) = 2 * 2 ^ h := by rw [Nat.pow_succ]; omega
theorem mAlike1_iff : ∀ (x : List (List UInt8)), mAlike1 x = true ↔ ∃ i, 2 * i + 1 < x.length ∧ x.getD (2 * i) [] = x.getD (2 * i + 1) []
  | [] => by simp [mAlike1]
  | [_] => by simp [mAlike1]
  | a :: b :: r => by
    rw [mAlike1, Bool.or_eq_true, mAlike1_iff r]
    constructor
    · rintro (h | ⟨i, h1, h2⟩)
      · exact ⟨0, by simp, by simpa using h⟩
      · exact ⟨i + 1, by simp; omega, by
          rw [show 2 * (i + 1) + 1 = (2 * i + 1) + 1 + 1 by omega, show 2 * (i + 1) = 2 * i + 1 + 1 by omega]
          simpa using h2⟩
    · rintro ⟨i, h1, h2⟩
      cases i with
      | zero => left; simpa using h2
      | succ i =>
        right
        refine ⟨i, by simp at h1; omega, ?_⟩
        rw [show 2 * (i + 1) + 1 = (2 * i + 1) + 1 + 1 by omega, show 2 * (i + 1) = 2 * i + 1 + 1 by omega] at h2
        simpa using h2
theorem mAlike_iff (l : List (List UInt8)) (n : Nat) (hn : l.length = n) (h0 : 0 < n) (h1 : n ≤ 4096) : mAlike (mLv l) = true ↔ ∃ h i, h ≤ pHt n ∧ 2 * i + 1 < pWd n h ∧ nH (mLv l) h (2 * i) = nH (mLv l) h (2 * i + 1) := by
  obtain ⟨e1, _, e3, _⟩ := lvq_levels l n hn h0 h1
  unfold mAlike
  rw [List.any_eq_true]
  constructor
  · rintro ⟨x, hx, ha⟩
    obtain ⟨h, hh⟩ := List.mem_iff_getElem?.1 hx
    obtain ⟨i, h2, h3⟩ := (mAlike1_iff x).1 ha
    have hl := e3 h x hh
    have := (List.getElem?_eq_some_iff.1 hh).1
    refine ⟨h, i, by omega, by omega, ?_⟩
    unfold nH
    rw [List.getD_eq_getElem?_getD (l := mLv l), hh]
    exact h3
  · rintro ⟨h, i, h2, h3, h4⟩
    have hx : (mLv l)[h]? = some ((mLv l)[h]'(by omega)) := List.getElem?_eq_getElem (by omega)
    have hl := e3 h _ hx
    generalize (mLv l)[h]'(by omega) = x at hx hl
    refine ⟨x, List.mem_of_getElem? hx, (mAlike1_iff x).2 ⟨i, by omega, ?_⟩⟩
    unfold nH at h4
    rw [List.getD_eq_getElem?_getD (l := mLv l), hx] at h4
    exact h4
theorem pOk_of {n : Nat} {ms : List Bool} {ls : List (List (List UInt8))} {H : Nat} (hna : ∀ h i, h ≤ H → 2 * i + 1 < pWd n h → nH ls h (2 * i) ≠ nH ls h (2 * i + 1)) : ∀ (h i : Nat), h ≤ H → pOk n ms ls h i = true
  | 0, _, _ => by rw [pOk]
  | h + 1, i, hh => by
    rw [pOk, pOk_of hna h (2 * i) (by omega), pOk_of hna h (2 * i + 1) (by omega)]
    by_cases hw : 2 * i + 1 < pWd n h
    · have := hna h i (by omega) hw
      simp [hw, this]
    · simp [hw]
/-- where all leaves match, all that is paired is gone to -/
theorem pOk_whole {n : Nat} {ms : List Bool} {ls : List (List (List UInt8))} (hall : ∀ k, k < n → ms.getD k false = true) : ∀ (h i : Nat), i < pWd n h → pOk n ms ls h i = true → ∀ g j, g < h → i * 2 ^ (h - g) ≤ 2 * j → 2 * j < (i + 1) * 2 ^ (h - g) → 2 * j + 1 < pWd n g → nH ls g (2 * j) ≠ nH ls g (2 * j + 1)
  | 0, _, _, _, g, _, hg, _, _, _ => absurd hg (Nat.not_lt_zero _)
  | h + 1, i, hi, hok, g, j, hg, h1, h2, h3 => by
    have hhas : pHas n ms (h + 1) i = true := by
      have hn := (pWd_lt n (h + 1) i).1 hi
      have hp : 0 < 2 ^ (h + 1) := Nat.pow_pos (by omega)
      exact pHas_true (Nat.le_refl _) (by rw [Nat.add_mul, Nat.one_mul]; omega) hn (hall _ hn)
    rw [pOk, hhas] at hok
    simp only [Bool.not_true, Bool.false_or, Bool.and_eq_true, Bool.or_eq_true, Bool.not_eq_true', decide_eq_false_iff_not, bne_iff_ne, ne_eq] at hok
    obtain ⟨o1, o2⟩ := hok
    have hi2 : 2 * i < pWd n h := by rw [pWd_succ] at hi; omega
    by_cases hgh : g = h
    · subst hgh
      rw [show g + 1 - g = 1 by omega, Nat.pow_one] at h1 h2
      obtain rfl : j = i := by omega
      rcases o2 with o2 | o2
      · exact absurd h3 o2
      · exact o2.2
    · have e : 2 ^ (h + 1 - g) = 2 * 2 ^ (h - g) := by rw [show h + 1 - g = (h - g) + 1 by omega, pow_s]
      have e1 : i * 2 ^ (h + 1 - g) = (2 * i) * 2 ^ (h - g) := by rw [e, ← Nat.mul_assoc, Nat.mul_comm i 2]
      have e2 : (i + 1) * 2 ^ (h + 1 - g) = (2 * i + 1 + 1) * 2 ^ (h - g) := by rw [e, ← Nat.mul_assoc, Nat.mul_comm (i + 1) 2, Nat.mul_add]
      rw [e1] at h1
      rw [e2] at h2
      by_cases hlt : 2 * j < (2 * i + 1) * 2 ^ (h - g)
      · exact pOk_whole hall h (2 * i) hi2 o1 g j (by omega) h1 hlt h3
      · have hw : 2 * i + 1 < pWd n h := by
          rw [pWd_lt]
          have h4 := (pWd_lt n g (2 * j + 1)).1 h3
          have e5 : 2 ^ h = 2 ^ (h - g) * 2 ^ g := by rw [← Nat.pow_add]; congr 1; omega
          rw [e5, ← Nat.mul_assoc]
          have h6 : (2 * i + 1) * 2 ^ (h - g) * 2 ^ g ≤ 2 * j * 2 ^ g := Nat.mul_le_mul_right _ (by omega)
          have h7 : (2 * j) * 2 ^ g ≤ (2 * j + 1) * 2 ^ g := Nat.mul_le_mul_right _ (by omega)
          omega
        rcases o2 with o2 | o2
        · exact absurd hw o2
        · exact pOk_whole hall h (2 * i + 1) hw o2.1 g j (by omega) (by omega) h2 h3
/-- how many leaves lie below a node -/
def pLc (n h i : Nat) : Nat := min ((i + 1) * 2 ^ h) n - i * 2 ^ h
theorem pLc_zero {n i : Nat} (hi : i < pWd n 0) : pLc n 0 i = 1 := by
  rw [pWd_zero] at hi
  unfold pLc
  rw [Nat.pow_zero]
  omega
theorem pLc_two {n h i : Nat} (hw : 2 * i + 1 < pWd n h) : pLc n (h + 1) i = pLc n h (2 * i) + pLc n h (2 * i + 1) ∧ i * 2 ^ (h + 1) = 2 * i * 2 ^ h ∧ 2 * i * 2 ^ h + pLc n h (2 * i) = (2 * i + 1) * 2 ^ h := by
  have h1 := (pWd_lt n h (2 * i + 1)).1 hw
  have e1 : i * 2 ^ (h + 1) = 2 * i * 2 ^ h := by rw [pow_s, ← Nat.mul_assoc, Nat.mul_comm i 2]
  have e2 : (i + 1) * 2 ^ (h + 1) = (2 * i + 1) * 2 ^ h + 2 ^ h := by
    rw [pow_s, ← Nat.mul_assoc, Nat.mul_comm (i + 1) 2, Nat.mul_add, ← Nat.succ_mul]
  have e3 : (2 * i + 1) * 2 ^ h = 2 * i * 2 ^ h + 2 ^ h := by rw [Nat.add_mul, Nat.one_mul]
  have e4 : (2 * i + 1 + 1) * 2 ^ h = (2 * i + 1) * 2 ^ h + 2 ^ h := by rw [Nat.succ_mul]
  unfold pLc
  rw [e1, e2, e4]
  generalize (2 * i + 1) * 2 ^ h = B at *
  generalize 2 * i * 2 ^ h = A at *
  generalize 2 ^ h = P at *
  refine ⟨by omega, rfl, by omega⟩
theorem pLc_one {n h i : Nat} (hi : 2 * i < pWd n h) (hw : ¬ 2 * i + 1 < pWd n h) : pLc n (h + 1) i = pLc n h (2 * i) ∧ i * 2 ^ (h + 1) = 2 * i * 2 ^ h := by
  have h1 := (pWd_lt n h (2 * i)).1 hi
  have h2 : ¬ (2 * i + 1) * 2 ^ h < n := fun h' => hw ((pWd_lt n h (2 * i + 1)).2 h')
  have e1 : i * 2 ^ (h + 1) = 2 * i * 2 ^ h := by rw [pow_s, ← Nat.mul_assoc, Nat.mul_comm i 2]
  have e2 : (i + 1) * 2 ^ (h + 1) = (2 * i + 1) * 2 ^ h + 2 ^ h := by
    rw [pow_s, ← Nat.mul_assoc, Nat.mul_comm (i + 1) 2, Nat.mul_add, ← Nat.succ_mul]
  unfold pLc
  rw [e1, e2]
  generalize (2 * i + 1) * 2 ^ h = B at *
  generalize 2 * i * 2 ^ h = A at *
  generalize 2 ^ h = P at *
  exact ⟨by omega, rfl⟩
theorem pLc_pos {n h i : Nat} (hi : i < pWd n h) : 0 < pLc n h i := by
  have h1 := (pWd_lt n h i).1 hi
  have hp : 0 < 2 ^ h := Nat.pow_pos (by omega)
  unfold pLc
  rw [Nat.add_mul, Nat.one_mul]
  omega
theorem pHs_le {n : Nat} (ms : List Bool) (ls : List (List (List UInt8))) : ∀ (h i : Nat), i < pWd n h → (pHs ls (pVis n ms h i)).length ≤ pLc n h i ∧ 0 < (pHs ls (pVis n ms h i)).length
  | 0, i, hi => by rw [pVis, pLc_zero hi, pHs_cons]; simp [PV.told, pHs]
  | h + 1, i, hi => by
    rw [pVis]
    have hi2 : 2 * i < pWd n h := by rw [pWd_succ] at hi; omega
    cases hb : pHas n ms (h + 1) i with
    | false =>
      have := pLc_pos hi
      rw [pHs_cons]
      simp [PV.told, pHs]
      omega
    | true =>
      rw [pHs_not]
      simp only [↓reduceIte]
      have h1 := pHs_le ms ls h (2 * i) hi2
      rw [pHs_append, List.length_append]
      split
      · rename_i hw
        have h2 := pHs_le ms ls h (2 * i + 1) hw
        rw [(pLc_two hw).1]
        omega
      · rename_i hw
        rw [(pLc_one hi2 hw).1]
        have : (pHs ls ([] : List PV)).length = 0 := rfl
        omega
/-- of a node no leaf matches -/
theorem pHas_none {n : Nat} {ms : List Bool} {h i p : Nat} (hb : pHas n ms h i = false) (h1 : i * 2 ^ h ≤ p) (h2 : p < i * 2 ^ h + pLc n h i) : ms.getD p false = false := by
  cases e : ms.getD p false with
  | false => rfl
  | true =>
    unfold pLc at h2
    have := pHas_true (n := n) (ms := ms) (h := h) (i := i) (k := p) h1 (by omega) (by omega) e
    rw [hb] at this
    cases this
theorem range'_split (a m k b : Nat) (h : a + m = b) : List.range' a (m + k) = List.range' a m ++ List.range' b k := by
  rw [← h, List.range'_append_1]
def mtF (ms : List Bool) (ls : List (List (List UInt8))) (p : Nat) : Option (Nat × List UInt8) := if ms.getD p false then some (p, nH ls 0 p) else none
theorem pMt_eq {n : Nat} (ms : List Bool) (ls : List (List (List UInt8))) : ∀ (h i : Nat), i < pWd n h → pMt n ms ls h i = (List.range' (i * 2 ^ h) (pLc n h i)).filterMap (mtF ms ls)
  | 0, i, hi => by
    rw [pMt, pLc_zero hi, Nat.pow_zero, Nat.mul_one]
    rw [pWd_zero] at hi
    cases hb : pHas n ms 0 i with
    | false =>
      have := pHas_none (p := i) hb (by simp) (by rw [pLc_zero (by rw [pWd_zero]; exact hi)]; simp)
      rw [if_neg (by simp), List.range'_one, List.filterMap_cons, mtF, this]
      rfl
    | true =>
      obtain ⟨k, k1, k2, k3, k4⟩ := (pHas_iff n ms 0 i).1 hb
      obtain rfl : k = i := by simp at k1 k2; omega
      rw [if_pos rfl, List.range'_one, List.filterMap_cons, mtF, k4]
      rfl
  | h + 1, i, hi => by
    rw [pMt]
    have hi2 : 2 * i < pWd n h := by rw [pWd_succ] at hi; omega
    cases hb : pHas n ms (h + 1) i with
    | false =>
      rw [if_neg (by simp)]
      symm
      rw [List.filterMap_eq_nil_iff]
      intro p hp
      obtain ⟨p1, p2⟩ := List.mem_range'_1.1 hp
      rw [mtF, pHas_none hb p1 p2]
      rfl
    | true =>
      simp only [↓reduceIte]
      rw [pMt_eq ms ls h (2 * i) hi2]
      split
      · rename_i hw
        obtain ⟨e1, e2, e3⟩ := pLc_two hw
        rw [pMt_eq ms ls h (2 * i + 1) hw, e1, e2, range'_split _ _ _ _ e3, List.filterMap_append]
      · rename_i hw
        obtain ⟨e1, e2⟩ := pLc_one hi2 hw
        rw [e1, e2, List.append_nil]
theorem pHs_whole {n : Nat} {ms : List Bool} (hall : ∀ k, k < n → ms.getD k false = true) (ls : List (List (List UInt8))) : ∀ (h i : Nat), i < pWd n h → pHs ls (pVis n ms h i) = (List.range' (i * 2 ^ h) (pLc n h i)).map (nH ls 0)
  | 0, i, hi => by
    rw [pVis, pLc_zero hi, pHs_cons, Nat.pow_zero, Nat.mul_one, List.range'_one]
    simp [PV.told, pHs]
  | h + 1, i, hi => by
    rw [pVis]
    have hi2 : 2 * i < pWd n h := by rw [pWd_succ] at hi; omega
    have hn := (pWd_lt n (h + 1) i).1 hi
    have hp : 0 < 2 ^ (h + 1) := Nat.pow_pos (by omega)
    rw [pHas_true (Nat.le_refl _) (by rw [Nat.add_mul, Nat.one_mul]; omega) hn (hall _ hn), pHs_not]
    simp only [↓reduceIte]
    rw [pHs_append, pHs_whole hall ls h (2 * i) hi2]
    split
    · rename_i hw
      obtain ⟨e1, e2, e3⟩ := pLc_two hw
      rw [pHs_whole hall ls h (2 * i + 1) hw, e1, e2, range'_split _ _ _ _ e3, List.map_append]
    · rename_i hw
      obtain ⟨e1, e2⟩ := pLc_one hi2 hw
      rw [e1, e2]
      exact List.append_nil _
/-- what is told depends on the leaves alone -/
theorem pHas_congr {n : Nat} {ms ms' : List Bool} (hc : ∀ k, k < n → ms.getD k false = ms'.getD k false) (h i : Nat) : pHas n ms h i = pHas n ms' h i := by
  rw [Bool.eq_iff_iff, pHas_iff, pHas_iff]
  constructor
  · rintro ⟨k, h1, h2, h3, h4⟩
    exact ⟨k, h1, h2, h3, by rw [← hc k h3]; exact h4⟩
  · rintro ⟨k, h1, h2, h3, h4⟩
    exact ⟨k, h1, h2, h3, by rw [hc k h3]; exact h4⟩
theorem pVis_congr {n : Nat} {ms ms' : List Bool} (hc : ∀ k, k < n → ms.getD k false = ms'.getD k false) : ∀ (h i : Nat), pVis n ms h i = pVis n ms' h i
  | 0, i => by rw [pVis, pVis, pHas_congr hc]
  | h + 1, i => by rw [pVis, pVis, pHas_congr hc, pVis_congr hc h, pVis_congr hc h]
/-- more matches, no fewer digits or hashes -/
theorem pVis_mono {n : Nat} {ms ms' : List Bool} (hc : ∀ k, k < n → ms.getD k false = true → ms'.getD k false = true) (ls : List (List (List UInt8))) : ∀ (h i : Nat), i < pWd n h → (pVis n ms h i).length ≤ (pVis n ms' h i).length ∧ (pHs ls (pVis n ms h i)).length ≤ (pHs ls (pVis n ms' h i)).length
  | 0, i, _ => by rw [pVis, pVis, pHs_cons, pHs_cons]; simp [PV.told]
  | h + 1, i, hi => by
    have hi2 : 2 * i < pWd n h := by rw [pWd_succ] at hi; omega
    have hm : pHas n ms (h + 1) i = true → pHas n ms' (h + 1) i = true := fun e => by
      obtain ⟨k, h1, h2, h3, h4⟩ := (pHas_iff ..).1 e
      exact pHas_true h1 h2 h3 (hc k h3 h4)
    cases hb : pHas n ms (h + 1) i with
    | false =>
      have h1 := (pHs_le (n := n) ms' ls (h + 1) i hi).2
      obtain ⟨r, hr⟩ := pVis_head n ms' (h + 1) i
      rw [pVis_told (fun e => by rw [hb] at e; cases e), hb]
      refine ⟨by rw [hr]; simp, ?_⟩
      have e0 : pHs ls [⟨h + 1, i, false⟩] = [nH ls (h + 1) i] := by rw [pHs_cons]; simp [PV.told, pHs]
      rw [e0, List.length_singleton]
      exact h1
    | true =>
      have hb' := hm hb
      rw [pVis, pVis, hb, hb', pHs_not, pHs_not]
      simp only [↓reduceIte]
      have h1 := pVis_mono hc ls h (2 * i) hi2
      rw [List.length_cons, List.length_cons, List.length_append, List.length_append, pHs_append, pHs_append, List.length_append, List.length_append]
      split
      · rename_i hw
        have h2 := pVis_mono hc ls h (2 * i + 1) hw
        omega
      · omega
end Go.Proofs.YtmdllemgjhkphaaDoor

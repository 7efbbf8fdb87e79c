/-
  Proved: of any part that is extracted the places rise, each is a leaf's; with one hash or one byte of flags more, or less, it is not extracted (the law PartialFinds answers true), for every input, the tables of SHA-256 tied to the program's text.
-/
import Derived.Test.YtmdllemgjhkphaaDoorPd
import Derived.Test.YtmdllemgjhkphaaDoorCards
import Derived.Test.YtmdllemgjhkphaaDoorTie
import Derived.Test.YtmdllemgjhkphaaDoorShTab
import Derived.WalkKit
import Derived.ProofKit
import Derived.OpenShut
import Derived.ChangeOld
import Derived.Deep.DeepHandedRow
import Derived.Lib.LaidTab
import Derived.Stop.LaidErr
import Derived.Test.YtmdllemgjhkphaaDoorApp
import Derived.Deep.Slices
import Derived.Test.YtmdllemgjhkphaaDoorHash
import Derived.Test.YtmdllemgjhkphaaDoorPk
import Derived.Deep.Strs
/- Parts of a tree: the plain laws of what is built and read. -/
namespace Go.Proofs.YtmdllemgjhkphaaDoor
open Go.RowKit
theorem bit_or (x s t : Nat) : ((x ||| 2 ^ s) / 2 ^ t % 2 == 1) = (decide (s = t) || x / 2 ^ t % 2 == 1) := by
  have h : ∀ y : Nat, (y / 2 ^ t % 2 == 1) = y.testBit t := fun y => by rw [Nat.testBit_eq_decide_div_mod_eq]; rfl
  rw [h, h, Nat.testBit_or, Nat.testBit_two_pow, Bool.or_comm]
theorem pDig_push (fl : List UInt8) (j : Nat) (hj : j < 8 * (fl ++ [(0 : UInt8)]).length) (f : Nat → Bool) (h : ∀ i, i < 8 * fl.length → pDig fl i = some (f i)) (h0 : ∀ i, 8 * fl.length ≤ i → f i = false) : pDig (fl ++ [0]) j = some (f j) := by
  rw [List.length_append, List.length_singleton] at hj
  by_cases hl : j < 8 * fl.length
  · rw [← h j hl]
    unfold pDig
    rw [List.getElem?_append_left (by omega)]
  · rw [h0 j (by omega)]
    unfold pDig
    rw [List.getElem?_append_right (by omega), show j / 8 - fl.length = 0 by omega]
    simp
theorem pDig_set (fl : List UInt8) (k j : Nat) (hk : k < 8 * fl.length) (hj : j < 8 * fl.length) : pDig (fl.set (k / 8) (orBit (fl.getD (k / 8) 0) (k % 8))) j = some (decide (k = j) || (pDig fl j).getD false) := by
  have hkl : k / 8 < fl.length := by omega
  have hjl : j / 8 < fl.length := by omega
  rw [pDig_get hj, Option.getD_some]
  unfold pDig
  by_cases e : k / 8 = j / 8
  · rw [e, List.getElem?_set_self hjl, Option.map_some, orBit_nat _ _ (by omega), bit_or]
    congr 2
    exact decide_eq_decide.2 (by omega)
  · rw [List.getElem?_set_ne e, List.getElem?_eq_getElem hjl, List.getD_eq_getElem?_getD, List.getElem?_eq_getElem hjl]
    rw [decide_eq_false (by omega)]
    simp
theorem pFlags_digits (ds : List Bool) : ∀ j, j < 8 * (pFlags ds).length → pDig (pFlags ds) j = some (ds.getD j false) := by
  have key : ∀ es : List Bool, ∀ j, j < 8 * (pFlags es.reverse).length → pDig (pFlags es.reverse) j = some (es.reverse.getD j false) := by
    intro es
    induction es with
    | nil => intro j hj; simp [pFlags, pFlA] at hj
    | cons d es ih =>
      rw [List.reverse_cons]
      have hl := pFlags_length es.reverse
      have hg : ∀ j, (es.reverse ++ [d]).getD j false = if j = es.reverse.length then d else es.reverse.getD j false := fun j => by
        rw [List.getD_eq_getElem?_getD, List.getD_eq_getElem?_getD]
        rcases Nat.lt_trichotomy j es.reverse.length with h | h | h
        · rw [List.getElem?_append_left h, if_neg (by omega)]
        · rw [List.getElem?_append_right (by omega), h, Nat.sub_self, if_pos rfl]; rfl
        · rw [List.getElem?_append_right (by omega), if_neg (by omega), List.getElem?_eq_none (by rw [List.length_singleton]; omega), List.getElem?_eq_none (by omega)]
      have hP : ∀ j, j < 8 * (pFlP (pFlags es.reverse) es.reverse.length).length → pDig (pFlP (pFlags es.reverse) es.reverse.length) j = some (es.reverse.getD j false) := by
        intro j hj
        unfold pFlP at hj ⊢
        split at hj
        · rename_i h8
          rw [if_pos h8]
          refine pDig_push _ j hj _ ih fun i hi => ?_
          rw [List.getD_eq_getElem?_getD, List.getElem?_eq_none (by omega)]
          rfl
        · rename_i h8
          rw [if_neg h8]
          exact ih j hj
      have hPl := pFlP_length hl
      rw [pFlags_snoc]
      intro j hj
      rw [pFlS_length d hl] at hj
      rw [← hPl] at hj
      rw [hg]
      unfold pFlS
      cases d with
      | false =>
        rw [if_neg (by simp), hP j hj]
        split
        · rename_i e
          rw [e, List.getD_eq_getElem?_getD, List.getElem?_eq_none (Nat.le_refl _)]
          rfl
        · rfl
      | true =>
        rw [if_pos rfl, pDig_set _ _ _ (by rw [hPl]; omega) hj, hP j hj, Option.getD_some]
        split
        · rename_i e; rw [decide_eq_true e.symm]; rfl
        · rename_i e; rw [decide_eq_false (fun h => e h.symm)]; rfl
  have := key ds.reverse
  rwa [List.reverse_reverse] at this
/-- the hash of a node -/
def nH (ls : List (List (List UInt8))) (h i : Nat) : List UInt8 := (ls.getD h []).getD i []
/-- the matches below a node -/
def pMt (n : Nat) (ms : List Bool) (ls : List (List (List UInt8))) : Nat → Nat → List (Nat × List UInt8)
  | 0, i => if pHas n ms 0 i then [(i, nH ls 0 i)] else []
  | h + 1, i => if pHas n ms (h + 1) i then pMt n ms ls h (2 * i) ++ (if 2 * i + 1 < pWd n h then pMt n ms ls h (2 * i + 1) else []) else []
/-- no two that are paired, where it is gone to, are alike -/
def pOk (n : Nat) (ms : List Bool) (ls : List (List (List UInt8))) : Nat → Nat → Bool
  | 0, _ => true
  | h + 1, i => !pHas n ms (h + 1) i || (pOk n ms ls h (2 * i) && (!decide (2 * i + 1 < pWd n h) || (pOk n ms ls h (2 * i + 1) && nH ls h (2 * i) != nH ls h (2 * i + 1))))
theorem pHs_cons (ls : List (List (List UInt8))) (x : PV) (s : List PV) : pHs ls (x :: s) = (if x.told then [nH ls x.h x.i] else []) ++ pHs ls s := by
  unfold pHs
  cases h : x.told <;> simp [h, nH]
theorem pHs_not (ls : List (List (List UInt8))) (h i : Nat) (s : List PV) : pHs ls (⟨h + 1, i, true⟩ :: s) = pHs ls s := by
  rw [pHs_cons]
  simp [PV.told]
theorem pHs_append (ls : List (List (List UInt8))) (s t : List PV) : pHs ls (s ++ t) = pHs ls s ++ pHs ls t := by simp [pHs]
/-- the levels that are paired up -/
def PLv (n : Nat) (ls : List (List (List UInt8))) (H : Nat) : Prop := ∀ h i, h + 1 ≤ H → i < pWd n (h + 1) → nH ls (h + 1) i = if 2 * i + 1 < pWd n h then pairB (nH ls h (2 * i)) (nH ls h (2 * i + 1)) else pairB (nH ls h (2 * i)) (nH ls h (2 * i))
theorem plv_of (l : List (List UInt8)) (n : Nat) (hn : l.length = n) (h0 : 0 < n) (h1 : n ≤ 4096) : PLv n (mLv l) (pHt n) := by
  intro h i hh hi
  obtain ⟨e1, _, e3, e4⟩ := lvq_levels l n hn h0 h1
  have hx : (mLv l)[h]? = some ((mLv l)[h]'(by omega)) := List.getElem?_eq_getElem (by omega)
  have hy : (mLv l)[h + 1]? = some ((mLv l)[h + 1]'(by omega)) := List.getElem?_eq_getElem (by omega)
  have hl := e3 h _ hx
  obtain ⟨e5, _⟩ := e4 h _ _ hx hy
  generalize (mLv l)[h]'(by omega) = x at hx hl e5
  generalize (mLv l)[h + 1]'(by omega) = y at hy e5
  subst e5
  have gx : (mLv l).getD h [] = x := by rw [List.getD_eq_getElem?_getD, hx]; rfl
  have gy : (mLv l).getD (h + 1) [] = mUp x := by rw [List.getD_eq_getElem?_getD, hy]; rfl
  unfold nH
  rw [gx, gy, List.getD_eq_getElem?_getD, mUp_get x i (by rw [hl]; rw [pWd_succ] at hi; omega), Option.getD_some, hl]
  split
  · rw [show min (2 * i + 1) (pWd n h - 1) = 2 * i + 1 by omega]
  · rw [show min (2 * i + 1) (pWd n h - 1) = 2 * i by rw [pWd_succ] at hi; omega]
theorem getElem?_app {α : Type} {f : Nat → Option α} {a b : List α} {k : Nat} (h : ∀ j y, (a ++ b)[j]? = some y → f (k + j) = some y) : (∀ j y, a[j]? = some y → f (k + j) = some y) ∧ ∀ j y, b[j]? = some y → f (k + a.length + j) = some y :=
  ⟨fun j y hy => h j y (by rw [List.getElem?_append_left (List.getElem?_eq_some_iff.1 hy).1]; exact hy), fun j y hy => by
    rw [Nat.add_assoc]
    exact h _ y (by rw [List.getElem?_append_right (by omega), Nat.add_sub_cancel_left]; exact hy)⟩
/-- what is read of what was built -/
theorem pRd_vis {n : Nat} {ms : List Bool} {ls : List (List (List UInt8))} {H : Nat} (hP : PLv n ls H) (fl : List UInt8) (hs : List (List UInt8)) : ∀ (h i d k : Nat), h ≤ H → i < pWd n h → (∀ j x, ((pVis n ms h i).map PV.d)[j]? = some x → pDig fl (d + j) = some x) → (∀ j y, (pHs ls (pVis n ms h i))[j]? = some y → hs[k + j]? = some y) →
    pRd n fl hs h i d k = if pOk n ms ls h i then some ⟨nH ls h i, pMt n ms ls h i, d + (pVis n ms h i).length, k + (pHs ls (pVis n ms h i)).length⟩ else none := by
  intro h
  induction h with
  | zero =>
    intro i d k _ hi hd hk
    rw [pVis] at hd hk ⊢
    have e1 := hd 0 _ rfl
    have e2 : hs[k]? = some (nH ls 0 i) := hk 0 _ (by rw [pHs_cons]; simp [PV.told])
    rw [Nat.add_zero] at e1
    rw [pRd, e1, pOk, if_pos rfl, pMt, e2, pHs_cons]
    simp [PV.told, pHs]
  | succ h ih =>
    intro i d k hh hi hd hk
    rw [pVis] at hd hk ⊢
    have e1 := hd 0 _ rfl
    rw [Nat.add_zero] at e1
    rw [pRd, e1, Option.bind_some, pOk, pMt]
    cases hb : pHas n ms (h + 1) i with
    | false =>
      rw [hb] at hk
      have e2 : hs[k]? = some (nH ls (h + 1) i) := hk 0 _ (by rw [pHs_cons]; simp [PV.told])
      rw [if_neg (by simp), e2, pHs_cons]
      simp [PV.told, pHs]
    | true =>
      rw [hb] at hd hk
      rw [if_pos rfl] at hd hk
      rw [pHs_not] at hk ⊢
      have hd1 : ∀ j x, (((pVis n ms h (2 * i) ++ if 2 * i + 1 < pWd n h then pVis n ms h (2 * i + 1) else [])).map PV.d)[j]? = some x → pDig fl (d + 1 + j) = some x := fun j x hx => by
        have := hd (j + 1) x (by simpa using hx)
        rwa [show d + (j + 1) = d + 1 + j by omega] at this
      rw [List.map_append] at hd1
      simp only [↓reduceIte]
      rw [pHs_append] at hk ⊢
      obtain ⟨d1, d2⟩ := getElem?_app (f := pDig fl) hd1
      obtain ⟨k1, k2⟩ := getElem?_app (f := fun j => hs[j]?) hk
      rw [List.length_map] at d2
      have hi2 : 2 * i < pWd n h := by rw [pWd_succ] at hi; omega
      have hx := hP h i (by omega) hi
      rw [ih (2 * i) (d + 1) k (by omega) hi2 d1 k1]
      cases h1 : pOk n ms ls h (2 * i) with
      | false => simp
      | true =>
        rw [if_pos rfl, Option.bind_some]
        dsimp only
        split
        · rename_i hw
          rw [if_pos hw] at d2 k2 hx
          rw [ih (2 * i + 1) _ _ (by omega) hw d2 k2, decide_eq_true hw]
          cases h2 : pOk n ms ls h (2 * i + 1) with
          | false => simp
          | true =>
            rw [if_pos rfl, Option.bind_some]
            dsimp only
            by_cases ha : nH ls h (2 * i) = nH ls h (2 * i + 1)
            · rw [if_pos ha]
              simp [ha]
            · rw [if_neg ha]
              simp only [Bool.not_true, Bool.false_or, Bool.true_and, bne_iff_ne, ne_eq, ha, not_false_eq_true, if_true]
              rw [hx]
              simp only [List.length_cons, List.length_append]
              congr 2 <;> omega
        · rename_i hw
          rw [if_neg hw] at hx
          rw [decide_eq_false hw, hx]
          simp only [Bool.not_true, Bool.false_or, Bool.not_false, Bool.true_or, Bool.and_self, if_true, List.append_nil, List.length_cons]
          have : pHs ls ([] : List PV) = [] := rfl
          rw [this, List.append_nil]
          congr 2
          omega
end Go.Proofs.YtmdllemgjhkphaaDoor
/- Parts of a tree: alike ones, counts, matches; what is extracted of what was built. -/
namespace Go.Proofs.YtmdllemgjhkphaaDoor
open Go.RowKit
theorem pWd_lt (n h j : Nat) : j < pWd n h ↔ j * 2 ^ h < n := by
  have hp : 0 < 2 ^ h := Nat.pow_pos (by omega)
  unfold pWd
  rw [Nat.lt_iff_add_one_le, Nat.le_div_iff_mul_le hp, Nat.add_mul, Nat.one_mul]
  omega
theorem pow_s (h : Nat) : 2 ^ (h + 1) = 2 * 2 ^ h := by rw [Nat.pow_succ]; omega
theorem mAlike1_iff : ∀ (x : List (List UInt8)), mAlike1 x = true ↔ ∃ i, 2 * i + 1 < x.length ∧ x.getD (2 * i) [] = x.getD (2 * i + 1) []
  | [] => by simp [mAlike1]
  | [_] => by simp [mAlike1]
  | a :: b :: r => by
    rw [mAlike1, Bool.or_eq_true, mAlike1_iff r]
    constructor
    · rintro (h | ⟨i, h1, h2⟩)
      · exact ⟨0, by simp, by simpa using h⟩
      · exact ⟨i + 1, by simp; omega, by
          rw [show 2 * (i + 1) + 1 = (2 * i + 1) + 1 + 1 by omega, show 2 * (i + 1) = 2 * i + 1 + 1 by omega]
          simpa using h2⟩
    · rintro ⟨i, h1, h2⟩
      cases i with
      | zero => left; simpa using h2
      | succ i =>
        right
        refine ⟨i, by simp at h1; omega, ?_⟩
        rw [show 2 * (i + 1) + 1 = (2 * i + 1) + 1 + 1 by omega, show 2 * (i + 1) = 2 * i + 1 + 1 by omega] at h2
        simpa using h2
theorem mAlike_iff (l : List (List UInt8)) (n : Nat) (hn : l.length = n) (h0 : 0 < n) (h1 : n ≤ 4096) : mAlike (mLv l) = true ↔ ∃ h i, h ≤ pHt n ∧ 2 * i + 1 < pWd n h ∧ nH (mLv l) h (2 * i) = nH (mLv l) h (2 * i + 1) := by
  obtain ⟨e1, _, e3, _⟩ := lvq_levels l n hn h0 h1
  unfold mAlike
  rw [List.any_eq_true]
  constructor
  · rintro ⟨x, hx, ha⟩
    obtain ⟨h, hh⟩ := List.mem_iff_getElem?.1 hx
    obtain ⟨i, h2, h3⟩ := (mAlike1_iff x).1 ha
    have hl := e3 h x hh
    have := (List.getElem?_eq_some_iff.1 hh).1
    refine ⟨h, i, by omega, by omega, ?_⟩
    unfold nH
    rw [List.getD_eq_getElem?_getD (l := mLv l), hh]
    exact h3
  · rintro ⟨h, i, h2, h3, h4⟩
    have hx : (mLv l)[h]? = some ((mLv l)[h]'(by omega)) := List.getElem?_eq_getElem (by omega)
    have hl := e3 h _ hx
    generalize (mLv l)[h]'(by omega) = x at hx hl
    refine ⟨x, List.mem_of_getElem? hx, (mAlike1_iff x).2 ⟨i, by omega, ?_⟩⟩
    unfold nH at h4
    rw [List.getD_eq_getElem?_getD (l := mLv l), hx] at h4
    exact h4
theorem pOk_of {n : Nat} {ms : List Bool} {ls : List (List (List UInt8))} {H : Nat} (hna : ∀ h i, h ≤ H → 2 * i + 1 < pWd n h → nH ls h (2 * i) ≠ nH ls h (2 * i + 1)) : ∀ (h i : Nat), h ≤ H → pOk n ms ls h i = true
  | 0, _, _ => by rw [pOk]
  | h + 1, i, hh => by
    rw [pOk, pOk_of hna h (2 * i) (by omega), pOk_of hna h (2 * i + 1) (by omega)]
    by_cases hw : 2 * i + 1 < pWd n h
    · have := hna h i (by omega) hw
      simp [hw, this]
    · simp [hw]
/-- where all leaves match, all that is paired is gone to -/
theorem pOk_whole {n : Nat} {ms : List Bool} {ls : List (List (List UInt8))} (hall : ∀ k, k < n → ms.getD k false = true) : ∀ (h i : Nat), i < pWd n h → pOk n ms ls h i = true → ∀ g j, g < h → i * 2 ^ (h - g) ≤ 2 * j → 2 * j < (i + 1) * 2 ^ (h - g) → 2 * j + 1 < pWd n g → nH ls g (2 * j) ≠ nH ls g (2 * j + 1)
  | 0, _, _, _, g, _, hg, _, _, _ => absurd hg (Nat.not_lt_zero _)
  | h + 1, i, hi, hok, g, j, hg, h1, h2, h3 => by
    have hhas : pHas n ms (h + 1) i = true := by
      have hn := (pWd_lt n (h + 1) i).1 hi
      have hp : 0 < 2 ^ (h + 1) := Nat.pow_pos (by omega)
      exact pHas_true (Nat.le_refl _) (by rw [Nat.add_mul, Nat.one_mul]; omega) hn (hall _ hn)
    rw [pOk, hhas] at hok
    simp only [Bool.not_true, Bool.false_or, Bool.and_eq_true, Bool.or_eq_true, Bool.not_eq_true', decide_eq_false_iff_not, bne_iff_ne, ne_eq] at hok
    obtain ⟨o1, o2⟩ := hok
    have hi2 : 2 * i < pWd n h := by rw [pWd_succ] at hi; omega
    by_cases hgh : g = h
    · subst hgh
      rw [show g + 1 - g = 1 by omega, Nat.pow_one] at h1 h2
      obtain rfl : j = i := by omega
      rcases o2 with o2 | o2
      · exact absurd h3 o2
      · exact o2.2
    · have e : 2 ^ (h + 1 - g) = 2 * 2 ^ (h - g) := by rw [show h + 1 - g = (h - g) + 1 by omega, pow_s]
      have e1 : i * 2 ^ (h + 1 - g) = (2 * i) * 2 ^ (h - g) := by rw [e, ← Nat.mul_assoc, Nat.mul_comm i 2]
      have e2 : (i + 1) * 2 ^ (h + 1 - g) = (2 * i + 1 + 1) * 2 ^ (h - g) := by rw [e, ← Nat.mul_assoc, Nat.mul_comm (i + 1) 2, Nat.mul_add]
      rw [e1] at h1
      rw [e2] at h2
      by_cases hlt : 2 * j < (2 * i + 1) * 2 ^ (h - g)
      · exact pOk_whole hall h (2 * i) hi2 o1 g j (by omega) h1 hlt h3
      · have hw : 2 * i + 1 < pWd n h := by
          rw [pWd_lt]
          have h4 := (pWd_lt n g (2 * j + 1)).1 h3
          have e5 : 2 ^ h = 2 ^ (h - g) * 2 ^ g := by rw [← Nat.pow_add]; congr 1; omega
          rw [e5, ← Nat.mul_assoc]
          have h6 : (2 * i + 1) * 2 ^ (h - g) * 2 ^ g ≤ 2 * j * 2 ^ g := Nat.mul_le_mul_right _ (by omega)
          have h7 : (2 * j) * 2 ^ g ≤ (2 * j + 1) * 2 ^ g := Nat.mul_le_mul_right _ (by omega)
          omega
        rcases o2 with o2 | o2
        · exact absurd hw o2
        · exact pOk_whole hall h (2 * i + 1) hw o2.1 g j (by omega) (by omega) h2 h3
/-- how many leaves lie below a node -/
def pLc (n h i : Nat) : Nat := min ((i + 1) * 2 ^ h) n - i * 2 ^ h
theorem pLc_zero {n i : Nat} (hi : i < pWd n 0) : pLc n 0 i = 1 := by
  rw [pWd_zero] at hi
  unfold pLc
  rw [Nat.pow_zero]
  omega
theorem pLc_two {n h i : Nat} (hw : 2 * i + 1 < pWd n h) : pLc n (h + 1) i = pLc n h (2 * i) + pLc n h (2 * i + 1) ∧ i * 2 ^ (h + 1) = 2 * i * 2 ^ h ∧ 2 * i * 2 ^ h + pLc n h (2 * i) = (2 * i + 1) * 2 ^ h := by
  have h1 := (pWd_lt n h (2 * i + 1)).1 hw
  have e1 : i * 2 ^ (h + 1) = 2 * i * 2 ^ h := by rw [pow_s, ← Nat.mul_assoc, Nat.mul_comm i 2]
  have e2 : (i + 1) * 2 ^ (h + 1) = (2 * i + 1) * 2 ^ h + 2 ^ h := by
    rw [pow_s, ← Nat.mul_assoc, Nat.mul_comm (i + 1) 2, Nat.mul_add, ← Nat.succ_mul]
  have e3 : (2 * i + 1) * 2 ^ h = 2 * i * 2 ^ h + 2 ^ h := by rw [Nat.add_mul, Nat.one_mul]
  have e4 : (2 * i + 1 + 1) * 2 ^ h = (2 * i + 1) * 2 ^ h + 2 ^ h := by rw [Nat.succ_mul]
  unfold pLc
  rw [e1, e2, e4]
  generalize (2 * i + 1) * 2 ^ h = B at *
  generalize 2 * i * 2 ^ h = A at *
  generalize 2 ^ h = P at *
  refine ⟨by omega, rfl, by omega⟩
theorem pLc_one {n h i : Nat} (hi : 2 * i < pWd n h) (hw : ¬ 2 * i + 1 < pWd n h) : pLc n (h + 1) i = pLc n h (2 * i) ∧ i * 2 ^ (h + 1) = 2 * i * 2 ^ h := by
  have h1 := (pWd_lt n h (2 * i)).1 hi
  have h2 : ¬ (2 * i + 1) * 2 ^ h < n := fun h' => hw ((pWd_lt n h (2 * i + 1)).2 h')
  have e1 : i * 2 ^ (h + 1) = 2 * i * 2 ^ h := by rw [pow_s, ← Nat.mul_assoc, Nat.mul_comm i 2]
  have e2 : (i + 1) * 2 ^ (h + 1) = (2 * i + 1) * 2 ^ h + 2 ^ h := by
    rw [pow_s, ← Nat.mul_assoc, Nat.mul_comm (i + 1) 2, Nat.mul_add, ← Nat.succ_mul]
  unfold pLc
  rw [e1, e2]
  generalize (2 * i + 1) * 2 ^ h = B at *
  generalize 2 * i * 2 ^ h = A at *
  generalize 2 ^ h = P at *
  exact ⟨by omega, rfl⟩
theorem pLc_pos {n h i : Nat} (hi : i < pWd n h) : 0 < pLc n h i := by
  have h1 := (pWd_lt n h i).1 hi
  have hp : 0 < 2 ^ h := Nat.pow_pos (by omega)
  unfold pLc
  rw [Nat.add_mul, Nat.one_mul]
  omega
theorem pHs_le {n : Nat} (ms : List Bool) (ls : List (List (List UInt8))) : ∀ (h i : Nat), i < pWd n h → (pHs ls (pVis n ms h i)).length ≤ pLc n h i ∧ 0 < (pHs ls (pVis n ms h i)).length
  | 0, i, hi => by rw [pVis, pLc_zero hi, pHs_cons]; simp [PV.told, pHs]
  | h + 1, i, hi => by
    rw [pVis]
    have hi2 : 2 * i < pWd n h := by rw [pWd_succ] at hi; omega
    cases hb : pHas n ms (h + 1) i with
    | false =>
      have := pLc_pos hi
      rw [pHs_cons]
      simp [PV.told, pHs]
      omega
    | true =>
      rw [pHs_not]
      simp only [↓reduceIte]
      have h1 := pHs_le ms ls h (2 * i) hi2
      rw [pHs_append, List.length_append]
      split
      · rename_i hw
        have h2 := pHs_le ms ls h (2 * i + 1) hw
        rw [(pLc_two hw).1]
        omega
      · rename_i hw
        rw [(pLc_one hi2 hw).1]
        have : (pHs ls ([] : List PV)).length = 0 := rfl
        omega
/-- of a node no leaf matches -/
theorem pHas_none {n : Nat} {ms : List Bool} {h i p : Nat} (hb : pHas n ms h i = false) (h1 : i * 2 ^ h ≤ p) (h2 : p < i * 2 ^ h + pLc n h i) : ms.getD p false = false := by
  cases e : ms.getD p false with
  | false => rfl
  | true =>
    unfold pLc at h2
    have := pHas_true (n := n) (ms := ms) (h := h) (i := i) (k := p) h1 (by omega) (by omega) e
    rw [hb] at this
    cases this
theorem range'_split (a m k b : Nat) (h : a + m = b) : List.range' a (m + k) = List.range' a m ++ List.range' b k := by
  rw [← h, List.range'_append_1]
def mtF (ms : List Bool) (ls : List (List (List UInt8))) (p : Nat) : Option (Nat × List UInt8) := if ms.getD p false then some (p, nH ls 0 p) else none
theorem pMt_eq {n : Nat} (ms : List Bool) (ls : List (List (List UInt8))) : ∀ (h i : Nat), i < pWd n h → pMt n ms ls h i = (List.range' (i * 2 ^ h) (pLc n h i)).filterMap (mtF ms ls)
  | 0, i, hi => by
    rw [pMt, pLc_zero hi, Nat.pow_zero, Nat.mul_one]
    rw [pWd_zero] at hi
    cases hb : pHas n ms 0 i with
    | false =>
      have := pHas_none (p := i) hb (by simp) (by rw [pLc_zero (by rw [pWd_zero]; exact hi)]; simp)
      rw [if_neg (by simp), List.range'_one, List.filterMap_cons, mtF, this]
      rfl
    | true =>
      obtain ⟨k, k1, k2, k3, k4⟩ := (pHas_iff n ms 0 i).1 hb
      obtain rfl : k = i := by simp at k1 k2; omega
      rw [if_pos rfl, List.range'_one, List.filterMap_cons, mtF, k4]
      rfl
  | h + 1, i, hi => by
    rw [pMt]
    have hi2 : 2 * i < pWd n h := by rw [pWd_succ] at hi; omega
    cases hb : pHas n ms (h + 1) i with
    | false =>
      rw [if_neg (by simp)]
      symm
      rw [List.filterMap_eq_nil_iff]
      intro p hp
      obtain ⟨p1, p2⟩ := List.mem_range'_1.1 hp
      rw [mtF, pHas_none hb p1 p2]
      rfl
    | true =>
      simp only [↓reduceIte]
      rw [pMt_eq ms ls h (2 * i) hi2]
      split
      · rename_i hw
        obtain ⟨e1, e2, e3⟩ := pLc_two hw
        rw [pMt_eq ms ls h (2 * i + 1) hw, e1, e2, range'_split _ _ _ _ e3, List.filterMap_append]
      · rename_i hw
        obtain ⟨e1, e2⟩ := pLc_one hi2 hw
        rw [e1, e2, List.append_nil]
theorem pHs_whole {n : Nat} {ms : List Bool} (hall : ∀ k, k < n → ms.getD k false = true) (ls : List (List (List UInt8))) : ∀ (h i : Nat), i < pWd n h → pHs ls (pVis n ms h i) = (List.range' (i * 2 ^ h) (pLc n h i)).map (nH ls 0)
  | 0, i, hi => by
    rw [pVis, pLc_zero hi, pHs_cons, Nat.pow_zero, Nat.mul_one, List.range'_one]
    simp [PV.told, pHs]
  | h + 1, i, hi => by
    rw [pVis]
    have hi2 : 2 * i < pWd n h := by rw [pWd_succ] at hi; omega
    have hn := (pWd_lt n (h + 1) i).1 hi
    have hp : 0 < 2 ^ (h + 1) := Nat.pow_pos (by omega)
    rw [pHas_true (Nat.le_refl _) (by rw [Nat.add_mul, Nat.one_mul]; omega) hn (hall _ hn), pHs_not]
    simp only [↓reduceIte]
    rw [pHs_append, pHs_whole hall ls h (2 * i) hi2]
    split
    · rename_i hw
      obtain ⟨e1, e2, e3⟩ := pLc_two hw
      rw [pHs_whole hall ls h (2 * i + 1) hw, e1, e2, range'_split _ _ _ _ e3, List.map_append]
    · rename_i hw
      obtain ⟨e1, e2⟩ := pLc_one hi2 hw
      rw [e1, e2]
      exact List.append_nil _
/-- what is told depends on the leaves alone -/
theorem pHas_congr {n : Nat} {ms ms' : List Bool} (hc : ∀ k, k < n → ms.getD k false = ms'.getD k false) (h i : Nat) : pHas n ms h i = pHas n ms' h i := by
  rw [Bool.eq_iff_iff, pHas_iff, pHas_iff]
  constructor
  · rintro ⟨k, h1, h2, h3, h4⟩
    exact ⟨k, h1, h2, h3, by rw [← hc k h3]; exact h4⟩
  · rintro ⟨k, h1, h2, h3, h4⟩
    exact ⟨k, h1, h2, h3, by rw [hc k h3]; exact h4⟩
theorem pVis_congr {n : Nat} {ms ms' : List Bool} (hc : ∀ k, k < n → ms.getD k false = ms'.getD k false) : ∀ (h i : Nat), pVis n ms h i = pVis n ms' h i
  | 0, i => by rw [pVis, pVis, pHas_congr hc]
  | h + 1, i => by rw [pVis, pVis, pHas_congr hc, pVis_congr hc h, pVis_congr hc h]
/-- more matches, no fewer digits or hashes -/
theorem pVis_mono {n : Nat} {ms ms' : List Bool} (hc : ∀ k, k < n → ms.getD k false = true → ms'.getD k false = true) (ls : List (List (List UInt8))) : ∀ (h i : Nat), i < pWd n h → (pVis n ms h i).length ≤ (pVis n ms' h i).length ∧ (pHs ls (pVis n ms h i)).length ≤ (pHs ls (pVis n ms' h i)).length
  | 0, i, _ => by rw [pVis, pVis, pHs_cons, pHs_cons]; simp [PV.told]
  | h + 1, i, hi => by
    have hi2 : 2 * i < pWd n h := by rw [pWd_succ] at hi; omega
    have hm : pHas n ms (h + 1) i = true → pHas n ms' (h + 1) i = true := fun e => by
      obtain ⟨k, h1, h2, h3, h4⟩ := (pHas_iff ..).1 e
      exact pHas_true h1 h2 h3 (hc k h3 h4)
    cases hb : pHas n ms (h + 1) i with
    | false =>
      have h1 := (pHs_le (n := n) ms' ls (h + 1) i hi).2
      obtain ⟨r, hr⟩ := pVis_head n ms' (h + 1) i
      rw [pVis_told (fun e => by rw [hb] at e; cases e), hb]
      refine ⟨by rw [hr]; simp, ?_⟩
      have e0 : pHs ls [⟨h + 1, i, false⟩] = [nH ls (h + 1) i] := by rw [pHs_cons]; simp [PV.told, pHs]
      rw [e0, List.length_singleton]
      exact h1
    | true =>
      have hb' := hm hb
      rw [pVis, pVis, hb, hb', pHs_not, pHs_not]
      simp only [↓reduceIte]
      have h1 := pVis_mono hc ls h (2 * i) hi2
      rw [List.length_cons, List.length_cons, List.length_append, List.length_append, pHs_append, pHs_append, List.length_append, List.length_append]
      split
      · rename_i hw
        have h2 := pVis_mono hc ls h (2 * i + 1) hw
        omega
      · omega
end Go.Proofs.YtmdllemgjhkphaaDoor
/- Parts of a tree: what is extracted of what was built; of any part, what is extracted with one hash or byte more, or less. -/
namespace Go.Proofs.YtmdllemgjhkphaaDoor
open Go.RowKit
theorem nH_zero (hs : List (List UInt8)) (n : Nat) (hn : hs.length = n) (h0 : 0 < n) (h1 : n ≤ 4096) (p : Nat) : nH (mLv hs) 0 p = hs.getD p [] := by
  obtain ⟨_, e2, _, _⟩ := lvq_levels hs n hn h0 h1
  unfold nH
  rw [List.getD_eq_getElem?_getD (l := mLv hs), e2]
  rfl
theorem mRootOf_nH (hs : List (List UInt8)) (n : Nat) (hn : hs.length = n) (h0 : 0 < n) (h1 : n ≤ 4096) : mRootOf (mLv hs) = nH (mLv hs) (pHt n) 0 := by
  obtain ⟨e1, _, e3, _⟩ := lvq_levels hs n hn h0 h1
  unfold mRootOf nH
  rw [List.getLast?_eq_getElem?, e1, Nat.add_sub_cancel, List.getD_eq_getElem?_getD (l := mLv hs)]
  have hx : (mLv hs)[pHt n]? = some ((mLv hs)[pHt n]'(by omega)) := List.getElem?_eq_getElem (by omega)
  have hl := e3 _ _ hx
  have hp := pHt_pos n h0
  rw [hx, Option.map_some, Option.getD_some, Option.getD_some, List.getD_eq_getElem?_getD]
/-- the matches, in order -/
def mts (n : Nat) (ms : List Bool) (hs : List (List UInt8)) : List (Nat × List UInt8) := (List.range n).filterMap fun p => if ms.getD p false then some (p, hs.getD p []) else none
theorem pLc_root (n : Nat) (h1 : n ≤ 4096) : pLc n (pHt n) 0 = n := by
  have h2 := (pHt_spec n h1).2.2
  have hp : 0 < 2 ^ pHt n := Nat.pow_pos (by omega)
  unfold pWd at h2
  rw [Nat.div_le_iff_le_mul hp] at h2
  unfold pLc
  simp only [Nat.zero_add, Nat.one_mul, Nat.zero_mul]
  omega
theorem pMt_root (hs : List (List UInt8)) (ms : List Bool) (n : Nat) (hn : hs.length = n) (h0 : 0 < n) (h1 : n ≤ 4096) : pMt n ms (mLv hs) (pHt n) 0 = mts n ms hs := by
  rw [pMt_eq ms (mLv hs) (pHt n) 0 (pHt_pos n h0), pLc_root n h1, Nat.zero_mul, ← List.range_eq_range']
  unfold mts
  congr 1
  funext p
  rw [mtF, nH_zero hs n hn h0 h1]
theorem pBhs_length (hs : List (List UInt8)) (ms : List Bool) (n : Nat) (hn : hs.length = n) (h0 : 0 < n) (h1 : n ≤ 4096) : 0 < (pBhs hs ms).length ∧ (pBhs hs ms).length ≤ n ∧ (pBhs hs ms).length ≤ (pAll n ms).length := by
  have h := pHs_le ms (mLv hs) (pHt n) 0 (pHt_pos n h0)
  rw [pLc_root n h1] at h
  unfold pBhs
  rw [hn]
  refine ⟨h.2, h.1, ?_⟩
  unfold pHs
  rw [List.length_map]
  exact List.length_filter_le _ _
theorem pBfl_length (n : Nat) (ms : List Bool) : (pBfl n ms).length = ((pAll n ms).length + 7) / 8 := by rw [pBfl, pFlags_length, List.length_map]
/-- what is extracted of what was built -/
theorem pExt_built (hs : List (List UInt8)) (ms : List Bool) (n : Nat) (hn : hs.length = n) (h0 : 0 < n) (h1 : n ≤ 4096) :
    pExt n (pBhs hs ms) (pBfl n ms) = if pOk n ms (mLv hs) (pHt n) 0 then some ⟨mRootOf (mLv hs), mts n ms hs, (pAll n ms).length, (pBhs hs ms).length⟩ else none := by
  obtain ⟨b0, b1, b2⟩ := pBhs_length hs ms n hn h0 h1
  have hfl := pBfl_length n ms
  have hmay : pMay n (pBhs hs ms) (pBfl n ms) = true := decide_eq_true ⟨by omega, h1, b1, by omega⟩
  have hbh : pBhs hs ms = pHs (mLv hs) (pAll n ms) := by rw [pBhs, hn]
  unfold pExt
  rw [if_pos hmay, pRd_vis (plv_of hs n hn h0 h1) (pBfl n ms) (pBhs hs ms) (pHt n) 0 0 0 (Nat.le_refl _) (pHt_pos n h0) (fun j x hx => ?_) (fun j y hy => ?_)]
  · cases pOk n ms (mLv hs) (pHt n) 0 with
    | false => rfl
    | true =>
      rw [if_pos rfl, if_pos rfl, mRootOf_nH hs n hn h0 h1, pMt_root hs ms n hn h0 h1, Option.filter_some, if_pos]
      · rw [hbh, Nat.zero_add, Nat.zero_add]
        rfl
      · have hall : pVis n ms (pHt n) 0 = pAll n ms := rfl
        rw [hall, ← hbh, Nat.zero_add, Nat.zero_add]
        unfold pDone
        rw [decide_eq_true ⟨rfl, hfl.symm⟩, Bool.true_and]
        unfold pRest
        rw [List.all_eq_true]
        intro j hj
        have hj' : j < (8 - (pAll n ms).length % 8) % 8 := List.mem_range.1 hj
        clear hj
        have := pFlags_digits ((pAll n ms).map PV.d) ((pAll n ms).length + j) (by rw [pFlags_length, List.length_map]; omega)
        rw [← show pBfl n ms = pFlags ((pAll n ms).map PV.d) from rfl] at this
        rw [this, List.getD_eq_getElem?_getD, List.getElem?_eq_none (by rw [List.length_map]; omega)]
        rfl
  · rw [Nat.zero_add]
    have hj := (List.getElem?_eq_some_iff.1 hx).1
    have := pFlags_digits ((pAll n ms).map PV.d) j (by rw [pFlags_length]; unfold pAll; omega)
    rw [← show pBfl n ms = pFlags ((pAll n ms).map PV.d) from rfl] at this
    rw [this, List.getD_eq_getElem?_getD, show ((pAll n ms).map PV.d)[j]? = some x from hx]
    rfl
  · rw [Nat.zero_add, hbh]
    exact hy
theorem pOk_unlike (hs : List (List UInt8)) (ms : List Bool) (n : Nat) (hn : hs.length = n) (h0 : 0 < n) (h1 : n ≤ 4096) (ha : mAlike (mLv hs) = false) : pOk n ms (mLv hs) (pHt n) 0 = true := by
  refine pOk_of (H := pHt n) (fun h i hh hi e => ?_) _ _ (Nat.le_refl _)
  rw [(mAlike_iff hs n hn h0 h1).2 ⟨h, i, hh, hi, e⟩] at ha
  cases ha
theorem pOk_whole_iff (hs : List (List UInt8)) (ms : List Bool) (n : Nat) (hn : hs.length = n) (h0 : 0 < n) (h1 : n ≤ 4096) (hall : ∀ k, k < n → ms.getD k false = true) : pOk n ms (mLv hs) (pHt n) 0 = !mAlike (mLv hs) := by
  cases ha : mAlike (mLv hs) with
  | false => exact pOk_unlike hs ms n hn h0 h1 ha
  | true =>
    cases hok : pOk n ms (mLv hs) (pHt n) 0 with
    | false => rfl
    | true =>
      obtain ⟨h, i, hh, hi, e⟩ := (mAlike_iff hs n hn h0 h1).1 ha
      have hlt : h < pHt n := by
        rcases Nat.lt_or_ge h (pHt n) with q | q
        · exact q
        · obtain rfl : h = pHt n := by omega
          have := (pHt_spec n h1).2.2
          omega
      have h3 := (pWd_lt n h (2 * i + 1)).1 hi
      have h4 := pLc_root n h1
      refine absurd e (pOk_whole hall (pHt n) 0 (pHt_pos n h0) hok h i hlt (by simp) ?_ hi)
      unfold pLc at h4
      simp only [Nat.zero_add, Nat.one_mul, Nat.zero_mul] at h4 ⊢
      have e5 : 2 ^ pHt n = 2 ^ (pHt n - h) * 2 ^ h := by rw [← Nat.pow_add]; congr 1; omega
      have hp : 0 < 2 ^ h := Nat.pow_pos (by omega)
      rw [e5] at h4
      apply Nat.lt_of_mul_lt_mul_right (a := 2 ^ h)
      have : (2 * i) * 2 ^ h ≤ (2 * i + 1) * 2 ^ h := Nat.mul_le_mul_right _ (by omega)
      omega
/-- with no match: the root alone -/
theorem pAll_none (n : Nat) : pAll n [] = [⟨pHt n, 0, false⟩] := by
  have h : pHas n [] (pHt n) 0 = false := pHas_false (fun k _ _ _ h4 => absurd h4 (by simp))
  unfold pAll
  rw [pVis_told (fun e => by rw [h] at e; cases e), h]
theorem pBhs_none (hs : List (List UInt8)) (n : Nat) (hn : hs.length = n) (h0 : 0 < n) (h1 : n ≤ 4096) : pBhs hs [] = [mRootOf (mLv hs)] := by
  rw [mRootOf_nH hs n hn h0 h1, pBhs, hn, pAll_none, pHs_cons]
  simp [PV.told, pHs]
theorem pBfl_none (n : Nat) : pBfl n [] = [0] := by
  rw [pBfl, pAll_none]
  rfl
theorem pBhs_whole (hs : List (List UInt8)) (ms : List Bool) (n : Nat) (hn : hs.length = n) (h0 : 0 < n) (h1 : n ≤ 4096) (hall : ∀ k, k < n → ms.getD k false = true) : pBhs hs ms = hs := by
  rw [pBhs, hn, pAll, pHs_whole hall (mLv hs) (pHt n) 0 (pHt_pos n h0), pLc_root n h1, Nat.zero_mul, ← List.range_eq_range']
  apply List.ext_getElem
  · simp [hn]
  · intro i q1 q2
    rw [List.getElem_map, List.getElem_range, nH_zero hs n hn h0 h1, List.getD_eq_getElem?_getD, List.getElem?_eq_getElem q2]
    rfl
/-! ### of any part -/
theorem pExt_some {tot : Nat} {hs : List (List UInt8)} {fl : List UInt8} {r : PRes} (h : pExt tot hs fl = some r) : pMay tot hs fl = true ∧ pRd tot fl hs (pHt tot) 0 0 0 = some r ∧ r.k = hs.length ∧ (r.d + 7) / 8 = fl.length := by
  unfold pExt at h
  split at h
  · rename_i hm
    obtain ⟨h1, h2⟩ := Option.filter_eq_some_iff.1 h
    unfold pDone at h2
    rw [Bool.and_eq_true] at h2
    have := of_decide_eq_true h2.1
    exact ⟨hm, h1, this.1, this.2⟩
  · cases h
theorem pDig_app {fl : List UInt8} {d : Nat} {b : Bool} (c : UInt8) (h : pDig fl d = some b) : pDig (fl ++ [c]) d = some b := by
  have := pDig_some h
  unfold pDig at h ⊢
  rw [List.getElem?_append_left (by omega)]
  exact h
theorem pDig_take {fl : List UInt8} {d m : Nat} {b : Bool} (h : pDig (fl.take m) d = some b) : pDig fl d = some b := by
  unfold pDig at h ⊢
  rw [List.getElem?_take] at h
  split at h
  · exact h
  · cases h
theorem get_take {α : Type} {l : List α} {m k : Nat} {x : α} (h : (l.take m)[k]? = some x) : l[k]? = some x := by
  rw [List.getElem?_take] at h
  split at h
  · exact h
  · cases h
theorem get_app {α : Type} {l : List α} {k : Nat} {x : α} (y : α) (h : l[k]? = some x) : (l ++ [y])[k]? = some x := by
  rw [List.getElem?_append_left (List.getElem?_eq_some_iff.1 h).1]
  exact h
/-- one hash more -/
theorem pExt_moreH {tot : Nat} {hs : List (List UInt8)} {fl : List UInt8} {r : PRes} (h : pExt tot hs fl = some r) (y : List UInt8) : pExt tot (hs ++ [y]) fl = none := by
  obtain ⟨_, h2, h3, _⟩ := pExt_some h
  cases e : pExt tot (hs ++ [y]) fl with
  | none => rfl
  | some r' =>
    obtain ⟨_, q2, q3, _⟩ := pExt_some e
    have := pRd_mono tot fl fl hs (hs ++ [y]) (fun _ _ h => h) (fun _ _ h => get_app y h) _ _ _ _ _ h2
    rw [q2] at this
    obtain rfl := Option.some.inj this
    rw [List.length_append, List.length_singleton] at q3
    omega
theorem pExt_moreF {tot : Nat} {hs : List (List UInt8)} {fl : List UInt8} {r : PRes} (h : pExt tot hs fl = some r) (c : UInt8) : pExt tot hs (fl ++ [c]) = none := by
  obtain ⟨_, h2, _, h4⟩ := pExt_some h
  cases e : pExt tot hs (fl ++ [c]) with
  | none => rfl
  | some r' =>
    obtain ⟨_, q2, _, q4⟩ := pExt_some e
    have := pRd_mono tot fl (fl ++ [c]) hs hs (fun _ _ h => pDig_app c h) (fun _ _ h => h) _ _ _ _ _ h2
    rw [q2] at this
    obtain rfl := Option.some.inj this
    rw [List.length_append, List.length_singleton] at q4
    omega
theorem pExt_lessH {tot : Nat} {hs : List (List UInt8)} {fl : List UInt8} {r : PRes} (h : pExt tot hs fl = some r) (m : Nat) (hm : m < hs.length) : pExt tot (hs.take m) fl = none := by
  obtain ⟨_, h2, h3, _⟩ := pExt_some h
  cases e : pExt tot (hs.take m) fl with
  | none => rfl
  | some r' =>
    obtain ⟨_, q2, q3, _⟩ := pExt_some e
    have := pRd_mono tot fl fl (hs.take m) hs (fun _ _ h => h) (fun _ _ h => get_take h) _ _ _ _ _ q2
    rw [h2] at this
    obtain rfl := Option.some.inj this
    rw [List.length_take] at q3
    omega
theorem pExt_lessF {tot : Nat} {hs : List (List UInt8)} {fl : List UInt8} {r : PRes} (h : pExt tot hs fl = some r) (m : Nat) (hm : m < fl.length) : pExt tot hs (fl.take m) = none := by
  obtain ⟨_, h2, _, h4⟩ := pExt_some h
  cases e : pExt tot hs (fl.take m) with
  | none => rfl
  | some r' =>
    obtain ⟨_, q2, _, q4⟩ := pExt_some e
    have := pRd_mono tot (fl.take m) fl hs hs (fun _ _ h => pDig_take h) (fun _ _ h => h) _ _ _ _ _ q2
    rw [h2] at this
    obtain rfl := Option.some.inj this
    rw [List.length_take] at q4
    omega
theorem pExt_facts {tot : Nat} {hs : List (List UInt8)} (h32 : All32 hs) {fl : List UInt8} {r : PRes} (h : pExt tot hs fl = some r) : 0 < hs.length ∧ 0 < fl.length ∧ r.l.length ≤ hs.length ∧ r.x.length = 32 ∧ (∀ p ∈ r.l, p.2.length = 32) ∧ (∀ p ∈ r.l, p.1 < tot) ∧ r.l.Pairwise (fun p q => p.1 < q.1) ∧ tot ≤ 4096 ∧ 0 < tot := by
  obtain ⟨h1, h2, h3, h4⟩ := pExt_some h
  have hb := pRd_bounds tot fl hs h32 _ _ _ _ _ h2
  have hm : tot ≠ 0 ∧ tot ≤ 4096 ∧ hs.length ≤ tot ∧ hs.length ≤ 8 * fl.length := of_decide_eq_true h1
  have hp := pRd_places tot fl hs (pHt tot) 0 0 0 r (pHt_pos tot (by omega)) h2
  refine ⟨by omega, by omega, by omega, hb.2.2.2.2.2.1, hb.2.2.2.2.2.2, fun p hp' => (hp.1 p hp').2.2, hp.2, hm.2.1, by omega⟩
end Go.Proofs.YtmdllemgjhkphaaDoor
/- The tables of SHA-256 out of what a row lists; a world for the witness. -/
namespace Go.Proofs.YtmdllemgjhkphaaDoor
open Go.ChangeShapes Go.WideShapes Go.ChangeAt Go.RowKit

theorem gC : Tryd.prog.globalNamed "florin/sha2.constants" = some 1 := by kernel_rfl
theorem gI : Tryd.prog.globalNamed "florin/sha2.initials" = some 0 := by kernel_rfl
theorem gCt : (Tryd.prog.globals[1]?).map (·.type) = some 120 := by kernel_rfl
theorem gIt : (Tryd.prog.globals[0]?).map (·.type) = some 105 := by kernel_rfl
theorem cells64 : Tryd.prog.cellsOf 120 = 64 := by kernel_rfl
theorem cells8 : Tryd.prog.cellsOf 105 = 8 := by kernel_rfl
theorem cells32 : Tryd.prog.cellsOf 22 = 1 := by kernel_rfl
/-- what the rows list -/
def laidTabs : List (String × DataW Unit) := [("florin/sha2.constants", Rows.laid_florin_sha2_constants), ("florin/sha2.initials", Rows.laid_florin_sha2_initials)]
theorem tabs_of_laid {W : World} (h : laidMet Tryd.prog laidTabs W) : Tabs W := by
  have h1 : Lib.TabIs Tryd.prog W "florin/sha2.constants" .u32 (kTab.map fun (n : Nat) => (n : Int)) :=
    Lib.tabIs_of_head (rest := [("florin/sha2.initials", Rows.laid_florin_sha2_initials)]) gC gCt Tryd.underlying120 Tryd.underlying22 cells32 cells64 h
  have h2 : Lib.TabIs Tryd.prog W "florin/sha2.initials" .u32 (iTab.map fun (n : Nat) => (n : Int)) :=
    Lib.tabIs_of_head (rest := []) gI gIt Tryd.underlying105 Tryd.underlying22 cells32 cells8 (laidMet.tail h)
  have hk : ∀ i, i < 64 → kTab.getD i 0 < 4294967296 := by decide
  have hi : ∀ i, i < 8 → iTab.getD i 0 < 4294967296 := by decide
  refine ⟨fun i hlt => ?_, fun i hlt => ?_⟩
  · rw [h1.cell gC i (by simpa [kTab] using hlt), kAt, wc, wn_lit _ (hk i hlt)]
    congr 2
    simp [List.getD_eq_getElem?_getD]
    cases kTab[i]? <;> simp
  · rw [h2.cell gI i (by simpa [iTab] using hlt), iAt, wc, wn_lit _ (hi i hlt)]
    congr 2
    simp [List.getD_eq_getElem?_getD]
    cases iTab[i]? <;> simp

def layC : Obj → Obj
  | .cells _ t frozen => .cells (kTab.map fun (n : Nat) => Value.int .u32 (n : Int)).toArray t frozen
  | o => o
def layI : Obj → Obj
  | .cells _ t frozen => .cells (iTab.map fun (n : Nat) => Value.int .u32 (n : Int)).toArray t frozen
  | o => o
/-- A world for the witness: the settled one, the tables holding what their initialisers lay. -/
noncomputable def tabWorld (os : Os) : World :=
  { World.holding Tryd.prog os ⟨#[], #[], []⟩ with heap := ((World.holding Tryd.prog os ⟨#[], #[], []⟩).heap.modify 1 layC).modify 0 layI }
end Go.Proofs.YtmdllemgjhkphaaDoor
/- florinlaw11.awake. -/
namespace Go.Proofs.YtmdllemgjhkphaaDoor
open Go.RowKit
attribute [local go_sem high] slB_lh slB_l slB_h
def a7 : List UInt8 := 7 :: List.replicate 31 0
theorem aw11_facts : pBhs [a7] [true] = [a7] ∧ pBfl 1 [true] = [1] ∧ pExt 1 [a7] [1] = some ⟨a7, [(0, a7)], 1, 1⟩ := by
  have h1 : pBhs [a7] [true] = [a7] := pBhs_whole [a7] [true] 1 rfl (by omega) (by omega) (fun k hk => by
    have : k = 0 := by omega
    subst this
    rfl)
  have h2 : pBfl 1 [true] = [1] := by decide +kernel
  refine ⟨h1, h2, ?_⟩
  have h3 := pExt_built [a7] [true] 1 rfl (by omega) (by omega)
  rw [h1, h2] at h3
  rw [h3, if_pos (show pOk 1 [true] (mLv [a7]) (pHt 1) 0 = true by decide +kernel), show mRootOf (mLv [a7]) = a7 by decide +kernel, show mts 1 [true] [a7] = [(0, a7)] by decide +kernel, show (pAll 1 [true]).length = 1 by decide +kernel]
  rfl
set_option maxRecDepth 100000 in
set_option maxHeartbeats 8000000 in
theorem awake11 (w : World) (hT : Tabs w) : Calls Tryd.prog 9 #[] w fun e w' => e = .returned (.bool true) ∧ Below w.heap.size w w' := by
  obtain ⟨f1, f2, f3⟩ := aw11_facts
  have ha7 : a7.length = 32 := rfl
  have HB := fun A Am c cm w' r r2 t => PBuild [a7] (All32.one ha7) [true] A Am 1 c 1 cm rfl rfl (by omega) (by omega) w' r r2 t
  have HE := fun Ah ch Af cf w' r r2 t => PExt [1] [a7] (All32.one ha7) 1 Ah 1 ch Af 1 cf rfl rfl (by omega) (by omega) (by omega) w' r r2 t
  unfold BdPost at HB
  rw [f1] at HB
  simp only [List.length_singleton, f2] at HB
  simp only [show ¬ (1 = 0 ∨ 4096 < 1) by omega, if_false] at HB
  unfold ExtPost at HE
  rw [f3] at HE
  dsimp only at HE
  rw [show hcl [a7] = a7.map bv from hcl_one a7] at HB HE
  obtain ⟨a, ha⟩ : ∃ a, a = a7 := ⟨_, rfl⟩
  have a32 : a.length = 32 := by rw [ha]; rfl
  have ha32 : (a.map bv).length = 32 := by rw [List.length_map, a32]
  have haone : (a.map bv).all (·.oneCell') = true := List.all_eq_true.2 (bv_one a)
  have hbd : ∀ (v : Act) (w' : World) d tp pos af, (execOp v.eval ⟨d, .build 28 #[(0, .const (.int .u8 7))], tp, pos, af, none⟩).run Tryd.prog w' = .ok (.value (.agg (a.map bv).toArray)) w' := fun v w' d tp pos af => by rw [ha]; kernel_rfl
  rw [← ha] at HB HE
  have EQ := fun p q w => eqlHw a a a32 a32 p q w
  rw [show (a == a) = true by simp] at EQ
  have hml : mlc [(0, a)] = [Value.int .i64 0] ++ a.map bv := by simp [mlc, mtc]
  rw [hml] at HE
  clear f1 f2 f3 ha7 hml
  replace ha := Lib.hid ha
  replace a32 := Lib.hid a32
  replace ha32 := Lib.hid ha32
  replace haone := Lib.hid haone
  replace hbd := Lib.hid hbd
  replace HB := Lib.hid HB
  replace HE := Lib.hid HE
  replace EQ := Lib.hid EQ
  go_enter Tryd.func9, Tryd.ntmps9
  go_upto_region 2 with (first
    | ((with_reducible refine wpList_bld (.agg (a.map bv).toArray) ?_ ?_); exact hbd.out _ _ _ _ _ _)
    | ((with_reducible refine wpList_storeF 28 ((Below.refl w.heap.size w).alloc (Nat.le_refl _) _) (heap_alloc_new _ _) (Nat.le_refl _) (a.map bv) ?_ ?_ 32 ha32.out ?_ ?_ ?_ ?_); rfl; rfl; kernel_rfl; rfl; exact haone.out; intro w1 a1 b1 k1 z1; clear k1 z1))
  obtain ⟨X, hX⟩ : ∃ X, X = w.heap.size := ⟨_, rfl⟩
  rw [← hX] at a1 ⊢
  obtain ⟨w3, hw3⟩ : ∃ w3, w3 = (w1.alloc (Obj.cells (a.map bv).toArray 28)).alloc (Obj.cells #[Value.bool true] 4) := ⟨_, rfl⟩
  have b13 : Below w1.heap.size w1 w3 := by rw [hw3]; exact ((Below.refl _ _).alloc (Nat.le_refl _) _).alloc (by simp) _
  have rA : Rd w3 (some ⟨w1.heap.size, 0, none⟩) (a.map bv) := by rw [hw3]; exact (Av.newer w1 (a.map bv) _ _).rd
  have rM : Rd w3 (some ⟨w1.heap.size + 1, 0, none⟩) ([true].map Value.bool) := by
    rw [hw3, ← World.size_alloc w1 (Obj.cells (a.map bv).toArray 28)]
    exact (Av.new _ [Value.bool true] _).rd
  have bw3 := b1.trans (b13.mono b1.size)
  have a3 := a1.below b13
  have HB2 := HB.out (some ⟨w1.heap.size, 0, none⟩) (some ⟨w1.heap.size + 1, 0, none⟩) 1 1 w3 rA rM (hT.below bw3)
  replace HB2 := Lib.hid HB2
  replace hX := Lib.hid hX
  replace hw3 := Lib.hid hw3
  clear b1 b13 rA rM HB
  go_upto_region 3 with (first
    | ((with_reducible refine wpList_loadF 28 a1 ?_ _ 32 ha32.out Tryd.underlying28 ?_ ?_ ?_); rfl; rfl; kernel_rfl)
    | ((with_reducible refine wpList_build1 (e := 28) Tryd.underlying23 infoHs32 zeroHs32 ?_ ?_ (a.map bv) ha32.out ?_ ?_); decide; decide; rfl)
    | (go_at_call 13; rw [← hw3.out]; refine (HB2.out).mono ?_; rintro e w4 ⟨b4, Ah, ch, Af, cf, rfl, hch, hcf, rh4, rf4, gh, gf⟩)
    | ((with_reducible refine wpList_storeF 34 ((Below.refl w4.heap.size w4).alloc (Nat.le_refl _) _) (heap_alloc_new _ _) (Nat.le_refl _) (trc 1 Ah 1 ch Af 1 cf) ?_ ?_ 3 rfl ?_ ?_ ?_ ?_); rfl; rfl; kernel_rfl; rfl; rfl; intro w5 aT b5 k5 z5; clear k5; replace z5 := Lib.hid z5))
  obtain ⟨T, hT0⟩ : ∃ T, T = w4.heap.size := ⟨_, rfl⟩
  rw [← hT0] at aT ⊢
  replace hT0 := Lib.hid hT0
  have b45 := b4.trans (b5.mono b4.size)
  have bw5 := bw3.trans (b45.mono bw3.size)
  have rh5 := rh4.below b5
  have rf5 := rf4.below b5
  have a5 := a3.below b45
  have HE2 := HE.out Ah ch Af cf w5 rh5 (by exact rf5) (hT.below bw5)
  have cf0 : ∀ v, Rd v Af [Value.int .u8 1] → ∃ bb off, Af = some ⟨bb, off, none⟩ ∧ v.cell? ⟨bb, off, none⟩ = some (.int .u8 1) := fun v h => by
    obtain ⟨bb, off, e⟩ := h.someA (by simp)
    refine ⟨bb, off, e, ?_⟩
    rcases h with h | ⟨b', o', hA', hc⟩
    · cases h
    · rw [hA'] at e; cases e; exact hc 0 _ rfl
  replace HE2 := Lib.hid HE2
  replace HE := Lib.hid HE
  have rf5' : Rd w5 Af [Value.int .u8 1] := rf5
  obtain ⟨bf, of, rfl, _⟩ := cf0 _ rf5'
  clear b4 b45 rh4 rf4 a3 bw3 HB2 cf0
  go_upto_region 4 with (first
    | ((with_reducible refine wpList_loadF 34 aT ?_ _ 3 ?_ Tryd.underlying34 ?_ ?_ ?_); rfl; rfl; rfl; kernel_rfl)
    | (go_at_call 10; refine (HE2.out).mono ?_; rintro e w6 ⟨b6, Am, cm, rfl, hcm, gm, rm6⟩; dsimp only [List.length_singleton] at hcm ⊢)
    | ((with_reducible refine wpList_storeF 28 ((Below.refl w6.heap.size w6).alloc (Nat.le_refl _) _) (heap_alloc_new _ _) (Nat.le_refl _) (a.map bv) ?_ ?_ 32 ha32.out ?_ ?_ ?_ ?_); rfl; rfl; kernel_rfl; rfl; exact haone.out; intro w7 aR b7 k7 z7; clear k7; replace z7 := Lib.hid z7))
  obtain ⟨R, hR0⟩ : ∃ R, R = w6.heap.size := ⟨_, rfl⟩
  rw [← hR0] at aR ⊢
  replace hR0 := Lib.hid hR0
  have b67 := b6.trans (b7.mono b6.size)
  have bw7 := bw5.trans (b67.mono bw5.size)
  have aT7 := aT.below b67
  have aX7 := a5.below b67
  have rf7 := rf5'.below b67
  have rm7 := rm6.below b7
  obtain ⟨bm, om, rfl⟩ := rm7.someA (by simp)
  have cm0 : ∀ v, Rd v (some ⟨bm, om, none⟩) ([Value.int .i64 0] ++ a.map bv) → v.rangeAt bm (om + 1) (a.map bv) := fun v h j u hj => by
    rcases h with h | ⟨b', o', hA', hc⟩
    · cases h
    · cases hA'
      have := hc (j + 1) u (by simpa using hj)
      rwa [show om + 1 + j = om + (j + 1) by omega]
  have cf1 : ∀ v, Rd v (some ⟨bf, of, none⟩) [Value.int .u8 1] → v.cell? ⟨bf, of, none⟩ = some (.int .u8 1) := fun v h => by
    rcases h with h | ⟨b', o', hA', hc⟩
    · cases h
    · cases hA'; exact hc 0 _ rfl
  replace cm0 := Lib.hid cm0
  replace cf1 := Lib.hid cf1
  clear b6 b7 b67 aT a5 rf5 rf5' rm6 bw5 HE HE2 b5 rh5
  refine wp_region_rel [] Ext (by kernel_rfl) (by kernel_rfl) (by kernel_rfl) Ext.refl Ext.trans (by intro p hp; cases hp) ?_
  refine relMove Ext.refl rfl rfl rfl rfl _ (.inl rfl) (by conv => lhs; whnf) (by simp only [List.set_cons_succ, List.set_cons_zero]; rfl) ?_
  refine relMove Ext.refl rfl rfl rfl rfl _ (.inl rfl) (by conv => lhs; whnf) (by simp only [List.set_cons_succ, List.set_cons_zero]; rfl) ?_
  refine relPure Ext.refl rfl rfl rfl rfl (fun w _ => by go_simp; first | done | rfl) (by simp only [List.set_cons_succ, List.set_cons_zero]; rfl) ?_
  refine relPure Ext.refl rfl rfl rfl rfl (c := .slice Ah 1 ch) (fun w hw => by have := (aT7.below hw.drew).cell 1 _ rfl; go_simp; first | done | rfl) (by simp only [List.set_cons_succ, List.set_cons_zero]; rfl) ?_
  refine relPure Ext.refl rfl rfl rfl rfl (fun w _ => by go_simp; first | done | rfl) (by simp only [List.set_cons_succ, List.set_cons_zero]; rfl) ?_
  refine relPure Ext.refl rfl rfl rfl rfl (fun w _ => by go_simp; first | done | rfl) (by simp only [List.set_cons_succ, List.set_cons_zero]; rfl) ?_
  refine relPick Ext.refl rfl rfl rfl rfl _ _ _ rfl rfl (by conv => lhs; whnf) (by simp only [List.set_cons_succ, List.set_cons_zero]; rfl) ?_
  refine relMove Ext.refl rfl rfl rfl rfl _ (.inl rfl) (by conv => lhs; whnf) (by simp only [List.set_cons_succ, List.set_cons_zero]; rfl) ?_
  refine relPure Ext.refl rfl rfl rfl rfl (fun w _ => by go_simp; first | done | rfl) (by simp only [List.set_cons_succ, List.set_cons_zero]; rfl) ?_
  refine relPure Ext.refl rfl rfl rfl rfl (c := .slice (some ⟨bf, of, none⟩) 1 cf) (fun w hw => by have := (aT7.below hw.drew).cell 2 _ rfl; go_simp; first | done | rfl) (by simp only [List.set_cons_succ, List.set_cons_zero]; rfl) ?_
  refine relPure Ext.refl rfl rfl rfl rfl (fun w _ => by go_simp; first | done | rfl) (by simp only [List.set_cons_succ, List.set_cons_zero]; rfl) ?_
  refine relPure Ext.refl rfl rfl rfl rfl (fun w _ => by go_simp; first | done | rfl) (by simp only [List.set_cons_succ, List.set_cons_zero]; rfl) ?_
  refine relPick Ext.refl rfl rfl rfl rfl _ _ _ rfl rfl (by conv => lhs; whnf) (by simp only [List.set_cons_succ, List.set_cons_zero]; rfl) ?_
  refine relMove Ext.refl rfl rfl rfl rfl _ (.inl rfl) (by conv => lhs; whnf) (by simp only [List.set_cons_succ, List.set_cons_zero]; rfl) ?_
  refine relPure Ext.refl rfl rfl rfl rfl (fun w _ => by go_simp; first | done | rfl) (by simp only [List.set_cons_succ, List.set_cons_zero]; rfl) ?_
  refine relPure Ext.refl rfl rfl rfl rfl (c := .slice (some ⟨bf, of, none⟩) 1 cf) (fun w hw => by have := (aT7.below hw.drew).cell 2 _ rfl; go_simp; first | done | rfl) (by simp only [List.set_cons_succ, List.set_cons_zero]; rfl) ?_
  refine relPure Ext.refl rfl rfl rfl rfl (fun w _ => by go_simp; first | done | rfl) (by simp only [List.set_cons_succ, List.set_cons_zero]; rfl) ?_
  refine relPure Ext.refl rfl rfl rfl rfl (c := .int .u8 1) (fun w hw => by have := cf1.out _ (rf7.below hw.drew); go_simp; first | done | rfl) (by simp only [List.set_cons_succ, List.set_cons_zero]; rfl) ?_
  refine relPure Ext.refl rfl rfl rfl rfl (fun w _ => by go_simp; first | done | rfl) (by simp only [List.set_cons_succ, List.set_cons_zero]; rfl) ?_
  refine relPick Ext.refl rfl rfl rfl rfl _ _ _ rfl rfl (by conv => lhs; whnf) (by simp only [List.set_cons_succ, List.set_cons_zero]; rfl) ?_
  refine relMove Ext.refl rfl rfl rfl rfl _ (.inl rfl) (by conv => lhs; whnf) (by simp only [List.set_cons_succ, List.set_cons_zero]; rfl) ?_
  refine relPure Ext.refl rfl rfl rfl rfl (c := .agg (hcs a)) (fun w hw => exec_loadAv (aR.below hw.drew) _ _ rfl rfl _ 32 ha32.out Tryd.underlying28 rfl (by kernel_rfl)) (by simp only [List.set_cons_succ, List.set_cons_zero]; rfl) ?_
  refine relPure Ext.refl rfl rfl rfl rfl (c := .agg (hcs a)) (fun w hw => exec_loadAv (aX7.below hw.drew) _ _ rfl rfl _ 32 ha32.out Tryd.underlying28 rfl (by kernel_rfl)) (by simp only [List.set_cons_succ, List.set_cons_zero]; rfl) ?_
  refine relBin Ext.refl rfl rfl rfl rfl _ _ _ _ _ rfl (by conv => lhs; whnf) (by conv => lhs; whnf) (c := .bool true) (fun w => EQ.out _ _ w) (by simp only [List.set_cons_succ, List.set_cons_zero]; rfl) ?_
  refine relPick Ext.refl rfl rfl rfl rfl _ _ _ rfl rfl (by conv => lhs; whnf) (by simp only [List.set_cons_succ, List.set_cons_zero]; rfl) ?_
  refine relMove Ext.refl rfl rfl rfl rfl _ (.inl rfl) (by conv => lhs; whnf) (by simp only [List.set_cons_succ, List.set_cons_zero]; rfl) ?_
  refine relMove Ext.refl rfl rfl rfl rfl _ (.inl rfl) (by conv => lhs; whnf) (by simp only [List.set_cons_succ, List.set_cons_zero]; rfl) ?_
  refine relPure Ext.refl rfl rfl rfl rfl (fun w _ => by go_simp; first | done | rfl) (by simp only [List.set_cons_succ, List.set_cons_zero]; rfl) ?_
  refine relPure Ext.refl rfl rfl rfl rfl (fun w _ => by go_simp; first | done | rfl) (by simp only [List.set_cons_succ, List.set_cons_zero]; rfl) ?_
  refine relPick Ext.refl rfl rfl rfl rfl _ _ _ rfl rfl (by conv => lhs; whnf) (by simp only [List.set_cons_succ, List.set_cons_zero]; rfl) ?_
  refine relMove Ext.refl rfl rfl rfl rfl _ (.inl rfl) (by conv => lhs; whnf) (by simp only [List.set_cons_succ, List.set_cons_zero]; rfl) ?_
  refine relMove Ext.refl rfl rfl rfl rfl _ (.inl rfl) (by conv => lhs; whnf) (by simp only [List.set_cons_succ, List.set_cons_zero]; rfl) ?_
  refine relPure Ext.refl rfl rfl rfl rfl (fun w _ => by go_simp; first | done | rfl) (by simp only [List.set_cons_succ, List.set_cons_zero]; rfl) ?_
  refine relPure Ext.refl rfl rfl rfl rfl (c := .pointer (some ⟨bm, om + 1, none⟩)) (fun w _ => by go_simp; first | done | rfl) (by simp only [List.set_cons_succ, List.set_cons_zero]; rfl) ?_
  refine relPure Ext.refl rfl rfl rfl rfl (c := .agg (hcs a)) (fun w hw => exec_load_mid _ _ rfl bm (om + 1) rfl (a.map bv) _ (cm0.out _ (rm7.below hw.drew)) Tryd.underlying28 rfl (by rw [ha32.out]; kernel_rfl)) (by simp only [List.set_cons_succ, List.set_cons_zero]; rfl) ?_
  refine relPure Ext.refl rfl rfl rfl rfl (c := .agg (hcs a)) (fun w hw => exec_loadAv (aX7.below hw.drew) _ _ rfl rfl _ 32 ha32.out Tryd.underlying28 rfl (by kernel_rfl)) (by simp only [List.set_cons_succ, List.set_cons_zero]; rfl) ?_
  refine relBin Ext.refl rfl rfl rfl rfl _ _ _ _ _ rfl (by conv => lhs; whnf) (by conv => lhs; whnf) (c := .bool true) (fun w => EQ.out _ _ w) (by simp only [List.set_cons_succ, List.set_cons_zero]; rfl) ?_
  refine relPick Ext.refl rfl rfl rfl rfl _ _ _ rfl rfl (by conv => lhs; whnf) (by simp only [List.set_cons_succ, List.set_cons_zero]; rfl) ?_
  refine relMove Ext.refl rfl rfl rfl rfl _ (.inl rfl) (by conv => lhs; whnf) (by simp only [List.set_cons_succ, List.set_cons_zero]; rfl) ?_
  refine relMove Ext.refl rfl rfl rfl rfl _ (.inl rfl) (by conv => lhs; whnf) (by simp only [List.set_cons_succ, List.set_cons_zero]; rfl) ?_
  refine relPure Ext.refl rfl rfl rfl rfl (fun w _ => by go_simp; first | done | rfl) (by simp only [List.set_cons_succ, List.set_cons_zero]; rfl) ?_
  refine relPick Ext.refl rfl rfl rfl rfl _ _ _ rfl rfl (by conv => lhs; whnf) (by simp only [List.set_cons_succ, List.set_cons_zero]; rfl) ?_
  refine relMove Ext.refl rfl rfl rfl rfl _ (.inr rfl) (by conv => lhs; whnf) (by simp only [List.set_cons_zero]; rfl) ?_
  refine relEnd fun w8 hw8 => fill_end ?_
  go_wp2
  go_ret
  exact ⟨rfl, bw7.trans (hw8.drew.mono bw7.size)⟩
end Go.Proofs.YtmdllemgjhkphaaDoor
/- The law PartialProves: the walk. -/
namespace Go.Proofs.YtmdllemgjhkphaaDoor
open Go.RowKit
attribute [local go_sem high] slB_lh slB_l slB_h
/-- how many leaves match ahead of one -/
def mcnt (ms : List Bool) (hs : List (List UInt8)) (i : Nat) : Nat := ((List.range i).filterMap fun p => if ms.getD p false then some (p, hs.getD p []) else none).length
theorem mcnt_le (ms : List Bool) (hs : List (List UInt8)) (i : Nat) : mcnt ms hs i ≤ i := by
  have := List.length_filterMap_le (fun p => if ms.getD p false then some (p, hs.getD p []) else none) (List.range i)
  rw [List.length_range] at this
  exact this
theorem mcnt_succ (ms : List Bool) (hs : List (List UInt8)) (i : Nat) : mcnt ms hs (i + 1) = mcnt ms hs i + if ms.getD i false then 1 else 0 := by
  unfold mcnt
  rw [List.range_succ, List.filterMap_append, List.length_append]
  congr 1
  rw [List.filterMap_cons]
  split <;> rename_i h <;> split at h <;> simp_all
theorem mts_at {n : Nat} {ms : List Bool} {hs : List (List UInt8)} {i : Nat} (hi : i < n) (h : ms.getD i false = true) : (mts n ms hs)[mcnt ms hs i]? = some (i, hs.getD i []) := by
  unfold mts mcnt
  obtain ⟨k, rfl⟩ : ∃ k, n = i + 1 + k := ⟨n - i - 1, by omega⟩
  rw [List.range_add, List.range_succ, List.append_assoc, List.filterMap_append, List.getElem?_append_right (Nat.le_refl _), Nat.sub_self, List.filterMap_append, List.filterMap_cons]
  rw [if_pos h]
  rfl
theorem mts_end {n : Nat} {ms : List Bool} {hs : List (List UInt8)} {i : Nat} (hi : i ≤ n) (h : ∀ j, i ≤ j → j < n → ms.getD j false = false) : (mts n ms hs).length = mcnt ms hs i := by
  unfold mts mcnt
  obtain ⟨k, rfl⟩ : ∃ k, n = i + k := ⟨n - i, by omega⟩
  rw [List.range_add, List.filterMap_append, List.length_append]
  have : List.filterMap (fun p => if ms.getD p false then some (p, hs.getD p []) else none) (List.map (fun x => i + x) (List.range k)) = [] := by
    rw [List.filterMap_eq_nil_iff]
    intro p hp
    obtain ⟨j, hj, rfl⟩ := List.mem_map.1 hp
    rw [h (i + j) (by omega) (by have := List.mem_range.1 hj; omega)]
    rfl
  rw [this]
  rfl
theorem mts_mem {n : Nat} {ms : List Bool} {hs : List (List UInt8)} {p : Nat × List UInt8} (h : p ∈ mts n ms hs) : p.1 < n ∧ ms.getD p.1 false = true ∧ p.2 = hs.getD p.1 [] := by
  unfold mts at h
  obtain ⟨q, hq, he⟩ := List.mem_filterMap.1 h
  split at he
  · rename_i hm
    obtain rfl := Option.some.inj he
    exact ⟨List.mem_range.1 hq, hm, rfl⟩
  · cases he
theorem mts_32 {n : Nat} {ms : List Bool} {hs : List (List UInt8)} (h32 : All32 hs) (hn : hs.length = n) : ∀ p ∈ mts n ms hs, p.2.length = 32 := fun p hp => by
  obtain ⟨h1, _, h3⟩ := mts_mem hp
  rw [h3, List.getD_eq_getElem?_getD, List.getElem?_eq_getElem (by omega)]
  exact h32 _ (List.getElem_mem _)
theorem mRoot_32 (hs : List (List UInt8)) (h32 : All32 hs) : (mRootOf (mLv hs)).length = 32 := by
  have := mRootOf_length hs h32 (mLv hs).length
  rwa [List.take_length] at this
/-- a match's place and hash -/
theorem Rd.match_at {v : World} {b off : Nat} {l : List (Nat × List UInt8)} (h : Rd v (some ⟨b, off, none⟩) (mlc l)) (h32 : ∀ p ∈ l, p.2.length = 32) (k : Nat) (p : Nat × List UInt8) (hk : l[k]? = some p) : v.cell? ⟨b, off + k * 33, none⟩ = some (.int .i64 (p.1 : Int)) ∧ v.rangeAt b (off + k * 33 + 1) (p.2.map bv) := by
  have := Rd.piece mtc 33 l (fun e he => mtc_len (h32 e he)) h k p hk
  refine ⟨?_, fun j u hj => ?_⟩
  · have := this 0 (.int .i64 (p.1 : Int)) rfl
    rwa [Nat.add_zero] at this
  · have := this (j + 1) u (by rw [mtc, List.singleton_append, List.getElem?_cons_succ]; exact hj)
    rwa [show off + k * 33 + (j + 1) = off + k * 33 + 1 + j by omega] at this
theorem mlc_ne {l : List (Nat × List UInt8)} (h : 0 < l.length) : mlc l ≠ [] := by
  cases l with
  | nil => simp at h
  | cons p l => simp [mlc, mtc]
theorem Rd.bool_at {v : World} {b off : Nat} {ms : List Bool} (h : Rd v (some ⟨b, off, none⟩) (ms.map Value.bool)) (k : Nat) (hk : k < ms.length) : v.cell? ⟨b, off + k, none⟩ = some (.bool (ms.getD k false)) := by
  rcases h with h | ⟨b', o', hA', hc⟩
  · have := congrArg List.length h; rw [List.length_map, List.length_nil] at this; omega
  · cases hA'
    exact hc k _ (by rw [List.getElem?_map, List.getElem?_eq_getElem hk, List.getD_eq_getElem?_getD, List.getElem?_eq_getElem hk]; rfl)
set_option maxRecDepth 10000 in
set_option maxHeartbeats 4000000 in
theorem pproves_0 (A Am : Option Addr) (n c nm cm : Nat) (h : 40 < n) (w : World) (hT : Tabs w) : Calls Tryd.prog 4 #[.slice A n c, .slice Am nm cm] w fun e w' => e = .returned (.bool true) ∧ Below w.heap.size w w' := by
  have t1 : decide ((40 : Int) < (n : Int)) = true := by simp; omega
  have t2 : decide (40 < n) = true := by simp; omega
  have HA := Lib.hid (awake11 w hT)
  go_enter Tryd.func4, Tryd.ntmps4
  go_wp2_with (go_at_call 9; refine (HA.out).mono ?_; rintro e w1 ⟨rfl, b1⟩)
  go_ret
  exact ⟨rfl, b1⟩
set_option maxRecDepth 10000 in
set_option maxHeartbeats 4000000 in
theorem pproves_1 (A Am : Option Addr) (n c nm cm : Nat) (h0 : n ≤ 40) (h : 60 < nm) (w : World) (hT : Tabs w) : Calls Tryd.prog 4 #[.slice A n c, .slice Am nm cm] w fun e w' => e = .returned (.bool true) ∧ Below w.heap.size w w' := by
  have t1 : decide ((40 : Int) < (n : Int)) = false := by simp; omega
  have t2 : decide (40 < n) = false := by simp; omega
  have t3 : decide ((60 : Int) < (nm : Int)) = true := by simp; omega
  have t4 : decide (60 < nm) = true := by simp; omega
  have HA := Lib.hid (awake11 w hT)
  go_enter Tryd.func4, Tryd.ntmps4
  go_wp2_with (go_at_call 9; refine (HA.out).mono ?_; rintro e w1 ⟨rfl, b1⟩)
  go_ret
  exact ⟨rfl, b1⟩
set_option maxRecDepth 10000 in
set_option maxHeartbeats 4000000 in
theorem pproves_2 (A Am : Option Addr) (n c nm cm : Nat) (h0 : n = 0) (h : nm ≤ 60) (w : World) (hT : Tabs w) : Calls Tryd.prog 4 #[.slice A n c, .slice Am nm cm] w fun e w' => e = .returned (.bool true) ∧ Below w.heap.size w w' := by
  subst h0
  have t3 : decide ((60 : Int) < (nm : Int)) = false := by simp; omega
  have t4 : decide (60 < nm) = false := by simp; omega
  have HA := Lib.hid (awake11 w hT)
  go_enter Tryd.func4, Tryd.ntmps4
  go_wp2_with (go_at_call 9; refine (HA.out).mono ?_; rintro e w1 ⟨rfl, b1⟩)
  go_ret
  exact ⟨rfl, b1⟩
set_option maxRecDepth 100000 in
set_option maxHeartbeats 16000000 in
theorem pproves_3 (hs : List (List UInt8)) (h32 : All32 hs) (ms : List Bool) (A Am : Option Addr) (n c nm cm : Nat) (hn : hs.length = n) (hnm : ms.length = nm) (w : World) (hr : Rd w A (hcl hs)) (hrm : Rd w Am (ms.map Value.bool)) (hT : Tabs w) (h0 : 0 < n) (h40 : n ≤ 40) (h60 : nm ≤ 60) : Calls Tryd.prog 4 #[.slice A n c, .slice Am nm cm] w fun e w' => e = .returned (.bool true) ∧ Below w.heap.size w w' := by
  have t1 : decide ((40 : Int) < (n : Int)) = false := by simp; omega
  have t2 : decide (40 < n) = false := by simp; omega
  have t3 : decide ((60 : Int) < (nm : Int)) = false := by simp; omega
  have t4 : decide (60 < nm) = false := by simp; omega
  have t5 : ((n : Int) == 0) = false := by simp; omega
  have HA := Lib.hid (awake11 w hT)
  have HR := fun w' r t => RootAny hs h32 A n c hn w' r t
  have HB := fun w' r r2 t => PBuild_yes hs h32 ms A Am n c nm cm hn hnm h0 (by omega) (by omega) w' r r2 t
  have h32m := mRoot_32 hs h32
  have hx := pExt_built hs ms n hn h0 (by omega)
  have hok := fun ha => pOk_unlike hs ms n hn h0 (by omega) ha
  obtain ⟨al, hal⟩ : ∃ al, al = mAlike (mLv hs) := ⟨_, rfl⟩
  rw [← hal] at HR hok
  obtain ⟨x, hx0⟩ : ∃ x, x = mRootOf (mLv hs) := ⟨_, rfl⟩
  rw [← hx0] at HR h32m hx
  have x32 : (x.map bv).length = 32 := by rw [List.length_map, h32m]
  have xone : (x.map bv).all (·.oneCell') = true := List.all_eq_true.2 (bv_one x)
  obtain ⟨b0, b1, b2⟩ := pBhs_length hs ms n hn h0 (by omega)
  have hB32 : All32 (pBhs hs ms) := by
    unfold pBhs
    rw [hn]
    refine pHs_32 (fun l hl => (mLv_mem hs h32 l hl).1) (fun v hv _ => ?_)
    obtain ⟨l, y, q1, q2, _⟩ := lvq_at hs n hn h0 (by omega) v.h v.i (pVis_mem n ms _ _ v hv) (pVis_ok h0 ms _ _ (pHt_pos n h0) v hv)
    exact ⟨l, y, q1, q2⟩
  have hvl := pVis_length n ms (pHt n) 0
  have hp13 : 2 ^ (pHt n + 1) ≤ 2 ^ 13 := Nat.pow_le_pow_right (by omega) (by have := (pHt_spec n (by omega)).1; omega)
  have hfl := pBfl_length n ms
  have hfl2 : (pBfl n ms).length ≤ 10000 := by unfold pAll at hfl; omega
  have HE := fun Ah ch Af cf w' r r2 t => PExt (pBfl n ms) (pBhs hs ms) hB32 n Ah _ ch Af _ cf rfl rfl (by omega) hfl2 (by omega) w' r r2 t
  rw [hx] at HE
  have hM32 := mts_32 (n := n) (ms := ms) h32 hn
  have hMl : (mts n ms hs).length ≤ n := by
    have := List.length_filterMap_le (fun p => if ms.getD p false then some (p, hs.getD p []) else none) (List.range n)
    rw [List.length_range] at this
    exact this
  have hMa := fun i => @mts_at n ms hs i
  have hMe := fun i => @mts_end n ms hs i
  obtain ⟨M, hM⟩ : ∃ M, M = mts n ms hs := ⟨_, rfl⟩
  rw [← hM] at HE hM32 hMl hMa hMe
  obtain ⟨K, hK⟩ : ∃ K, K = (pBhs hs ms).length := ⟨_, rfl⟩
  obtain ⟨J, hJ⟩ : ∃ J, J = (pBfl n ms).length := ⟨_, rfl⟩
  rw [← hK, ← hJ] at HE HB
  have EQ := fun p q w => eqlHw x x h32m h32m p q w
  rw [show (x == x) = true by simp] at EQ
  clear hx hfl hfl2 b0 b1 b2 hvl hp13 hB32
  replace HR := Lib.hid HR
  replace HB := Lib.hid HB
  replace HE := Lib.hid HE
  replace EQ := Lib.hid EQ
  replace hal := Lib.hid hal
  replace hx0 := Lib.hid hx0
  replace x32 := Lib.hid x32
  replace xone := Lib.hid xone
  replace hM := Lib.hid hM
  replace hK := Lib.hid hK
  replace hJ := Lib.hid hJ
  replace hMa := Lib.hid hMa
  replace hMe := Lib.hid hMe
  replace hok := Lib.hid hok
  replace hn := Lib.hid hn
  replace hnm := Lib.hid hnm
  replace h32m := Lib.hid h32m
  replace hM32 := Lib.hid hM32
  go_enter Tryd.func4, Tryd.ntmps4
  go_upto_region 4 with (go_at_call 9; refine (HA.out).mono ?_; rintro e w1 ⟨rfl, b1⟩)
  have r1 := hr.below b1
  clear HA
  go_upto_region 5 with (first
    | (go_at_call 12; refine (HR.out w1 r1 (hT.below b1)).mono ?_; rintro e w2 ⟨rfl, b2⟩)
    | ((with_reducible refine wpList_storeF 28 ((Below.refl w2.heap.size w2).alloc (Nat.le_refl _) _) (heap_alloc_new _ _) (Nat.le_refl _) (x.map bv) ?_ ?_ 32 x32.out ?_ ?_ ?_ ?_); rfl; rfl; kernel_rfl; rfl; exact xone.out; intro w3 aR b9 k9 z9; clear k9; replace z9 := Lib.hid z9))
  have b13 := b2.trans (b9.mono b2.size)
  have bw3 := b1.trans (b13.mono b1.size)
  obtain ⟨GR, hGR⟩ : ∃ g, g = w2.heap.size := ⟨_, rfl⟩
  rw [← hGR] at aR ⊢
  replace hGR := Lib.hid hGR
  clear b1 b2 b9 b13 r1
  cases al with
  | true =>
    go_wp2
    go_ret
    exact ⟨rfl, bw3⟩
  | false =>
    have hok2 := hok.out rfl
    replace HE := HE.out
    rw [hok2, if_pos rfl] at HE
    unfold ExtPost at HE
    dsimp only at HE
    replace HE := Lib.hid HE
    have r3 := hr.below bw3
    have rm3 := hrm.below bw3
    have t3' := hT.below bw3
    go_upto_region 8 with (first
      | (go_at_call 13; refine (HB.out w3 r3 rm3 t3').mono ?_; rintro e w4 ⟨b4, Ah, ch, Af, cf, rfl, hch, hcf, rh4, rf4, gh, gf⟩)
      | ((with_reducible refine wpList_storeF 34 ((Below.refl w4.heap.size w4).alloc (Nat.le_refl _) _) (heap_alloc_new _ _) (Nat.le_refl _) (trc n Ah K ch Af J cf) ?_ ?_ 3 rfl ?_ ?_ ?_ ?_); rfl; rfl; kernel_rfl; rfl; rfl; intro w5 aT b9 k9 z9; clear k9; replace z9 := Lib.hid z9))
    have b45 := b4.trans (b9.mono b4.size)
    have bw5 := bw3.trans (b45.mono bw3.size)
    have rh5 := rh4.below b9
    have rf5 := rf4.below b9
    have aR5 := aR.below b45
    obtain ⟨GT, hGT⟩ : ∃ g, g = w4.heap.size := ⟨_, rfl⟩
    rw [← hGT] at aT ⊢
    replace hGT := Lib.hid hGT
    have HE2 := Lib.hid (HE.out Ah ch Af cf w5 rh5 rf5 (hT.below bw5))
    clear b4 b9 b45 rh4 rf4 aR r3 rm3 t3' HB HE
    go_upto_region 9 with (first
      | ((with_reducible refine wpList_loadF 34 aT ?_ _ 3 (rfl) Tryd.underlying34 ?_ ?_ ?_); rfl; rfl; kernel_rfl)
      | (go_at_call 10; refine (HE2.out).mono ?_; rintro e w6 ⟨b6, Ax, cx, rfl, hcx, gx, rx6⟩)
      | ((with_reducible refine wpList_storeF 28 ((Below.refl w6.heap.size w6).alloc (Nat.le_refl _) _) (heap_alloc_new _ _) (Nat.le_refl _) (x.map bv) ?_ ?_ 32 x32.out ?_ ?_ ?_ ?_); rfl; rfl; kernel_rfl; rfl; exact xone.out; intro w7 aE b9 k9 z9; clear k9; replace z9 := Lib.hid z9))
    have b67 := b6.trans (b9.mono b6.size)
    have bw7 := bw5.trans (b67.mono bw5.size)
    have aR7 := aR5.below b67
    have rx7 := rx6.below b9
    obtain ⟨GE, hGE⟩ : ∃ g, g = w6.heap.size := ⟨_, rfl⟩
    rw [← hGE] at aE ⊢
    replace hGE := Lib.hid hGE
    obtain ⟨mn, hmn⟩ : ∃ mn, mn = M.length := ⟨_, rfl⟩
    rw [← hmn] at hMl hcx ⊢
    replace hmn := Lib.hid hmn
    clear b6 b9 b67 aR5 rx6 rh5 rf5 aT HE2 bw5
    go_wp2
    go_loopw [13, 14] (fun v i wr => ∃ j : Nat, j ≤ n ∧ i = .int .i64 (j : Int) ∧ v = .int .i64 ((mcnt ms hs j : Nat) : Int) ∧ Below w7.heap.size w7 wr) (fun _ i _ => n - (intOf i).toNat)
    case atStart => exact ⟨0, by omega, rfl, rfl, Below.refl _ _⟩
    case round =>
      obtain ⟨j, hj, rfl, rfl, bw⟩ := hrel
      obtain ⟨q, hq⟩ : ∃ q, q = mcnt ms hs j := ⟨_, rfl⟩
      have hqs := mcnt_succ ms hs j
      have hqj := mcnt_le ms hs j
      rw [← hq] at hqs hqj ⊢
      by_cases hlt : j < n ∧ j < nm
      · obtain ⟨l1, l2⟩ := hlt
        have u1 : decide ((j : Int) < (n : Int)) = true := by simp; omega
        have u2 : decide ((j : Int) < (nm : Int)) = true := by simp; omega
        obtain ⟨bM, oM, rfl⟩ := hrm.someA (by intro e; have := congrArg List.length e; rw [List.length_map, hnm.out] at this; simp at this; omega)
        have cb := ((hrm.below bw7).below bw).bool_at j (by rw [hnm.out]; exact l2)
        have m2 : (j : Int) < (nm : Int) := by omega
        cases hb : ms.getD j false with
        | false =>
          rw [hb] at cb hqs
          have e1 : mcnt ms hs (j + 1) = q := by simpa using hqs
          replace hb := Lib.hid hb
          replace hq := Lib.hid hq
          replace hqs := Lib.hid hqs
          replace e1 := Lib.hid e1
          go_wp2
          go_roundw
          case rel => exact ⟨j + 1, by omega, by go_num, by rw [e1.out], bw⟩
          case measure =>
            simp [intOf]
            omega
        | true =>
          rw [hb] at cb hqs
          have e1 : mcnt ms hs (j + 1) = q + 1 := by simpa using hqs
          have hMq := hMa.out j l1 hb
          rw [← hq] at hMq
          have hql := (List.getElem?_eq_some_iff.1 hMq).1
          rw [← hmn.out] at hql
          obtain ⟨bX, oX, rfl⟩ := rx7.someA (mlc_ne (by rw [← hmn.out]; omega))
          obtain ⟨bH, oH, rfl⟩ := hr.someA (hcl_ne h32 (by rw [hn.out]; exact h0))
          have y32 : (hs.getD j []).length = 32 := by
            rw [List.getD_eq_getElem?_getD, List.getElem?_eq_getElem (by rw [hn.out]; exact l1)]
            exact h32 _ (List.getElem_mem _)
          have G1 : ∀ w', Below w7.heap.size w7 w' → w'.cell? ⟨bX, oX + q * 33, none⟩ = some (.int .i64 (j : Int)) ∧ w'.rangeAt bX (oX + q * 33 + 1) ((hs.getD j []).map bv) := fun w' h => (rx7.below h).match_at hM32.out q _ hMq
          have G2 : ∀ w', Below w7.heap.size w7 w' → w'.rangeAt bH (oH + j * 32) ((hs.getD j []).map bv) := fun w' h => ((hr.below bw7).below h).hash h32 j (by rw [hn.out]; exact l1)
          obtain ⟨y, hy⟩ : ∃ y, y = hs.getD j [] := ⟨_, rfl⟩
          rw [← hy] at y32 G1 G2
          have yv32 : (y.map bv).length = 32 := by rw [List.length_map, y32]
          have NQ := fun p q w => neqHw y y y32 y32 p q w
          rw [show (!(y == y)) = false by simp] at NQ
          have u3 : decide ((mn : Int) ≤ (q : Int)) = false := by simp; omega
          have u4 : ((j : Int) != (j : Int)) = false := by simp
          have m3 : (q : Int) < (mn : Int) := by omega
          have m4 : (j : Int) < (n : Int) := by omega
          have qb : q ≤ 1000 := by omega
          replace hb := Lib.hid hb
          replace hq := Lib.hid hq
          replace hqs := Lib.hid hqs
          replace e1 := Lib.hid e1
          replace hMq := Lib.hid hMq
          replace hy := Lib.hid hy
          replace y32 := Lib.hid y32
          replace G1 := Lib.hid G1
          replace G2 := Lib.hid G2
          replace NQ := Lib.hid NQ
          go_wp2_with fail
          refine wp_region_rel [] Ext (by kernel_rfl) (by kernel_rfl) (by kernel_rfl) Ext.refl Ext.trans (by intro p hp; cases hp) ?_
          refine relMove Ext.refl rfl rfl rfl rfl _ (.inl rfl) (by conv => lhs; whnf) (by simp only [List.set_cons_succ, List.set_cons_zero]; rfl) ?_
          refine relMove Ext.refl rfl rfl rfl rfl _ (.inl rfl) (by conv => lhs; whnf) (by simp only [List.set_cons_succ, List.set_cons_zero]; rfl) ?_
          refine relPure Ext.refl rfl rfl rfl rfl (fun w _ => by go_simp; first | done | rfl) (by simp only [List.set_cons_succ, List.set_cons_zero]; rfl) ?_
          refine relPure Ext.refl rfl rfl rfl rfl (c := .bool false) (fun w _ => by go_simp; first | done | rfl) (by simp only [List.set_cons_succ, List.set_cons_zero]; rfl) ?_
          refine relMove Ext.refl rfl rfl rfl rfl _ (.inl rfl) (by conv => lhs; whnf) (by simp only [List.set_cons_succ, List.set_cons_zero]; rfl) ?_
          refine relMove Ext.refl rfl rfl rfl rfl _ (.inl rfl) (by conv => lhs; whnf) (by simp only [List.set_cons_succ, List.set_cons_zero]; rfl) ?_
          refine relMove Ext.refl rfl rfl rfl rfl _ (.inl rfl) (by conv => lhs; whnf) (by simp only [List.set_cons_succ, List.set_cons_zero]; rfl) ?_
          refine relPure Ext.refl rfl rfl rfl rfl (c := .pointer (some ⟨bX, oX + q * 33, none⟩)) (fun w _ => by go_simp; first | done | rfl) (by simp only [List.set_cons_succ, List.set_cons_zero]; rfl) ?_
          refine relPure Ext.refl rfl rfl rfl rfl (c := .pointer (some ⟨bX, oX + q * 33, none⟩)) (fun w _ => by go_simp; first | done | rfl) (by simp only [List.set_cons_succ, List.set_cons_zero]; rfl) ?_
          refine relPure Ext.refl rfl rfl rfl rfl (c := .int .i64 (j : Int)) (fun w hw => by have := (G1.out _ (bw.trans (hw.drew.mono bw.size))).1; go_simp; first | done | rfl) (by simp only [List.set_cons_succ, List.set_cons_zero]; rfl) ?_
          refine relMove Ext.refl rfl rfl rfl rfl _ (.inl rfl) (by conv => lhs; whnf) (by simp only [List.set_cons_succ, List.set_cons_zero]; rfl) ?_
          refine relPure Ext.refl rfl rfl rfl rfl (c := .bool false) (fun w _ => by go_simp; first | done | rfl) (by simp only [List.set_cons_succ, List.set_cons_zero]; rfl) ?_
          refine relPick Ext.refl rfl rfl rfl rfl _ _ _ rfl rfl (by conv => lhs; whnf) (by simp only [List.set_cons_succ, List.set_cons_zero]; rfl) ?_
          refine relMove Ext.refl rfl rfl rfl rfl _ (.inl rfl) (by conv => lhs; whnf) (by simp only [List.set_cons_succ, List.set_cons_zero]; rfl) ?_
          refine relMove Ext.refl rfl rfl rfl rfl _ (.inl rfl) (by conv => lhs; whnf) (by simp only [List.set_cons_succ, List.set_cons_zero]; rfl) ?_
          refine relMove Ext.refl rfl rfl rfl rfl _ (.inl rfl) (by conv => lhs; whnf) (by simp only [List.set_cons_succ, List.set_cons_zero]; rfl) ?_
          refine relPure Ext.refl rfl rfl rfl rfl (c := .pointer (some ⟨bX, oX + q * 33, none⟩)) (fun w _ => by go_simp; first | done | rfl) (by simp only [List.set_cons_succ, List.set_cons_zero]; rfl) ?_
          refine relPure Ext.refl rfl rfl rfl rfl (c := .pointer (some ⟨bX, oX + q * 33 + 1, none⟩)) (fun w _ => by go_simp; first | done | rfl) (by simp only [List.set_cons_succ, List.set_cons_zero]; rfl) ?_
          refine relPure Ext.refl rfl rfl rfl rfl (c := .agg (hcs y)) (fun w hw => exec_load_mid _ _ rfl bX (oX + q * 33 + 1) rfl (y.map bv) _ ((G1.out _ (bw.trans (hw.drew.mono bw.size))).2) Tryd.underlying28 rfl (by rw [yv32]; kernel_rfl)) (by simp only [List.set_cons_succ, List.set_cons_zero]; rfl) ?_
          refine relMove Ext.refl rfl rfl rfl rfl _ (.inl rfl) (by conv => lhs; whnf) (by simp only [List.set_cons_succ, List.set_cons_zero]; rfl) ?_
          refine relMove Ext.refl rfl rfl rfl rfl _ (.inl rfl) (by conv => lhs; whnf) (by simp only [List.set_cons_succ, List.set_cons_zero]; rfl) ?_
          refine relPure Ext.refl rfl rfl rfl rfl (c := .pointer (some ⟨bH, oH + j * 32, none⟩)) (fun w _ => by go_simp; first | done | rfl) (by simp only [List.set_cons_succ, List.set_cons_zero]; rfl) ?_
          refine relPure Ext.refl rfl rfl rfl rfl (c := .agg (hcs y)) (fun w hw => exec_load_mid _ _ rfl bH (oH + j * 32) rfl (y.map bv) _ (G2.out _ (bw.trans (hw.drew.mono bw.size))) Tryd.underlying28 rfl (by rw [yv32]; kernel_rfl)) (by simp only [List.set_cons_succ, List.set_cons_zero]; rfl) ?_
          refine relBin Ext.refl rfl rfl rfl rfl _ _ _ _ _ rfl (by conv => lhs; whnf) (by conv => lhs; whnf) (c := .bool false) (fun w => NQ.out _ _ w) (by simp only [List.set_cons_succ, List.set_cons_zero]; rfl) ?_
          refine relPick Ext.refl rfl rfl rfl rfl _ _ _ rfl rfl (by conv => lhs; whnf) (by simp only [List.set_cons_succ, List.set_cons_zero]; rfl) ?_
          refine relEnd fun w8 hw8 => fill_end ?_
          have b8 := bw.trans (hw8.drew.mono bw.size)
          go_wp2
          refine ⟨⟨j + 1, by omega, by go_num, by rw [e1.out]; go_num, b8⟩, ?_⟩
          simp [intOf]
          omega
      · have hex : mn = q := by
          rw [hmn.out, hq]
          refine hMe.out j hj (fun p p1 p2 => ?_)
          rw [List.getD_eq_getElem?_getD, List.getElem?_eq_none (by rw [hnm.out]; omega)]
          rfl
        have bwr := bw7.trans (bw.mono bw7.size)
        have aRr := aR7.below bw
        have aEr := aE.below bw
        have u5 : ((q : Int) == (mn : Int)) = true := by rw [hex]; simp
        replace hex := Lib.hid hex
        replace hq := Lib.hid hq
        replace hqs := Lib.hid hqs
        by_cases l1 : j < n
        · have u1 : decide ((j : Int) < (n : Int)) = true := by simp; omega
          have u2 : decide ((j : Int) < (nm : Int)) = false := by simp; omega
          go_wp2_with (first
            | ((with_reducible refine wpList_loadG 28 aEr ?_ ?_ _ 32 x32.out Tryd.underlying28 ?_ ?_ ?_); rfl; rfl; rfl; kernel_rfl)
            | ((with_reducible refine wpList_loadG 28 aRr ?_ ?_ _ 32 x32.out Tryd.underlying28 ?_ ?_ ?_); rfl; rfl; rfl; kernel_rfl)
            | ((with_reducible refine wpList_binG (op := .eql) (ty := 28) ?_ ?_ ?_ (EQ.out _ _ wr) ?_); rfl; rfl; rfl))
          go_ret
          exact ⟨rfl, bwr⟩

        · have u1 : decide ((j : Int) < (n : Int)) = false := by simp; omega
          go_wp2_with (first
            | ((with_reducible refine wpList_loadG 28 aEr ?_ ?_ _ 32 x32.out Tryd.underlying28 ?_ ?_ ?_); rfl; rfl; rfl; kernel_rfl)
            | ((with_reducible refine wpList_loadG 28 aRr ?_ ?_ _ 32 x32.out Tryd.underlying28 ?_ ?_ ?_); rfl; rfl; rfl; kernel_rfl)
            | ((with_reducible refine wpList_binG (op := .eql) (ty := 28) ?_ ?_ ?_ (EQ.out _ _ wr) ?_); rfl; rfl; rfl))
          go_ret
          exact ⟨rfl, bwr⟩

theorem law_PartialProves (hs : List (List UInt8)) (h32 : All32 hs) (ms : List Bool) (A Am : Option Addr) (n c nm cm : Nat) (hn : hs.length = n) (hnm : ms.length = nm) (w : World) (hr : Rd w A (hcl hs)) (hrm : Rd w Am (ms.map Value.bool)) (hT : Tabs w) : Calls Tryd.prog 4 #[.slice A n c, .slice Am nm cm] w fun e w' => e = .returned (.bool true) ∧ Below w.heap.size w w' := by
  by_cases h1 : 40 < n
  · exact pproves_0 A Am n c nm cm h1 w hT
  by_cases h2 : 60 < nm
  · exact pproves_1 A Am n c nm cm (by omega) h2 w hT
  by_cases h3 : n = 0
  · exact pproves_2 A Am n c nm cm h3 (by omega) w hT
  exact pproves_3 hs h32 ms A Am n c nm cm hn hnm w hr hrm hT (by omega) (by omega) (by omega)
end Go.Proofs.YtmdllemgjhkphaaDoor
/- The law PartialAll: the walk. -/
namespace Go.Proofs.YtmdllemgjhkphaaDoor
open Go.RowKit
attribute [local go_sem high] slB_lh slB_l slB_h
theorem madeCells_bools (k : Nat) : madeCells #[Value.bool false] k = ((List.replicate k false).map Value.bool).toArray := by
  apply Array.ext
  · simp [size_madeCells]
  · intro i h1 h2
    have e : i % 1 = 0 := Nat.mod_one i
    simp [madeCells, e]
theorem info_bool : (Tryd.prog.info? 4).map (fun i => (i.zero, i.size, i.bytes)) = some (some (.bool false), 1, 1) := by kernel_rfl
theorem make_bools (n : Nat) (hn : n ≤ 1000000) (u : World) : (Instr.makeSlice 39 (.int .i64 (n : Int)) (.int .i64 (n : Int))).run Tryd.prog u = .ok (.slice (some ⟨u.heap.size, 0, none⟩) n n) (u.alloc (.cells ((List.replicate n false).map Value.bool).toArray 4)) := by
  obtain ⟨i0, hi, hz0, hz1, hz2⟩ := info_parts info_bool
  have h := run_make (P := Tryd.prog) u 39 4 i0 (.bool false) Tryd.underlying39 hi hz0 .i64 .i64 (n : Int) (n : Int) (by omega) (by omega) (by rw [hz2]; omega) (by omega)
  have e : (n : Int).toNat = n := by omega
  rw [e] at h
  simpa [hz1, Value.cells, madeCells_bools] using h
theorem mcnt_all {ms : List Bool} {hs : List (List UInt8)} {n : Nat} (hall : ∀ k, k < n → ms.getD k false = true) : ∀ i, i ≤ n → mcnt ms hs i = i
  | 0, _ => rfl
  | i + 1, h => by rw [mcnt_succ, mcnt_all hall i (by omega), hall i (by omega)]; rfl
/-- bools of which the first are set -/
def tfl (n j : Nat) : List Bool := List.replicate j true ++ List.replicate (n - j) false
theorem tfl_set {n j : Nat} (h : j < n) : (tfl n j).set j true = tfl n (j + 1) := by
  unfold tfl
  rw [List.set_append_right _ _ (by simp), List.length_replicate, Nat.sub_self, show n - j = (n - (j + 1)) + 1 by omega, List.replicate_succ, List.set_cons_zero, List.replicate_succ', List.append_assoc]
  rfl
theorem tfl_len {n j : Nat} (h : j ≤ n) : (tfl n j).length = n := by simp [tfl]; omega
theorem pOk_none (n : Nat) (ls : List (List (List UInt8))) (h i : Nat) : pOk n [] ls h i = true := by
  cases h with
  | zero => rw [pOk]
  | succ h =>
    rw [pOk, pHas_false (fun k _ _ _ h4 => absurd h4 (by simp))]
    rfl
set_option maxRecDepth 10000 in
set_option maxHeartbeats 4000000 in
theorem pall_0 (A : Option Addr) (n c : Nat) (h : 40 < n) (w : World) (hT : Tabs w) : Calls Tryd.prog 5 #[.slice A n c] w fun e w' => e = .returned (.bool true) ∧ Below w.heap.size w w' := by
  have t0 : ((n : Int) == 0) = false := by simp; omega
  have t1 : decide ((40 : Int) < (n : Int)) = true := by simp; omega
  have t2 : decide (40 < n) = true := by simp; omega
  have HA := Lib.hid (awake11 w hT)
  go_enter Tryd.func5, Tryd.ntmps5
  go_wp2_with (go_at_call 9; refine (HA.out).mono ?_; rintro e w1 ⟨rfl, b1⟩)
  go_ret
  exact ⟨rfl, b1⟩
set_option maxRecDepth 10000 in
set_option maxHeartbeats 4000000 in
theorem pall_1 (A : Option Addr) (n c : Nat) (h : n = 0) (w : World) (hT : Tabs w) : Calls Tryd.prog 5 #[.slice A n c] w fun e w' => e = .returned (.bool true) ∧ Below w.heap.size w w' := by
  subst h
  have HA := Lib.hid (awake11 w hT)
  go_enter Tryd.func5, Tryd.ntmps5
  go_wp2_with (go_at_call 9; refine (HA.out).mono ?_; rintro e w1 ⟨rfl, b1⟩)
  go_ret
  exact ⟨rfl, b1⟩
set_option maxRecDepth 100000 in
set_option maxHeartbeats 16000000 in
theorem pall_2 (hs : List (List UInt8)) (h32 : All32 hs) (A : Option Addr) (n c : Nat) (hn : hs.length = n) (w : World) (hr : Rd w A (hcl hs)) (hT : Tabs w) (h0 : 0 < n) (h40 : n ≤ 40) : Calls Tryd.prog 5 #[.slice A n c] w fun e w' => e = .returned (.bool true) ∧ Below w.heap.size w w' := by
  have t0 : ((n : Int) == 0) = false := by simp; omega
  have t1 : decide ((40 : Int) < (n : Int)) = false := by simp; omega
  have t2 : decide (40 < n) = false := by simp; omega
  have hmk := make_bools n (by omega)
  have HA := Lib.hid (awake11 w hT)
  obtain ⟨ms, hms⟩ : ∃ ms, ms = tfl n n := ⟨_, rfl⟩
  have hmn : ms.length = n := by rw [hms]; exact tfl_len (Nat.le_refl _)
  have hall : ∀ k, k < n → ms.getD k false = true := fun k hk => by
    rw [hms, tfl, List.getD_eq_getElem?_getD, List.getElem?_append_left (by rw [List.length_replicate]; exact hk), List.getElem?_replicate, if_pos hk]
    rfl
  have HR := fun w' r t => RootAny hs h32 A n c hn w' r t
  have HB := fun Am w' r r2 t => PBuild_yes hs h32 ms A Am n c n n hn hmn h0 (by omega) (by omega) w' r r2 t
  have HB0 := fun w' r t => PBuild_yes hs h32 [] A none n c 0 0 hn rfl h0 (by omega) (by omega) w' r (Rd.nil _ _) t
  have h32m := mRoot_32 hs h32
  have hx := pExt_built hs ms n hn h0 (by omega)
  have hx0 := pExt_built hs [] n hn h0 (by omega)
  have hbw := pBhs_whole hs ms n hn h0 (by omega) hall
  have hbn := pBhs_none hs n hn h0 (by omega)
  have hfn := pBfl_none n
  have how := pOk_whole_iff hs ms n hn h0 (by omega) hall
  rw [hbw, how] at hx
  rw [hbn, hfn, pOk_none, if_pos rfl] at hx0
  rw [hbw] at HB
  rw [hbn, hfn] at HB0
  have hm0 : mts n [] hs = [] := List.eq_nil_of_length_eq_zero (by rw [mts_end (i := 0) (Nat.zero_le _) (fun j _ _ => rfl)]; rfl)
  rw [hm0] at hx0
  have hml : (mts n ms hs).length = n := by rw [mts_end (Nat.le_refl n) (fun j h1 h2 => absurd h2 (by omega)), mcnt_all hall n (Nat.le_refl _)]
  obtain ⟨al, hal⟩ : ∃ al, al = mAlike (mLv hs) := ⟨_, rfl⟩
  rw [← hal] at HR hx
  obtain ⟨x, hx1⟩ : ∃ x, x = mRootOf (mLv hs) := ⟨_, rfl⟩
  rw [← hx1] at HR h32m hx hx0 HB0
  have x32 : (x.map bv).length = 32 := by rw [List.length_map, h32m]
  have xone : (x.map bv).all (·.oneCell') = true := List.all_eq_true.2 (bv_one x)
  have hvl := pVis_length n ms (pHt n) 0
  have hp13 : 2 ^ (pHt n + 1) ≤ 2 ^ 13 := Nat.pow_le_pow_right (by omega) (by have := (pHt_spec n (by omega)).1; omega)
  have hfl := pBfl_length n ms
  have hfl2 : (pBfl n ms).length ≤ 10000 := by unfold pAll at hfl; omega
  have HE := fun Ah ch Af cf w' r r2 t => PExt (pBfl n ms) hs h32 n Ah n ch Af _ cf hn rfl (by omega) hfl2 (by omega) w' r r2 t
  have HE0 := fun Ah ch Af cf w' r r2 t => PExt [0] [x] (All32.one h32m) n Ah 1 ch Af 1 cf rfl rfl (by omega) (by omega) (by omega) w' r r2 t
  rw [hx] at HE
  rw [hx0] at HE0
  unfold ExtPost at HE0
  dsimp only at HE0
  obtain ⟨J, hJ⟩ : ∃ J, J = (pBfl n ms).length := ⟨_, rfl⟩
  rw [← hJ, hn] at HB
  rw [← hJ] at HE
  rw [hcl_one x] at HB0 HE0
  have EQ := fun p q w => eqlHw x x h32m h32m p q w
  have NQ := fun p q w => neqHw x x h32m h32m p q w
  rw [show (x == x) = true by simp] at EQ NQ
  have NQ' : ∀ p q w, _ := NQ
  clear hx hx0 hfl hfl2 hvl hp13 hbw hbn hfn how NQ'
  have m0h := Lib.hid hm0
  clear hm0
  replace HR := Lib.hid HR
  replace HB := Lib.hid HB
  replace HB0 := Lib.hid HB0
  replace HE := Lib.hid HE
  replace HE0 := Lib.hid HE0
  replace EQ := Lib.hid EQ
  replace NQ := Lib.hid NQ
  replace hal := Lib.hid hal
  replace hx1 := Lib.hid hx1
  replace x32 := Lib.hid x32
  replace xone := Lib.hid xone
  replace hJ := Lib.hid hJ
  replace hn := Lib.hid hn
  replace hms := Lib.hid hms
  replace hmn := Lib.hid hmn
  replace hml := Lib.hid hml
  replace h32m := Lib.hid h32m
  go_enter Tryd.func5, Tryd.ntmps5
  go_upto_region 6 with (go_at_call 9; refine (HA.out).mono ?_; rintro e w1 ⟨rfl, b1⟩)
  have eRep : Array.replicate n (Value.bool false) = ((List.replicate n false).map Value.bool).toArray := by simp
  obtain ⟨w2, hw2⟩ : ∃ w2, w2 = w1.alloc (Obj.cells (Array.replicate n (Value.bool false)) 4) := ⟨_, rfl⟩
  obtain ⟨G, hG⟩ : ∃ G, G = w1.heap.size := ⟨_, rfl⟩
  have aG : Av w2 G 4 ((tfl n 0).map Value.bool) := by
    rw [hw2, hG, show tfl n 0 = List.replicate n false by simp [tfl], eRep]
    exact Av.new _ _ _
  have b12 : Below w1.heap.size w1 w2 := by rw [hw2]; exact (Below.refl _ _).alloc (Nat.le_refl _) _
  have bw2 := b1.trans (b12.mono b1.size)
  have hGw : w.heap.size ≤ G := by rw [hG]; exact b1.size
  rw [← hw2, ← hG]
  replace hw2 := Lib.hid hw2
  replace hG := Lib.hid hG
  clear b1 b12 hmk HA eRep
  go_wp2
  go_loopw [6] (fun i wr => ∃ j : Nat, j ≤ n ∧ i = .int .i64 (j : Int) ∧ Below w.heap.size w wr ∧ Av wr G 4 ((tfl n j).map Value.bool)) (fun i _ => n - (intOf i).toNat)
  case atStart => exact ⟨0, by omega, rfl, bw2, aG⟩
  case round =>
    obtain ⟨j, hj, rfl, bw, ag⟩ := hrel
    by_cases hlt : j < n
    · have u1 : decide ((j : Int) < (n : Int)) = true := by simp; omega
      have u2 : decide (j < n) = true := by simp; omega
      have m2 : (j : Int) < (n : Int) := by omega
      have cg := ag.cell j _ (List.getElem?_eq_getElem (by rw [List.length_map, tfl_len hj]; exact hlt))
      have fg := frozen_of_row _ _ j _ _ ag
      have ag2 := ag.set j (.bool true)
      have hs2 : ((tfl n j).map Value.bool).set j (.bool true) = (tfl n (j + 1)).map Value.bool := by
        rw [← tfl_set hlt, List.map_set]
      rw [hs2] at ag2
      have b2 := bw.trans ((Fr.setCell wr ⟨G, j, none⟩ (.bool true)).below (fun k e => by rw [e]; exact hGw) bw.size)
      replace hs2 := Lib.hid hs2
      replace ag2 := Lib.hid ag2
      replace b2 := Lib.hid b2
      go_wp2
      refine ⟨⟨j + 1, by omega, by go_num, b2.out, ag2.out⟩, ?_⟩
      simp [intOf]
      omega
    · obtain rfl : j = n := by omega
      have u1 : decide ((j : Int) < (j : Int)) = false := by simp
      rw [← hms.out] at ag
      clear aG bw2
      have rg := ag.rd
      have r3 := hr.below bw
      have t3' := hT.below bw
      go_upto_region 11 with (first
        | (go_at_call 13; refine (HB.out _ wr r3 rg t3').mono ?_; rintro e w4 ⟨b4, Ah, ch, Af, cf, rfl, hch, hcf, rh4, rf4, gh, gf⟩)
        | ((with_reducible refine wpList_storeF 34 ((Below.refl w4.heap.size w4).alloc (Nat.le_refl _) _) (heap_alloc_new _ _) (Nat.le_refl _) (trc j Ah j ch Af J cf) ?_ ?_ 3 rfl ?_ ?_ ?_ ?_); rfl; rfl; kernel_rfl; rfl; rfl; intro w5 aT b9 k9 z9; clear k9; replace z9 := Lib.hid z9))
      have b45 := b4.trans (b9.mono b4.size)
      have bw5 := bw.trans (b45.mono bw.size)
      have rh5 := rh4.below b9
      have rf5 := rf4.below b9
      obtain ⟨T1, hT1⟩ : ∃ g, g = w4.heap.size := ⟨_, rfl⟩
      rw [← hT1] at aT ⊢
      replace hT1 := Lib.hid hT1
      have r5 := hr.below bw5
      have t5' := hT.below bw5
      clear b4 b9 b45 rh4 rf4 ag rg r3 t3' bw HB
      go_upto_region 12 with (first
        | (go_at_call 13; refine (HB0.out w5 r5 t5').mono ?_; rintro e w6 ⟨b6, Bh, dh, Bf, df, rfl, hdh, hdf, rh6, rf6, _, _⟩)
        | ((with_reducible refine wpList_storeF 34 ((Below.refl w6.heap.size w6).alloc (Nat.le_refl _) _) (heap_alloc_new _ _) (Nat.le_refl _) (trc j Bh 1 dh Bf 1 df) ?_ ?_ 3 rfl ?_ ?_ ?_ ?_); rfl; rfl; kernel_rfl; rfl; rfl; intro w7 aU b9 k9 z9; clear k9; replace z9 := Lib.hid z9))
      have b67 := b6.trans (b9.mono b6.size)
      have bw7 := bw5.trans (b67.mono bw5.size)
      have aT7 := aT.below b67
      have rh7 := rh5.below b67
      have rf7 := rf5.below b67
      have qh7 := rh6.below b9
      have qf7 := rf6.below b9
      obtain ⟨T2, hT2⟩ : ∃ g, g = w6.heap.size := ⟨_, rfl⟩
      rw [← hT2] at aU ⊢
      replace hT2 := Lib.hid hT2
      have r7 := hr.below bw7
      have t7' := hT.below bw7
      clear b6 b9 b67 rh5 rf5 rh6 rf6 aT bw5 r5 t5' HB0
      go_upto_region 13 with (first
        | (go_at_call 12; refine (HR.out w7 r7 t7').mono ?_; rintro e w8 ⟨rfl, b8⟩)
        | ((with_reducible refine wpList_storeF 28 ((Below.refl w8.heap.size w8).alloc (Nat.le_refl _) _) (heap_alloc_new _ _) (Nat.le_refl _) (x.map bv) ?_ ?_ 32 x32.out ?_ ?_ ?_ ?_); rfl; rfl; kernel_rfl; rfl; exact xone.out; intro w9 aR b9 k9 z9; clear k9; replace z9 := Lib.hid z9))
      have b89 := b8.trans (b9.mono b8.size)
      have bw9 := bw7.trans (b89.mono bw7.size)
      have aT9 := aT7.below b89
      have aU9 := aU.below b89
      have rh9 := rh7.below b89
      have rf9 := rf7.below b89
      have qh9 := qh7.below b89
      have qf9 := qf7.below b89
      obtain ⟨R, hR0⟩ : ∃ g, g = w8.heap.size := ⟨_, rfl⟩
      rw [← hR0] at aR ⊢
      replace hR0 := Lib.hid hR0
      obtain ⟨bq, oq, rfl⟩ := qh9.someA (by intro e; have := congrArg List.length e; rw [x32.out] at this; cases this)
      obtain ⟨bf, of, rfl⟩ := qf9.someA (by simp)
      have cq : ∀ v, Rd v (some ⟨bq, oq, none⟩) (x.map bv) → v.rangeAt bq (oq + 0 * 32) (x.map bv) := fun v h j u hj => by
        rcases h with h | ⟨b', o', hA', hc⟩
        · rw [h] at hj; cases hj
        · cases hA'
          rw [Nat.zero_mul, Nat.add_zero]
          exact hc j u hj
      have cf1 : ∀ v, Rd v (some ⟨bf, of, none⟩) ([(0 : UInt8)].map bv) → v.cell? ⟨bf, of, none⟩ = some (.int .u8 0) := fun v h => by
        rcases h with h | ⟨b', o', hA', hc⟩
        · cases h
        · cases hA'; exact hc 0 _ rfl
      have v1 : ((j : Int) != (j : Int)) = false := by simp
      replace cq := Lib.hid cq
      replace cf1 := Lib.hid cf1
      clear b8 b9 b89 aT7 aU rh7 rf7 qh7 qf7 bw7 r7 t7' HR
      refine wp_region_rel [] Ext (by kernel_rfl) (by kernel_rfl) (by kernel_rfl) Ext.refl Ext.trans (by intro p hp; cases hp) ?_
      refine relPure Ext.refl rfl rfl rfl rfl (fun w _ => by go_simp; first | done | rfl) (by simp only [List.set_cons_succ, List.set_cons_zero]; rfl) ?_
      refine relPure Ext.refl rfl rfl rfl rfl (c := .slice Ah j ch) (fun w hw => by have := (aT9.below hw.drew).cell 1 _ rfl; go_simp; first | done | rfl) (by simp only [List.set_cons_succ, List.set_cons_zero]; rfl) ?_
      refine relPure Ext.refl rfl rfl rfl rfl (fun w _ => by go_simp; first | done | rfl) (by simp only [List.set_cons_succ, List.set_cons_zero]; rfl) ?_
      refine relMove Ext.refl rfl rfl rfl rfl _ (.inl rfl) (by conv => lhs; whnf) (by simp only [List.set_cons_succ, List.set_cons_zero]; rfl) ?_
      refine relPure Ext.refl rfl rfl rfl rfl (c := .bool false) (fun w _ => by go_simp; first | done | rfl) (by simp only [List.set_cons_succ, List.set_cons_zero]; rfl) ?_
      refine relMove Ext.refl rfl rfl rfl rfl _ (.inl rfl) (by conv => lhs; whnf) (by simp only [List.set_cons_succ, List.set_cons_zero]; rfl) ?_
      refine relPure Ext.refl rfl rfl rfl rfl (fun w _ => by go_simp; first | done | rfl) (by simp only [List.set_cons_succ, List.set_cons_zero]; rfl) ?_
      refine relPure Ext.refl rfl rfl rfl rfl (c := .slice (some ⟨bq, oq, none⟩) 1 dh) (fun w hw => by have := (aU9.below hw.drew).cell 1 _ rfl; go_simp; first | done | rfl) (by simp only [List.set_cons_succ, List.set_cons_zero]; rfl) ?_
      refine relPure Ext.refl rfl rfl rfl rfl (fun w _ => by go_simp; first | done | rfl) (by simp only [List.set_cons_succ, List.set_cons_zero]; rfl) ?_
      refine relPure Ext.refl rfl rfl rfl rfl (fun w _ => by go_simp; first | done | rfl) (by simp only [List.set_cons_succ, List.set_cons_zero]; rfl) ?_
      refine relPick Ext.refl rfl rfl rfl rfl _ _ _ rfl rfl (by conv => lhs; whnf) (by simp only [List.set_cons_succ, List.set_cons_zero]; rfl) ?_
      refine relMove Ext.refl rfl rfl rfl rfl _ (.inl rfl) (by conv => lhs; whnf) (by simp only [List.set_cons_succ, List.set_cons_zero]; rfl) ?_
      refine relPure Ext.refl rfl rfl rfl rfl (fun w _ => by go_simp; first | done | rfl) (by simp only [List.set_cons_succ, List.set_cons_zero]; rfl) ?_
      refine relPure Ext.refl rfl rfl rfl rfl (c := .slice (some ⟨bq, oq, none⟩) 1 dh) (fun w hw => by have := (aU9.below hw.drew).cell 1 _ rfl; go_simp; first | done | rfl) (by simp only [List.set_cons_succ, List.set_cons_zero]; rfl) ?_
      refine relPure Ext.refl rfl rfl rfl rfl (c := .pointer (some ⟨bq, oq + 0 * 32, none⟩)) (fun w _ => by go_simp; first | done | rfl) (by simp only [List.set_cons_succ, List.set_cons_zero]; rfl) ?_
      refine relPure Ext.refl rfl rfl rfl rfl (c := .agg (hcs x)) (fun w hw => exec_load_mid _ _ rfl bq (oq + 0 * 32) rfl (x.map bv) _ (cq.out _ (qh9.below hw.drew)) Tryd.underlying28 rfl (by rw [x32.out]; kernel_rfl)) (by simp only [List.set_cons_succ, List.set_cons_zero]; rfl) ?_
      refine relPure Ext.refl rfl rfl rfl rfl (c := .agg (hcs x)) (fun w hw => exec_loadAv (aR.below hw.drew) _ _ rfl rfl _ 32 x32.out Tryd.underlying28 rfl (by kernel_rfl)) (by simp only [List.set_cons_succ, List.set_cons_zero]; rfl) ?_
      refine relBin Ext.refl rfl rfl rfl rfl _ _ _ _ _ rfl (by conv => lhs; whnf) (by conv => lhs; whnf) (c := .bool false) (fun w => NQ.out _ _ w) (by simp only [List.set_cons_succ, List.set_cons_zero]; rfl) ?_
      refine relPick Ext.refl rfl rfl rfl rfl _ _ _ rfl rfl (by conv => lhs; whnf) (by simp only [List.set_cons_succ, List.set_cons_zero]; rfl) ?_
      refine relMove Ext.refl rfl rfl rfl rfl _ (.inl rfl) (by conv => lhs; whnf) (by simp only [List.set_cons_succ, List.set_cons_zero]; rfl) ?_
      refine relPure Ext.refl rfl rfl rfl rfl (fun w _ => by go_simp; first | done | rfl) (by simp only [List.set_cons_succ, List.set_cons_zero]; rfl) ?_
      refine relPure Ext.refl rfl rfl rfl rfl (c := .slice (some ⟨bf, of, none⟩) 1 df) (fun w hw => by have := (aU9.below hw.drew).cell 2 _ rfl; go_simp; first | done | rfl) (by simp only [List.set_cons_succ, List.set_cons_zero]; rfl) ?_
      refine relPure Ext.refl rfl rfl rfl rfl (fun w _ => by go_simp; first | done | rfl) (by simp only [List.set_cons_succ, List.set_cons_zero]; rfl) ?_
      refine relPure Ext.refl rfl rfl rfl rfl (fun w _ => by go_simp; first | done | rfl) (by simp only [List.set_cons_succ, List.set_cons_zero]; rfl) ?_
      refine relPick Ext.refl rfl rfl rfl rfl _ _ _ rfl rfl (by conv => lhs; whnf) (by simp only [List.set_cons_succ, List.set_cons_zero]; rfl) ?_
      refine relMove Ext.refl rfl rfl rfl rfl _ (.inl rfl) (by conv => lhs; whnf) (by simp only [List.set_cons_succ, List.set_cons_zero]; rfl) ?_
      refine relPure Ext.refl rfl rfl rfl rfl (fun w _ => by go_simp; first | done | rfl) (by simp only [List.set_cons_succ, List.set_cons_zero]; rfl) ?_
      refine relPure Ext.refl rfl rfl rfl rfl (c := .slice (some ⟨bf, of, none⟩) 1 df) (fun w hw => by have := (aU9.below hw.drew).cell 2 _ rfl; go_simp; first | done | rfl) (by simp only [List.set_cons_succ, List.set_cons_zero]; rfl) ?_
      refine relPure Ext.refl rfl rfl rfl rfl (c := .pointer (some ⟨bf, of, none⟩)) (fun w _ => by go_simp; first | done | rfl) (by simp only [List.set_cons_succ, List.set_cons_zero]; rfl) ?_
      refine relPure Ext.refl rfl rfl rfl rfl (c := .int .u8 0) (fun w hw => by have := cf1.out _ (qf9.below hw.drew); go_simp; first | done | rfl) (by simp only [List.set_cons_succ, List.set_cons_zero]; rfl) ?_
      refine relPure Ext.refl rfl rfl rfl rfl (fun w _ => by go_simp; first | done | rfl) (by simp only [List.set_cons_succ, List.set_cons_zero]; rfl) ?_
      refine relPick Ext.refl rfl rfl rfl rfl _ _ _ rfl rfl (by conv => lhs; whnf) (by simp only [List.set_cons_succ, List.set_cons_zero]; rfl) ?_
      refine relEnd fun wA hwA => fill_end ?_
      have bA := hwA.drew
      have bwA := bw9.trans (bA.mono bw9.size)
      have aTA := aT9.below bA
      have aUA := aU9.below bA
      have aRA := aR.below bA
      have rhA := rh9.below bA
      have rfA := rf9.below bA
      have qhA := qh9.below bA
      have qfA := qf9.below bA
      clear aT9 aU9 aR rh9 rf9 qh9 qf9 bA hwA bw9
      go_wp2
      go_loopw [13] (fun i wr => ∃ k : Nat, k ≤ j ∧ i = .int .i64 (k : Int) ∧ Below wA.heap.size wA wr) (fun i _ => j - (intOf i).toNat)
      case atStart => exact ⟨0, by omega, rfl, Below.refl _ _⟩
      case round =>
        obtain ⟨k, hk, rfl, bw⟩ := hrel
        by_cases hlt2 : k < j
        · have u3 : decide ((k : Int) < (j : Int)) = true := by simp; omega
          have m3 : (k : Int) < (j : Int) := by omega
          obtain ⟨bX, oX, rfl⟩ := rhA.someA (hcl_ne h32 (by rw [hn.out]; exact h0))
          obtain ⟨bH, oH, rfl⟩ := hr.someA (hcl_ne h32 (by rw [hn.out]; exact h0))
          have y32 : (hs.getD k []).length = 32 := by
            rw [List.getD_eq_getElem?_getD, List.getElem?_eq_getElem (by rw [hn.out]; exact hlt2)]
            exact h32 _ (List.getElem_mem _)
          have G1 : ∀ w', Below wA.heap.size wA w' → w'.rangeAt bX (oX + k * 32) ((hs.getD k []).map bv) := fun w' h => (rhA.below h).hash h32 k (by rw [hn.out]; exact hlt2)
          have G2 : ∀ w', Below wA.heap.size wA w' → w'.rangeAt bH (oH + k * 32) ((hs.getD k []).map bv) := fun w' h => ((hr.below bwA).below h).hash h32 k (by rw [hn.out]; exact hlt2)
          have G3 : ∀ w', Below wA.heap.size wA w' → w'.cell? ⟨T1, 1, none⟩ = some (.slice (some ⟨bX, oX, none⟩) j ch) := fun w' h => (aTA.below h).cell 1 _ rfl
          obtain ⟨y, hy⟩ : ∃ y, y = hs.getD k [] := ⟨_, rfl⟩
          rw [← hy] at y32 G1 G2
          have yv32 : (y.map bv).length = 32 := by rw [List.length_map, y32]
          have NY := fun p q w => neqHw y y y32 y32 p q w
          rw [show (y == y) = true by simp] at NY
          replace hy := Lib.hid hy
          replace y32 := Lib.hid y32
          replace G1 := Lib.hid G1
          replace G2 := Lib.hid G2
          replace G3 := Lib.hid G3
          replace NY := Lib.hid NY
          go_wp2_with fail
          refine wp_region_rel [] Ext (by kernel_rfl) (by kernel_rfl) (by kernel_rfl) Ext.refl Ext.trans (by intro p hp; cases hp) ?_
          refine relPure Ext.refl rfl rfl rfl rfl (fun w _ => by go_simp; first | done | rfl) (by simp only [List.set_cons_succ, List.set_cons_zero]; rfl) ?_
          refine relPure Ext.refl rfl rfl rfl rfl (c := .slice (some ⟨bX, oX, none⟩) j ch) (fun w hw => by have := G3.out _ (bw.trans (hw.drew.mono bw.size)); go_simp; first | done | rfl) (by simp only [List.set_cons_succ, List.set_cons_zero]; rfl) ?_
          refine relMove Ext.refl rfl rfl rfl rfl _ (.inl rfl) (by conv => lhs; whnf) (by simp only [List.set_cons_succ, List.set_cons_zero]; rfl) ?_
          refine relPure Ext.refl rfl rfl rfl rfl (c := .pointer (some ⟨bX, oX + k * 32, none⟩)) (fun w _ => by go_simp; first | done | rfl) (by simp only [List.set_cons_succ, List.set_cons_zero]; rfl) ?_
          refine relPure Ext.refl rfl rfl rfl rfl (c := .agg (hcs y)) (fun w hw => exec_load_mid _ _ rfl bX (oX + k * 32) rfl (y.map bv) _ (G1.out _ (bw.trans (hw.drew.mono bw.size))) Tryd.underlying28 rfl (by rw [yv32]; kernel_rfl)) (by simp only [List.set_cons_succ, List.set_cons_zero]; rfl) ?_
          refine relMove Ext.refl rfl rfl rfl rfl _ (.inl rfl) (by conv => lhs; whnf) (by simp only [List.set_cons_succ, List.set_cons_zero]; rfl) ?_
          refine relMove Ext.refl rfl rfl rfl rfl _ (.inl rfl) (by conv => lhs; whnf) (by simp only [List.set_cons_succ, List.set_cons_zero]; rfl) ?_
          refine relPure Ext.refl rfl rfl rfl rfl (c := .pointer (some ⟨bH, oH + k * 32, none⟩)) (fun w _ => by go_simp; first | done | rfl) (by simp only [List.set_cons_succ, List.set_cons_zero]; rfl) ?_
          refine relPure Ext.refl rfl rfl rfl rfl (c := .agg (hcs y)) (fun w hw => exec_load_mid _ _ rfl bH (oH + k * 32) rfl (y.map bv) _ (G2.out _ (bw.trans (hw.drew.mono bw.size))) Tryd.underlying28 rfl (by rw [yv32]; kernel_rfl)) (by simp only [List.set_cons_succ, List.set_cons_zero]; rfl) ?_
          refine relBin Ext.refl rfl rfl rfl rfl _ _ _ _ _ rfl (by conv => lhs; whnf) (by conv => lhs; whnf) (c := .bool false) (fun w => NY.out _ _ w) (by simp only [List.set_cons_succ, List.set_cons_zero]; rfl) ?_
          refine relEnd fun w8 hw8 => fill_end ?_
          have b8 := bw.trans (hw8.drew.mono bw.size)
          go_wp2
          refine ⟨⟨k + 1, by omega, by go_num, b8⟩, ?_⟩
          simp [intOf]
          omega
        · obtain rfl : k = j := by omega
          have u3 : decide ((k : Int) < (k : Int)) = false := by simp
          have aTB := aTA.below bw
          have aUB := aUA.below bw
          have aRB := aRA.below bw
          have rhB := rhA.below bw
          have rfB := rfA.below bw
          have qhB := qhA.below bw
          have qfB := qfA.below bw
          have bwB := bwA.trans (bw.mono bwA.size)
          have tB := hT.below bwB
          clear aTA aUA aRA rhA rfA qhA qfA bwA bw
          cases al with
          | false =>
            have HE1 := HE.out Ah ch Af cf wr rhB rfB tB
            rw [if_pos (show (!false) = true from rfl)] at HE1
            unfold ExtPost at HE1
            dsimp only at HE1
            rw [hml.out] at HE1
            replace HE1 := Lib.hid HE1
            go_upto_region 21 with (first
              | ((with_reducible refine wpList_loadF 34 aTB ?_ _ 3 (rfl) Tryd.underlying34 ?_ ?_ ?_); rfl; rfl; kernel_rfl)
              | (go_at_call 10; refine (HE1.out).mono ?_; rintro e wC ⟨b1, Ax, cx, rfl, hcx, gx, rx6⟩)
              | ((with_reducible refine wpList_storeF 28 ((Below.refl wC.heap.size wC).alloc (Nat.le_refl _) _) (heap_alloc_new _ _) (Nat.le_refl _) (x.map bv) ?_ ?_ 32 x32.out ?_ ?_ ?_ ?_); rfl; rfl; kernel_rfl; rfl; exact xone.out; intro wD aE b9 k9 z9; clear k9; replace z9 := Lib.hid z9))
            have bBD := b1.trans (b9.mono b1.size)
            have bwD := bwB.trans (bBD.mono bwB.size)
            have aUD := aUB.below bBD
            have aRD := aRB.below bBD
            have qhD := qhB.below bBD
            have qfD := qfB.below bBD
            obtain ⟨E1, hE1⟩ : ∃ g, g = wC.heap.size := ⟨_, rfl⟩
            rw [← hE1] at aE ⊢
            replace hE1 := Lib.hid hE1
            have HE2 := HE0.out (some ⟨bq, oq, none⟩) dh (some ⟨bf, of, none⟩) df wD qhD qfD (hT.below bwD)
            replace HE2 := Lib.hid HE2
            clear b1 b9 bBD aTB aUB aRB rhB rfB qhB qfB bwB tB HE1
            go_upto_region 22 with (first
              | ((with_reducible refine wpList_loadF 34 aUD ?_ _ 3 (rfl) Tryd.underlying34 ?_ ?_ ?_); rfl; rfl; kernel_rfl)
              | (go_at_call 10; refine (HE2.out).mono ?_; rintro e wF ⟨b2, Ay, cy, rfl, hcy, gy, ry6⟩; dsimp only [List.length_nil])
              | ((with_reducible refine wpList_storeF 28 ((Below.refl wF.heap.size wF).alloc (Nat.le_refl _) _) (heap_alloc_new _ _) (Nat.le_refl _) (x.map bv) ?_ ?_ 32 x32.out ?_ ?_ ?_ ?_); rfl; rfl; kernel_rfl; rfl; exact xone.out; intro wG aF b9 k9 z9; clear k9; replace z9 := Lib.hid z9))
            have bDG := b2.trans (b9.mono b2.size)
            have bwG := bwD.trans (bDG.mono bwD.size)
            have aRG := aRD.below bDG
            have aEG := aE.below bDG
            obtain ⟨E2, hE2⟩ : ∃ g, g = wF.heap.size := ⟨_, rfl⟩
            rw [← hE2] at aF ⊢
            replace hE2 := Lib.hid hE2
            clear b2 b9 bDG aRD aE qhD qfD bwD HE2
            go_wp2_with (first
              | ((with_reducible refine wpList_loadG 28 aRG ?_ ?_ _ 32 x32.out Tryd.underlying28 ?_ ?_ ?_); rfl; rfl; rfl; kernel_rfl)
              | ((with_reducible refine wpList_loadG 28 aF ?_ ?_ _ 32 x32.out Tryd.underlying28 ?_ ?_ ?_); rfl; rfl; rfl; kernel_rfl)
              | ((with_reducible refine wpList_loadG 28 aEG ?_ ?_ _ 32 x32.out Tryd.underlying28 ?_ ?_ ?_); rfl; rfl; rfl; kernel_rfl)
              | ((with_reducible refine wpList_binG (op := .eql) (ty := 28) ?_ ?_ ?_ (EQ.out _ _ _) ?_); rfl; rfl; rfl))
            go_ret
            exact ⟨rfl, bwG⟩

          | true =>
            have HE1 := HE.out Ah ch Af cf wr rhB rfB tB
            rw [if_neg (by decide)] at HE1
            unfold ExtPost at HE1
            dsimp only at HE1
            skip
            replace HE1 := Lib.hid HE1
            go_upto_region 21 with (first
              | ((with_reducible refine wpList_loadF 34 aTB ?_ _ 3 (rfl) Tryd.underlying34 ?_ ?_ ?_); rfl; rfl; kernel_rfl)
              | (go_at_call 10; refine (HE1.out).mono ?_; rintro e wC ⟨b1, rfl⟩)
              | ((with_reducible refine wpList_storeF 28 ((Below.refl wC.heap.size wC).alloc (Nat.le_refl _) _) (heap_alloc_new _ _) (Nat.le_refl _) (zs32.map bv) ?_ ?_ 32 rfl ?_ ?_ ?_ ?_); rfl; rfl; kernel_rfl; rfl; rfl; intro wD aE b9 k9 z9; clear k9; replace z9 := Lib.hid z9))
            have bBD := b1.trans (b9.mono b1.size)
            have bwD := bwB.trans (bBD.mono bwB.size)
            have aUD := aUB.below bBD
            have aRD := aRB.below bBD
            have qhD := qhB.below bBD
            have qfD := qfB.below bBD
            obtain ⟨E1, hE1⟩ : ∃ g, g = wC.heap.size := ⟨_, rfl⟩
            rw [← hE1] at aE ⊢
            replace hE1 := Lib.hid hE1
            have HE2 := HE0.out (some ⟨bq, oq, none⟩) dh (some ⟨bf, of, none⟩) df wD qhD qfD (hT.below bwD)
            replace HE2 := Lib.hid HE2
            clear b1 b9 bBD aTB aUB aRB rhB rfB qhB qfB bwB tB HE1
            go_upto_region 22 with (first
              | ((with_reducible refine wpList_loadF 34 aUD ?_ _ 3 (rfl) Tryd.underlying34 ?_ ?_ ?_); rfl; rfl; kernel_rfl)
              | (go_at_call 10; refine (HE2.out).mono ?_; rintro e wF ⟨b2, Ay, cy, rfl, hcy, gy, ry6⟩; dsimp only [List.length_nil])
              | ((with_reducible refine wpList_storeF 28 ((Below.refl wF.heap.size wF).alloc (Nat.le_refl _) _) (heap_alloc_new _ _) (Nat.le_refl _) (x.map bv) ?_ ?_ 32 x32.out ?_ ?_ ?_ ?_); rfl; rfl; kernel_rfl; rfl; exact xone.out; intro wG aF b9 k9 z9; clear k9; replace z9 := Lib.hid z9))
            have bDG := b2.trans (b9.mono b2.size)
            have bwG := bwD.trans (bDG.mono bwD.size)
            have aRG := aRD.below bDG
            have aEG := aE.below bDG
            obtain ⟨E2, hE2⟩ : ∃ g, g = wF.heap.size := ⟨_, rfl⟩
            rw [← hE2] at aF ⊢
            replace hE2 := Lib.hid hE2
            clear b2 b9 bDG aRD aE qhD qfD bwD HE2
            go_wp2_with (first
              | ((with_reducible refine wpList_loadG 28 aRG ?_ ?_ _ 32 x32.out Tryd.underlying28 ?_ ?_ ?_); rfl; rfl; rfl; kernel_rfl)
              | ((with_reducible refine wpList_loadG 28 aF ?_ ?_ _ 32 x32.out Tryd.underlying28 ?_ ?_ ?_); rfl; rfl; rfl; kernel_rfl)
              | ((with_reducible refine wpList_binG (op := .eql) (ty := 28) ?_ ?_ ?_ (EQ.out _ _ _) ?_); rfl; rfl; rfl))
            go_ret
            exact ⟨rfl, bwG⟩

theorem law_PartialAll (hs : List (List UInt8)) (h32 : All32 hs) (A : Option Addr) (n c : Nat) (hn : hs.length = n) (w : World) (hr : Rd w A (hcl hs)) (hT : Tabs w) : Calls Tryd.prog 5 #[.slice A n c] w fun e w' => e = .returned (.bool true) ∧ Below w.heap.size w w' := by
  by_cases h1 : 40 < n
  · exact pall_0 A n c h1 w hT
  by_cases h3 : n = 0
  · exact pall_1 A n c h3 w hT
  exact pall_2 hs h32 A n c hn w hr hT (by omega) (by omega)
end Go.Proofs.YtmdllemgjhkphaaDoor
/- The law PartialFinds: the walk. -/
namespace Go.Proofs.YtmdllemgjhkphaaDoor
open Go.RowKit
attribute [local go_sem high] slB_lh slB_l slB_h
/-- blocks below B are as they were; a row of 32 cells of hashes stays one -/
structure RX (B : Nat) (w w' : World) : Prop where
  below : Below B w w'
  rows : ∀ (g : Nat) (l : List Value), Av w g 28 l → l.length = 32 → ∃ l', Av w' g 28 l' ∧ l'.length = 32
theorem RX.refl {B : Nat} (w : World) : RX B w w := ⟨Below.refl _ _, fun _ l h e => ⟨l, h, e⟩⟩
theorem RX.trans {B : Nat} (a b c : World) (h : RX B a b) (k : RX B b c) : RX B a c :=
  ⟨h.below.trans k.below, fun g l ha hl => by
    obtain ⟨l', h1, h2⟩ := h.rows g l ha hl
    exact k.rows g l' h1 h2⟩
theorem RX.drew {B : Nat} {a b : World} (h : RX B a.drew b) : Below B a b := ⟨h.below.os, h.below.tape, h.below.output, h.below.size, h.below.block⟩
theorem RX.of {B : Nat} {w w' : World} (h : Below w.heap.size w w') (hB : B ≤ w.heap.size) : RX B w w' := ⟨h.mono hB, fun _ l ha hl => ⟨l, ha.below h, hl⟩⟩
section
variable {P : Program} {ops : Array Oper} {R : World → World → Prop} {Q : Exit → Act → World → Prop} {w0 : World} {L : List (Nat × VP)}
/-- an operation without a value -/
theorem relSto {i : Nat} {o : Oper} {rest : List Oper} {l : List Value} {d : List Deferred} (hL : L.lookup i = none) (hd : o.dst = none) (h : ∀ w, R w0 w → fillL ops (lookOn ops o) w (fun a' => relOp P ops R o a' w (fun v _ => v = undef)) L ⟨l.toArray, d⟩)
    (k : relWalk P ops R Q w0 L (i + 1) rest ⟨l.toArray, d⟩) : relWalk P ops R Q w0 L i (o :: rest) ⟨l.toArray, d⟩ := by
  unfold relWalk
  rw [hL]
  exact ⟨undef, h, by rw [hd]; exact k⟩
end
theorem wpList_bldG {P : Program} {ty : TypeId} {parts : Array (Nat × Operand)} {ops : Array Oper} {rest : List Oper} {a : Act} {w : World} {Q : Exit → Act → World → Prop} {d tp pos af gd} (v : Value) (hw : Region.wanted ⟨d, .build ty parts, tp, pos, af, gd⟩ (yielded ops a.tmps) = true) (h : (execOp a.eval ⟨d, .build ty parts, tp, pos, af, gd⟩).run P w = .ok (.value v) w) (k : wpList P ops Q rest (a.put d v) w) : wpList P ops Q (⟨d, .build ty parts, tp, pos, af, gd⟩ :: rest) a w :=
  wpList_execW hw h k
theorem exec_storeRX {P : Program} {B : Nat} {w : World} {o : Oper} {ρ : Operand → Value} {g : Nat} {old C : List Value} (h0 : Av w g 28 old) (hold : old.length = 32) (hB : B ≤ g) (x y : Operand) (ho : o.op = .store 28 x y) (hx : ρ x = .pointer (some ⟨g, 0, none⟩)) (hy : ρ y = .agg C.toArray) (hn : C.length = 32)
    (hi : (P.info? 28).map (·.size) = some 32) (h1 : C.all (·.oneCell') = true) : ∃ w', (execOp ρ o).run P w = .ok .skip w' ∧ RX B w w' := by
  have hset := setRow_heap w g old.toArray C.toArray 28 (0, 0) h0
  refine ⟨w.setRow g C.toArray, ?_, below_setRow (Below.refl _ _) _ _ hB, fun k l ha hl => ?_⟩
  · unfold execOp
    simp only [ho, hx, hy, Instr.storeAt, Instr.sureAddr, Sem.run_bind, Sem.run_pure, Result.andThen_ok, run_storeVar_row w g 28 28 old.toArray C.toArray h0 (by rw [List.size_toArray, hn]; exact hi) (by rw [List.size_toArray, List.size_toArray, hold, hn]) (by simpa using h1)]
  · by_cases e : k = g
    · subst e
      exact ⟨C, hset, hn⟩
    · exact ⟨l, ha.same (setRow_other _ _ _ _ e), hl⟩
theorem relRes_storeRX {P : Program} {B : Nat} {w : World} {o : Oper} {ρ : Operand → Value} {g : Nat} {old : List Value} (C : List Value) (h0 : Av w g 28 old) (hold : old.length = 32) (hB : B ≤ g) (x y : Operand) (ho : o.op = .store 28 x y) (hx : ρ x = .pointer (some ⟨g, 0, none⟩)) (hy : ρ y = .agg C.toArray) (hn : C.length = 32)
    (hi : (P.info? 28).map (·.size) = some 32) (h1 : C.all (·.oneCell') = true) : relRes P (RX B) w (fun v _ => v = undef) ((execOp ρ o).run P w) := by
  obtain ⟨w', e1, e2⟩ := exec_storeRX h0 hold hB x y ho hx hy hn hi h1
  rw [e1]
  exact ⟨e2, rfl⟩
set_option maxRecDepth 100000 in
set_option maxHeartbeats 4000000 in
theorem PTree (tot : Nat) (Ah : Option Addr) (nh ch : Nat) (Af : Option Addr) (nf cf : Nat) (w : World) : Calls Tryd.prog 11 #[.agg (trc tot Ah nh ch Af nf cf).toArray] w fun e w' => e = .returned (.agg (trc tot Ah nh ch Af nf cf).toArray) ∧ Below w.heap.size w w' := by
  obtain ⟨W, hW⟩ : ∃ W, W = (w.alloc (.cells (trc tot Ah nh ch Af nf cf).toArray 26)).alloc (.cells (trc 0 none 0 0 none 0 0).toArray 34) := ⟨_, rfl⟩
  obtain ⟨H, hH⟩ : ∃ H, H = w.heap.size := ⟨_, rfl⟩
  have bW : Below w.heap.size w W := by rw [hW]; exact ((Below.refl _ _).alloc (Nat.le_refl _) _).alloc (by simp) _
  have aN : Av W H 26 (trc tot Ah nh ch Af nf cf) := by rw [hW, hH]; exact Av.newer w (trc tot Ah nh ch Af nf cf) _ _
  have aR : Av W (H + 1) 34 (trc 0 none 0 0 none 0 0) := by rw [hW, hH, ← World.size_alloc w (.cells (trc tot Ah nh ch Af nf cf).toArray 26)]; exact Av.new _ _ _
  have c0 := aN.cell 0 _ rfl
  have c1 := aN.cell 1 _ rfl
  have c2 := aN.cell 2 _ rfl
  have hge : w.heap.size ≤ H + 1 := by rw [hH]; omega
  replace hW := Lib.hid hW
  replace hH := Lib.hid hH
  go_enter Tryd.func11, Tryd.ntmps11
  go_upto_region 1 with fail
  rw [← hH.out]
  rw [show (w.alloc (.cells (trc tot Ah nh ch Af nf cf).toArray 26)).alloc (.cells #[Value.int .u32 0, .slice none 0 0, .slice none 0 0] 34) = W from hW.out.symm]
  go_wp2_with (first
    | ((with_reducible refine wpList_bld (.agg (trc tot Ah nh ch Af nf cf).toArray) ?_ ?_); kernel_rfl)
    | ((with_reducible refine wpList_storeFA 34 bW aR hge (trc tot Ah nh ch Af nf cf) ?_ ?_ 3 rfl ?_ ?_ ?_ ?_); rfl; rfl; kernel_rfl; rfl; rfl; intro w3 a3 b3 k3 z3))
  refine bodyPost_ret (results_cell_row rfl _ _ (H + 1) _ _ (0, 0) _ (by rfl) a3 Tryd.underlying34 rfl (by kernel_rfl)) rfl ⟨rfl, b3⟩
set_option maxRecDepth 10000 in
set_option maxHeartbeats 4000000 in
theorem pfinds_0 (tot : Nat) (Ah Af : Option Addr) (nh ch nf cf : Nat) (y : List UInt8) (b : UInt8) (h : 60 < nh) (w : World) (hT : Tabs w) : Calls Tryd.prog 3 #[.agg (trc tot Ah nh ch Af nf cf).toArray, .agg (hcs y), .int .u8 (b.toNat : Int)] w fun e w' => e = .returned (.bool true) ∧ Below w.heap.size w w' := by
  have t1 : decide ((60 : Int) < (nh : Int)) = true := by simp; omega
  have t2 : decide (60 < nh) = true := by simp; omega
  obtain ⟨X, hX⟩ : ∃ X, X = w.heap.size := ⟨_, rfl⟩
  obtain ⟨W, hW⟩ : ∃ W, W = (w.alloc (.cells (trc tot Ah nh ch Af nf cf).toArray 26)).alloc (.cells (y.map bv).toArray 28) := ⟨_, rfl⟩
  have bW : Below w.heap.size w W := by rw [hW]; exact ((Below.refl _ _).alloc (Nat.le_refl _) _).alloc (by simp) _
  have aX : Av W X 26 (trc tot Ah nh ch Af nf cf) := by rw [hW, hX]; exact Av.newer w (trc tot Ah nh ch Af nf cf) _ _
  have aY : Av W (X + 1) 28 (y.map bv) := by rw [hW, hX, ← World.size_alloc w (.cells (trc tot Ah nh ch Af nf cf).toArray 26)]; exact Av.new _ _ _
  have HA := Lib.hid (awake11 W (hT.below bW))
  replace hX := Lib.hid hX
  replace hW := Lib.hid hW
  go_enter Tryd.func3, Tryd.ntmps3
  go_upto_region 1 with fail
  rw [← hX.out]
  rw [show (w.alloc (.cells (trc tot Ah nh ch Af nf cf).toArray 26)).alloc (.cells (hcs y) 28) = W from hW.out.symm]
  go_upto_region 2 with (go_at_call 9; refine (HA.out).mono ?_; rintro e w1 ⟨rfl, b1⟩)
  have aX1 := aX.below b1
  have aY1 := aY.below b1
  have d1 := aX1.cell 1 _ rfl
  have d2 := aX1.cell 2 _ rfl
  have bw1 := bW.trans (b1.mono bW.size)
  clear HA aX aY b1
  go_wp2
  go_ret
  exact ⟨rfl, bw1⟩
set_option maxRecDepth 10000 in
set_option maxHeartbeats 4000000 in
theorem pfinds_1 (tot : Nat) (Ah Af : Option Addr) (nh ch nf cf : Nat) (y : List UInt8) (b : UInt8) (h0 : nh ≤ 60) (h : 60 < nf) (w : World) (hT : Tabs w) : Calls Tryd.prog 3 #[.agg (trc tot Ah nh ch Af nf cf).toArray, .agg (hcs y), .int .u8 (b.toNat : Int)] w fun e w' => e = .returned (.bool true) ∧ Below w.heap.size w w' := by
  have t1 : decide ((60 : Int) < (nh : Int)) = false := by simp; omega
  have t2 : decide (60 < nh) = false := by simp; omega
  have t3 : decide ((60 : Int) < (nf : Int)) = true := by simp; omega
  have t4 : decide (60 < nf) = true := by simp; omega
  obtain ⟨X, hX⟩ : ∃ X, X = w.heap.size := ⟨_, rfl⟩
  obtain ⟨W, hW⟩ : ∃ W, W = (w.alloc (.cells (trc tot Ah nh ch Af nf cf).toArray 26)).alloc (.cells (y.map bv).toArray 28) := ⟨_, rfl⟩
  have bW : Below w.heap.size w W := by rw [hW]; exact ((Below.refl _ _).alloc (Nat.le_refl _) _).alloc (by simp) _
  have aX : Av W X 26 (trc tot Ah nh ch Af nf cf) := by rw [hW, hX]; exact Av.newer w (trc tot Ah nh ch Af nf cf) _ _
  have aY : Av W (X + 1) 28 (y.map bv) := by rw [hW, hX, ← World.size_alloc w (.cells (trc tot Ah nh ch Af nf cf).toArray 26)]; exact Av.new _ _ _
  have HA := Lib.hid (awake11 W (hT.below bW))
  replace hX := Lib.hid hX
  replace hW := Lib.hid hW
  go_enter Tryd.func3, Tryd.ntmps3
  go_upto_region 1 with fail
  rw [← hX.out]
  rw [show (w.alloc (.cells (trc tot Ah nh ch Af nf cf).toArray 26)).alloc (.cells (hcs y) 28) = W from hW.out.symm]
  go_upto_region 2 with (go_at_call 9; refine (HA.out).mono ?_; rintro e w1 ⟨rfl, b1⟩)
  have aX1 := aX.below b1
  have aY1 := aY.below b1
  have d1 := aX1.cell 1 _ rfl
  have d2 := aX1.cell 2 _ rfl
  have bw1 := bW.trans (b1.mono bW.size)
  clear HA aX aY b1
  go_wp2
  go_ret
  exact ⟨rfl, bw1⟩
set_option maxRecDepth 100000 in
set_option maxHeartbeats 16000000 in
theorem pfinds_2 (tot : Nat) (hs : List (List UInt8)) (fl : List UInt8) (Ah Af : Option Addr) (nh ch nf cf : Nat) (htot : tot < 4294967296) (hnh : hs.length = nh) (h32 : All32 hs) (_ : nh ≤ ch) (hnf : fl.length = nf) (_ : nf ≤ cf) (y : List UInt8) (_ : y.length = 32) (b : UInt8) (w : World) (hrh : Rd w Ah (hcl hs)) (hrf : Rd w Af (fl.map bv)) (hT : Tabs w) (h60 : nh ≤ 60) (f60 : nf ≤ 60) (hx : pExt tot hs fl = none) : Calls Tryd.prog 3 #[.agg (trc tot Ah nh ch Af nf cf).toArray, .agg (hcs y), .int .u8 (b.toNat : Int)] w fun e w' => e = .returned (.bool true) ∧ Below w.heap.size w w' := by
  have t1 : decide ((60 : Int) < (nh : Int)) = false := by simp; omega
  have t2 : decide (60 < nh) = false := by simp; omega
  have t3 : decide ((60 : Int) < (nf : Int)) = false := by simp; omega
  have t4 : decide (60 < nf) = false := by simp; omega
  obtain ⟨X, hX⟩ : ∃ X, X = w.heap.size := ⟨_, rfl⟩
  obtain ⟨W, hW⟩ : ∃ W, W = (w.alloc (.cells (trc tot Ah nh ch Af nf cf).toArray 26)).alloc (.cells (y.map bv).toArray 28) := ⟨_, rfl⟩
  have bW : Below w.heap.size w W := by rw [hW]; exact ((Below.refl _ _).alloc (Nat.le_refl _) _).alloc (by simp) _
  have aX : Av W X 26 (trc tot Ah nh ch Af nf cf) := by rw [hW, hX]; exact Av.newer w (trc tot Ah nh ch Af nf cf) _ _
  have aY : Av W (X + 1) 28 (y.map bv) := by rw [hW, hX, ← World.size_alloc w (.cells (trc tot Ah nh ch Af nf cf).toArray 26)]; exact Av.new _ _ _
  have HA := Lib.hid (awake11 W (hT.below bW))
  replace hX := Lib.hid hX
  replace hW := Lib.hid hW
  have HE := fun w' r r2 t => PExt fl hs h32 tot Ah nh ch Af nf cf hnh hnf htot (by omega) (by omega) w' r r2 t
  rw [hx] at HE
  have HP := fun w' => PTree tot Ah nh ch Af nf cf w'
  have EQ := fun p q w => eqlHw zs32 zs32 rfl rfl p q w
  rw [show (zs32 == zs32) = true by simp] at EQ
  have hzone : (zs32.map bv).all (·.oneCell') = true := rfl
  replace HE := Lib.hid HE
  replace HP := Lib.hid HP
  replace EQ := Lib.hid EQ
  replace hzone := Lib.hid hzone
  replace hnh := Lib.hid hnh
  replace hnf := Lib.hid hnf
  replace hx := Lib.hid hx
  go_enter Tryd.func3, Tryd.ntmps3
  go_upto_region 1 with fail
  rw [← hX.out]
  rw [show (w.alloc (.cells (trc tot Ah nh ch Af nf cf).toArray 26)).alloc (.cells (hcs y) 28) = W from hW.out.symm]
  go_upto_region 2 with (go_at_call 9; refine (HA.out).mono ?_; rintro e w1 ⟨rfl, b1⟩)
  have aX1 := aX.below b1
  have aY1 := aY.below b1
  have d1 := aX1.cell 1 _ rfl
  have d2 := aX1.cell 2 _ rfl
  have bw1 := bW.trans (b1.mono bW.size)
  clear HA aX aY b1
  have x32 := Lib.hid (show (zs32.map bv).length = 32 from rfl)
  go_upto_region 5 with (first
    | ((with_reducible refine wpList_loadF 26 aX1 ?_ _ 3 (rfl) Tryd.underlying26 ?_ ?_ ?_); rfl; rfl; kernel_rfl)
    | (go_at_call 11; refine (HP.out w1).mono ?_; rintro e w2 ⟨rfl, b2⟩; have bw2 := bw1.trans (b2.mono bw1.size))
    | (go_at_call 10; refine (HE.out w2 (hrh.below bw2) (hrf.below bw2) (hT.below bw2)).mono ?_; rintro e w3 ⟨b3, rfl⟩)
    | ((with_reducible refine wpList_storeF 28 ((Below.refl w3.heap.size w3).alloc (Nat.le_refl _) _) (heap_alloc_new _ _) (Nat.le_refl _) (zs32.map bv) ?_ ?_ 32 rfl ?_ ?_ ?_ ?_); rfl; rfl; kernel_rfl; rfl; exact hzone.out; intro w4 aR b9 k9 z9; clear k9; replace z9 := Lib.hid z9))
  obtain ⟨R, hR⟩ : ∃ R, R = w3.heap.size := ⟨_, rfl⟩
  rw [← hR] at aR ⊢
  replace hR := Lib.hid hR
  have bw4 := bw2.trans ((b3.trans (b9.mono b3.size)).mono bw2.size)
  clear b9 b3 HE
  go_wp2_with (first
    | ((with_reducible refine wpList_loadG 28 aR ?_ ?_ _ 32 x32.out Tryd.underlying28 ?_ ?_ ?_); rfl; rfl; rfl; kernel_rfl)
    | ((with_reducible refine wpList_bldG (.agg (zs32.map bv).toArray) ?_ ?_ ?_); rfl; kernel_rfl)
    | ((with_reducible refine wpList_binG (op := .eql) (ty := 28) ?_ ?_ ?_ (EQ.out _ _ _) ?_); rfl; rfl; rfl))
  go_ret
  exact ⟨rfl, bw4⟩
set_option maxRecDepth 100000 in
set_option maxHeartbeats 16000000 in
theorem pfinds_3 (tot : Nat) (hs : List (List UInt8)) (fl : List UInt8) (Ah Af : Option Addr) (nh ch nf cf : Nat) (htot : tot < 4294967296) (hnh : hs.length = nh) (h32 : All32 hs) (hch : nh ≤ ch) (hnf : fl.length = nf) (hcf : nf ≤ cf) (y : List UInt8) (y32 : y.length = 32) (b : UInt8) (w : World) (hrh : Rd w Ah (hcl hs)) (hrf : Rd w Af (fl.map bv)) (hT : Tabs w) (h60 : nh ≤ 60) (f60 : nf ≤ 60) (r : PRes) (hx : pExt tot hs fl = some r) : Calls Tryd.prog 3 #[.agg (trc tot Ah nh ch Af nf cf).toArray, .agg (hcs y), .int .u8 (b.toNat : Int)] w fun e w' => e = .returned (.bool true) ∧ Below w.heap.size w w' := by
  have t1 : decide ((60 : Int) < (nh : Int)) = false := by simp; omega
  have t2 : decide (60 < nh) = false := by simp; omega
  have t3 : decide ((60 : Int) < (nf : Int)) = false := by simp; omega
  have t4 : decide (60 < nf) = false := by simp; omega
  obtain ⟨X, hX⟩ : ∃ X, X = w.heap.size := ⟨_, rfl⟩
  obtain ⟨W, hW⟩ : ∃ W, W = (w.alloc (.cells (trc tot Ah nh ch Af nf cf).toArray 26)).alloc (.cells (y.map bv).toArray 28) := ⟨_, rfl⟩
  have bW : Below w.heap.size w W := by rw [hW]; exact ((Below.refl _ _).alloc (Nat.le_refl _) _).alloc (by simp) _
  have aX : Av W X 26 (trc tot Ah nh ch Af nf cf) := by rw [hW, hX]; exact Av.newer w (trc tot Ah nh ch Af nf cf) _ _
  have aY : Av W (X + 1) 28 (y.map bv) := by rw [hW, hX, ← World.size_alloc w (.cells (trc tot Ah nh ch Af nf cf).toArray 26)]; exact Av.new _ _ _
  have HA := Lib.hid (awake11 W (hT.below bW))
  replace hX := Lib.hid hX
  replace hW := Lib.hid hW
  obtain ⟨g1, g2, g3, g4, g5, g6, g7, g8, g9⟩ := pExt_facts h32 hx
  have m1 := pExt_moreH hx y
  have m2 := pExt_moreF hx b
  have m3 := pExt_lessH hx (nh - 1) (by omega)
  have m4 := pExt_lessF hx (nf - 1) (by omega)
  have HE := fun w' r r2 t => PExt fl hs h32 tot Ah nh ch Af nf cf hnh hnf htot (by omega) (by omega) w' r r2 t
  have h32y : All32 (hs ++ [y]) := fun z hz => by
    rcases List.mem_append.1 hz with hz | hz
    · exact h32 z hz
    · rw [List.mem_singleton.1 hz]; exact y32
  have h32t : All32 (hs.take (nh - 1)) := fun z hz => h32 z (List.mem_of_mem_take hz)
  have HM1 := fun A2 c2 w' r r2 t => PExt fl (hs ++ [y]) h32y tot A2 (nh + 1) c2 Af nf cf (by rw [List.length_append, hnh]; rfl) hnf htot (by omega) (by omega) w' r r2 t
  have HM2 := fun A2 c2 w' r r2 t => PExt (fl ++ [b]) hs h32 tot Ah nh ch A2 (nf + 1) c2 hnh (by rw [List.length_append, hnf]; rfl) htot (by omega) (by omega) w' r r2 t
  have HM3 := fun w' r r2 t => PExt fl (hs.take (nh - 1)) h32t tot Ah (nh - 1) ch Af nf cf (by rw [List.length_take]; omega) hnf htot (by omega) (by omega) w' r r2 t
  have HM4 := fun w' r r2 t => PExt (fl.take (nf - 1)) hs h32 tot Ah nh ch Af (nf - 1) cf hnh (by rw [List.length_take]; omega) htot (by omega) (by omega) w' r r2 t
  rw [hx] at HE
  rw [m1] at HM1
  rw [m2] at HM2
  rw [m3] at HM3
  rw [m4] at HM4
  obtain ⟨rx, rl, rd, rk⟩ := r
  dsimp only at g3 g4 g5 g6 g7
  unfold ExtPost at HE HM1 HM2 HM3 HM4
  dsimp only at HE HM1 HM2 HM3 HM4
  have x32 : (rx.map bv).length = 32 := by rw [List.length_map, g4]
  have xone : (rx.map bv).all (·.oneCell') = true := List.all_eq_true.2 (bv_one rx)
  have HP := fun w' => PTree tot Ah nh ch Af nf cf w'
  have yv32 : (y.map bv).length = 32 := by rw [List.length_map, y32]
  have yone := bv_one y
  have hzone : (zs32.map bv).all (·.oneCell') = true := rfl
  obtain ⟨mn, hmn⟩ : ∃ mn, mn = rl.length := ⟨_, rfl⟩
  rw [← hmn] at HE
  have g3' : mn ≤ nh := by omega
  have hpw : ∀ (i j : Nat) (p q : Nat × List UInt8), i < j → rl[i]? = some p → rl[j]? = some q → p.1 < q.1 := fun i j p q hij hp hq => by
    have h := List.pairwise_iff_getElem.1 g7 i j (List.getElem?_eq_some_iff.1 hp).1 (List.getElem?_eq_some_iff.1 hq).1 hij
    rw [(List.getElem?_eq_some_iff.1 hp).2, (List.getElem?_eq_some_iff.1 hq).2] at h
    exact h
  have v0 : ((nh : Int) == 0) = false := by simp; omega
  have v1 : ((nf : Int) == 0) = false := by simp; omega
  have v2 : decide ((mn : Int) ≤ (nh : Int)) = true := by simp; omega
  have v2' : decide (mn ≤ nh) = true := by simp; omega
  clear m1 m2 m3 m4 hx g7 g3
  replace HE := Lib.hid HE
  replace HM1 := Lib.hid HM1
  replace HM2 := Lib.hid HM2
  replace HM3 := Lib.hid HM3
  replace HM4 := Lib.hid HM4
  replace HP := Lib.hid HP
  replace x32 := Lib.hid x32
  replace xone := Lib.hid xone
  replace yv32 := Lib.hid yv32
  replace yone := Lib.hid yone
  replace hzone := Lib.hid hzone
  replace hmn := Lib.hid hmn
  replace hpw := Lib.hid hpw
  replace hnh := Lib.hid hnh
  replace hnf := Lib.hid hnf
  replace g1 := Lib.hid g1
  replace g2 := Lib.hid g2
  replace g4 := Lib.hid g4
  replace g5 := Lib.hid g5
  replace g6 := Lib.hid g6
  replace y32 := Lib.hid y32
  go_enter Tryd.func3, Tryd.ntmps3
  go_upto_region 1 with fail
  rw [← hX.out]
  rw [show (w.alloc (.cells (trc tot Ah nh ch Af nf cf).toArray 26)).alloc (.cells (hcs y) 28) = W from hW.out.symm]
  go_upto_region 2 with (go_at_call 9; refine (HA.out).mono ?_; rintro e w1 ⟨rfl, b1⟩)
  have aX1 := aX.below b1
  have aY1 := aY.below b1
  have d1 := aX1.cell 1 _ rfl
  have d2 := aX1.cell 2 _ rfl
  have bw1 := bW.trans (b1.mono bW.size)
  clear HA aX aY b1
  go_upto_region 5 with (first
    | ((with_reducible refine wpList_loadF 26 aX1 ?_ _ 3 (rfl) Tryd.underlying26 ?_ ?_ ?_); rfl; rfl; kernel_rfl)
    | (go_at_call 11; refine (HP.out w1).mono ?_; rintro e w2 ⟨rfl, b2⟩; have bw2 := bw1.trans (b2.mono bw1.size))
    | (go_at_call 10; refine (HE.out w2 (hrh.below bw2) (hrf.below bw2) (hT.below bw2)).mono ?_; rintro e w3 ⟨b3, Ax, cx, rfl, hcx, gx, rx3⟩)
    | ((with_reducible refine wpList_storeF 28 ((Below.refl w3.heap.size w3).alloc (Nat.le_refl _) _) (heap_alloc_new _ _) (Nat.le_refl _) (rx.map bv) ?_ ?_ 32 x32.out ?_ ?_ ?_ ?_); rfl; rfl; kernel_rfl; rfl; exact xone.out; intro w4 aR b9 k9 z9; clear k9; replace z9 := Lib.hid z9))
  have b24 := b3.trans (b9.mono b3.size)
  have b14 := b2.trans (b24.mono b2.size)
  have bw4 := bw1.trans (b14.mono bw1.size)
  have aX4 := aX1.below b14
  have aY4 := aY1.below b14
  have rx4 := rx3.below b9
  clear b9 b3 b24 b14 b2 bw2 bw1 aX1 aY1 d1 d2 rx3 aR HE
  go_wp2
  go_loopw [11] (fun i wr => ∃ j : Nat, j ≤ mn ∧ i = .int .i64 (j : Int) ∧ Below w4.heap.size w4 wr) (fun i _ => mn - (intOf i).toNat)
  case atStart => exact ⟨0, by omega, rfl, Below.refl _ _⟩
  case round =>
    obtain ⟨j, hj, rfl, bw⟩ := hrel
    by_cases hlt : j < mn
    · have u1 : decide ((j : Int) < (mn : Int)) = true := by simp; omega
      have u2 : decide (j < mn) = true := by simp; omega
      obtain ⟨p, hp⟩ : ∃ p, rl[j]? = some p := ⟨_, List.getElem?_eq_getElem (by rw [← hmn.out]; exact hlt)⟩
      obtain ⟨bX, oX, rfl⟩ := rx4.someA (mlc_ne (by rw [← hmn.out]; omega))
      have hpt := g6.out p (List.mem_of_getElem? hp)
      have C1 : ∀ w', Below w4.heap.size w4 w' → w'.cell? ⟨bX, oX + j * 33, none⟩ = some (.int .i64 (p.1 : Int)) := fun w' h => ((rx4.below h).match_at g5.out j p hp).1
      have C3 : ∀ w', Below w4.heap.size w4 w' → w'.cell? ⟨X, 0, none⟩ = some (.int .u32 (tot : Int)) := fun w' h => (aX4.below h).cell 0 _ rfl
      obtain ⟨q, hq⟩ : ∃ q, q = p.1 := ⟨_, rfl⟩
      rw [← hq] at hpt C1
      have w3' : decide ((q : Int) < 0) = false := decide_eq_false (by omega)
      have w4' : decide ((tot : Int) ≤ (q : Int)) = false := decide_eq_false (by omega)
      have w4'' : decide (tot ≤ q) = false := decide_eq_false (by omega)
      have wt : IntKind.i64.wrap (tot : Int) = (tot : Int) := by rw [IntKind.wrap_i64]; omega
      replace wt := Lib.hid wt
      have n1 : (j : Int) < (mn : Int) := by omega
      have jb : j ≤ 1000 := by omega
      replace hp := Lib.hid hp
      replace hq := Lib.hid hq
      replace C1 := Lib.hid C1
      replace C3 := Lib.hid C3
      by_cases hj0 : j = 0
      · subst hj0
        have C0 : ∀ w', Below w4.heap.size w4 w' → w'.cell? ⟨bX, oX, none⟩ = some (.int .i64 (q : Int)) := fun w' h => by have := C1.out w' h; rwa [Nat.zero_mul, Nat.add_zero] at this
        replace C0 := Lib.hid C0
        go_wp2_with fail
        refine wp_region_rel [] Ext (by kernel_rfl) (by kernel_rfl) (by kernel_rfl) Ext.refl Ext.trans (by intro p hp; cases hp) ?_
        refine relMove Ext.refl rfl rfl rfl rfl _ (.inl rfl) (by conv => lhs; whnf) (by simp only [List.set_cons_succ, List.set_cons_zero]; rfl) ?_
        refine relMove Ext.refl rfl rfl rfl rfl _ (.inl rfl) (by conv => lhs; whnf) (by simp only [List.set_cons_succ, List.set_cons_zero]; rfl) ?_
        refine relPure Ext.refl rfl rfl rfl rfl (c := .pointer (some ⟨bX, oX, none⟩)) (fun w _ => by go_simp; first | done | rfl) (by simp only [List.set_cons_succ, List.set_cons_zero]; rfl) ?_
        refine relPure Ext.refl rfl rfl rfl rfl (c := .pointer (some ⟨bX, oX, none⟩)) (fun w _ => by go_simp; first | done | rfl) (by simp only [List.set_cons_succ, List.set_cons_zero]; rfl) ?_
        refine relPure Ext.refl rfl rfl rfl rfl (c := .int .i64 (q : Int)) (fun w hw => by have := C0.out _ (bw.trans (hw.drew.mono bw.size)); go_simp; first | done | rfl) (by simp only [List.set_cons_succ, List.set_cons_zero]; rfl) ?_
        refine relPure Ext.refl rfl rfl rfl rfl (c := .bool false) (fun w _ => by go_simp; first | done | rfl) (by simp only [List.set_cons_succ, List.set_cons_zero]; rfl) ?_
        refine relMove Ext.refl rfl rfl rfl rfl _ (.inl rfl) (by conv => lhs; whnf) (by simp only [List.set_cons_succ, List.set_cons_zero]; rfl) ?_
        refine relMove Ext.refl rfl rfl rfl rfl _ (.inl rfl) (by conv => lhs; whnf) (by simp only [List.set_cons_succ, List.set_cons_zero]; rfl) ?_
        refine relMove Ext.refl rfl rfl rfl rfl _ (.inl rfl) (by conv => lhs; whnf) (by simp only [List.set_cons_succ, List.set_cons_zero]; rfl) ?_
        refine relPure Ext.refl rfl rfl rfl rfl (c := .pointer (some ⟨bX, oX, none⟩)) (fun w _ => by go_simp; first | done | rfl) (by simp only [List.set_cons_succ, List.set_cons_zero]; rfl) ?_
        refine relPure Ext.refl rfl rfl rfl rfl (c := .pointer (some ⟨bX, oX, none⟩)) (fun w _ => by go_simp; first | done | rfl) (by simp only [List.set_cons_succ, List.set_cons_zero]; rfl) ?_
        refine relPure Ext.refl rfl rfl rfl rfl (c := .int .i64 (q : Int)) (fun w hw => by have := C0.out _ (bw.trans (hw.drew.mono bw.size)); go_simp; first | done | rfl) (by simp only [List.set_cons_succ, List.set_cons_zero]; rfl) ?_
        refine relPure Ext.refl rfl rfl rfl rfl (fun w _ => by go_simp; first | done | rfl) (by simp only [List.set_cons_succ, List.set_cons_zero]; rfl) ?_
        refine relPure Ext.refl rfl rfl rfl rfl (c := .int .u32 (tot : Int)) (fun w hw => by have := C3.out _ (bw.trans (hw.drew.mono bw.size)); go_simp; first | done | rfl) (by simp only [List.set_cons_succ, List.set_cons_zero]; rfl) ?_
        refine relPure Ext.refl rfl rfl rfl rfl (c := .int .i64 (tot : Int)) (fun w hw => by have := wt.out; go_simp; first | done | rfl) (by simp only [List.set_cons_succ, List.set_cons_zero]; rfl) ?_
        refine relPure Ext.refl rfl rfl rfl rfl (c := .bool false) (fun w _ => by go_simp; first | done | rfl) (by simp only [List.set_cons_succ, List.set_cons_zero]; rfl) ?_
        refine relPick Ext.refl rfl rfl rfl rfl _ _ _ rfl rfl (by conv => lhs; whnf) (by simp only [List.set_cons_succ, List.set_cons_zero]; rfl) ?_
        refine relMove Ext.refl rfl rfl rfl rfl _ (.inl rfl) (by conv => lhs; whnf) (by simp only [List.set_cons_succ, List.set_cons_zero]; rfl) ?_
        refine relMove Ext.refl rfl rfl rfl rfl _ (.inl rfl) (by conv => lhs; whnf) (by simp only [List.set_cons_succ, List.set_cons_zero]; rfl) ?_
        refine relPure Ext.refl rfl rfl rfl rfl (c := .bool false) (fun w _ => by go_simp; first | done | rfl) (by simp only [List.set_cons_succ, List.set_cons_zero]; rfl) ?_
        refine relMove Ext.refl rfl rfl rfl rfl _ (.inl rfl) (by conv => lhs; whnf) (by simp only [List.set_cons_succ, List.set_cons_zero]; rfl) ?_
        refine relSkip rfl rfl rfl rfl (by simp only [List.set_cons_succ, List.set_cons_zero]; rfl) ?_
        refine relSkip rfl rfl rfl rfl (by simp only [List.set_cons_succ, List.set_cons_zero]; rfl) ?_
        refine relSkip rfl rfl rfl rfl (by simp only [List.set_cons_succ, List.set_cons_zero]; rfl) ?_
        refine relSkip rfl rfl rfl rfl (by simp only [List.set_cons_succ, List.set_cons_zero]; rfl) ?_
        refine relSkip rfl rfl rfl rfl (by simp only [List.set_cons_succ, List.set_cons_zero]; rfl) ?_
        refine relSkip rfl rfl rfl rfl (by simp only [List.set_cons_succ, List.set_cons_zero]; rfl) ?_
        refine relSkip rfl rfl rfl rfl (by simp only [List.set_cons_succ, List.set_cons_zero]; rfl) ?_
        refine relSkip rfl rfl rfl rfl (by simp only [List.set_cons_succ, List.set_cons_zero]; rfl) ?_
        refine relSkip rfl rfl rfl rfl (by simp only [List.set_cons_succ, List.set_cons_zero]; rfl) ?_
        refine relSkip rfl rfl rfl rfl (by simp only [List.set_cons_succ, List.set_cons_zero]; rfl) ?_
        refine relSkip rfl rfl rfl rfl (by simp only [List.set_cons_succ, List.set_cons_zero]; rfl) ?_
        refine relSkip rfl rfl rfl rfl (by simp only [List.set_cons_succ, List.set_cons_zero]; rfl) ?_
        refine relPick Ext.refl rfl rfl rfl rfl _ _ _ rfl rfl (by conv => lhs; whnf) (by simp only [List.set_cons_succ, List.set_cons_zero]; rfl) ?_
        refine relPick Ext.refl rfl rfl rfl rfl _ _ _ rfl rfl (by conv => lhs; whnf) (by simp only [List.set_cons_succ, List.set_cons_zero]; rfl) ?_
        refine relEnd fun w8 hw8 => fill_end ?_
        have b8 := bw.trans (hw8.drew.mono bw.size)
        go_wp2
        refine ⟨⟨1, by omega, by go_num, b8⟩, ?_⟩
        simp [intOf]
        omega
      · have u5 : decide ((0 : Int) < (j : Int)) = true := by simp; omega
        have u5' : decide (0 < j) = true := by simp; omega
        obtain ⟨i, hi⟩ : ∃ i, i = j - 1 := ⟨_, rfl⟩
        obtain ⟨p2, hp2⟩ : ∃ p2, rl[i]? = some p2 := ⟨_, List.getElem?_eq_getElem (by rw [← hmn.out]; omega)⟩
        have hlt2 := hpw.out i j p2 p (by omega) hp2 hp.out
        have C2 : ∀ w', Below w4.heap.size w4 w' → w'.cell? ⟨bX, oX + i * 33, none⟩ = some (.int .i64 (p2.1 : Int)) := fun w' h => ((rx4.below h).match_at g5.out i p2 hp2).1
        obtain ⟨q2, hq2⟩ : ∃ q2, q2 = p2.1 := ⟨_, rfl⟩
        rw [← hq.out, ← hq2] at hlt2
        rw [← hq2] at C2
        have w5' : decide ((q : Int) ≤ (q2 : Int)) = false := by simp; omega
        have w5'' : decide (q ≤ q2) = false := by simp; omega
        have e1 : IntKind.i64.wrap ((j : Int) - 1) = (i : Int) := by rw [IntKind.wrap_i64]; omega
        have e2 : (j : Int) - 1 = (i : Int) := by omega
        have n2 : (i : Int) < (mn : Int) := by omega
        replace hi := Lib.hid hi
        replace hp2 := Lib.hid hp2
        replace hq2 := Lib.hid hq2
        replace C2 := Lib.hid C2
        have e3 : IntKind.i64.wrap (i : Int) = (i : Int) := by rw [IntKind.wrap_i64]; omega
        replace e1 := Lib.hid e1
        replace e2 := Lib.hid e2
        replace e3 := Lib.hid e3
        go_wp2_with fail
        refine wp_region_rel [] Ext (by kernel_rfl) (by kernel_rfl) (by kernel_rfl) Ext.refl Ext.trans (by intro p hp; cases hp) ?_
        refine relMove Ext.refl rfl rfl rfl rfl _ (.inl rfl) (by conv => lhs; whnf) (by simp only [List.set_cons_succ, List.set_cons_zero]; rfl) ?_
        refine relMove Ext.refl rfl rfl rfl rfl _ (.inl rfl) (by conv => lhs; whnf) (by simp only [List.set_cons_succ, List.set_cons_zero]; rfl) ?_
        refine relPure Ext.refl rfl rfl rfl rfl (c := .pointer (some ⟨bX, oX + j * 33, none⟩)) (fun w _ => by go_simp; first | done | rfl) (by simp only [List.set_cons_succ, List.set_cons_zero]; rfl) ?_
        refine relPure Ext.refl rfl rfl rfl rfl (c := .pointer (some ⟨bX, oX + j * 33, none⟩)) (fun w _ => by go_simp; first | done | rfl) (by simp only [List.set_cons_succ, List.set_cons_zero]; rfl) ?_
        refine relPure Ext.refl rfl rfl rfl rfl (c := .int .i64 (q : Int)) (fun w hw => by have := C1.out _ (bw.trans (hw.drew.mono bw.size)); go_simp; first | done | rfl) (by simp only [List.set_cons_succ, List.set_cons_zero]; rfl) ?_
        refine relPure Ext.refl rfl rfl rfl rfl (c := .bool false) (fun w _ => by go_simp; first | done | rfl) (by simp only [List.set_cons_succ, List.set_cons_zero]; rfl) ?_
        refine relMove Ext.refl rfl rfl rfl rfl _ (.inl rfl) (by conv => lhs; whnf) (by simp only [List.set_cons_succ, List.set_cons_zero]; rfl) ?_
        refine relMove Ext.refl rfl rfl rfl rfl _ (.inl rfl) (by conv => lhs; whnf) (by simp only [List.set_cons_succ, List.set_cons_zero]; rfl) ?_
        refine relMove Ext.refl rfl rfl rfl rfl _ (.inl rfl) (by conv => lhs; whnf) (by simp only [List.set_cons_succ, List.set_cons_zero]; rfl) ?_
        refine relPure Ext.refl rfl rfl rfl rfl (c := .pointer (some ⟨bX, oX + j * 33, none⟩)) (fun w _ => by go_simp; first | done | rfl) (by simp only [List.set_cons_succ, List.set_cons_zero]; rfl) ?_
        refine relPure Ext.refl rfl rfl rfl rfl (c := .pointer (some ⟨bX, oX + j * 33, none⟩)) (fun w _ => by go_simp; first | done | rfl) (by simp only [List.set_cons_succ, List.set_cons_zero]; rfl) ?_
        refine relPure Ext.refl rfl rfl rfl rfl (c := .int .i64 (q : Int)) (fun w hw => by have := C1.out _ (bw.trans (hw.drew.mono bw.size)); go_simp; first | done | rfl) (by simp only [List.set_cons_succ, List.set_cons_zero]; rfl) ?_
        refine relPure Ext.refl rfl rfl rfl rfl (fun w _ => by go_simp; first | done | rfl) (by simp only [List.set_cons_succ, List.set_cons_zero]; rfl) ?_
        refine relPure Ext.refl rfl rfl rfl rfl (c := .int .u32 (tot : Int)) (fun w hw => by have := C3.out _ (bw.trans (hw.drew.mono bw.size)); go_simp; first | done | rfl) (by simp only [List.set_cons_succ, List.set_cons_zero]; rfl) ?_
        refine relPure Ext.refl rfl rfl rfl rfl (c := .int .i64 (tot : Int)) (fun w hw => by have := wt.out; go_simp; first | done | rfl) (by simp only [List.set_cons_succ, List.set_cons_zero]; rfl) ?_
        refine relPure Ext.refl rfl rfl rfl rfl (c := .bool false) (fun w _ => by go_simp; first | done | rfl) (by simp only [List.set_cons_succ, List.set_cons_zero]; rfl) ?_
        refine relPick Ext.refl rfl rfl rfl rfl _ _ _ rfl rfl (by conv => lhs; whnf) (by simp only [List.set_cons_succ, List.set_cons_zero]; rfl) ?_
        refine relMove Ext.refl rfl rfl rfl rfl _ (.inl rfl) (by conv => lhs; whnf) (by simp only [List.set_cons_succ, List.set_cons_zero]; rfl) ?_
        refine relMove Ext.refl rfl rfl rfl rfl _ (.inl rfl) (by conv => lhs; whnf) (by simp only [List.set_cons_succ, List.set_cons_zero]; rfl) ?_
        refine relPure Ext.refl rfl rfl rfl rfl (c := .bool true) (fun w _ => by go_simp; first | done | rfl) (by simp only [List.set_cons_succ, List.set_cons_zero]; rfl) ?_
        refine relMove Ext.refl rfl rfl rfl rfl _ (.inl rfl) (by conv => lhs; whnf) (by simp only [List.set_cons_succ, List.set_cons_zero]; rfl) ?_
        refine relMove Ext.refl rfl rfl rfl rfl _ (.inl rfl) (by conv => lhs; whnf) (by simp only [List.set_cons_succ, List.set_cons_zero]; rfl) ?_
        refine relMove Ext.refl rfl rfl rfl rfl _ (.inl rfl) (by conv => lhs; whnf) (by simp only [List.set_cons_succ, List.set_cons_zero]; rfl) ?_
        refine relPure Ext.refl rfl rfl rfl rfl (c := .pointer (some ⟨bX, oX + j * 33, none⟩)) (fun w _ => by go_simp; first | done | rfl) (by simp only [List.set_cons_succ, List.set_cons_zero]; rfl) ?_
        refine relPure Ext.refl rfl rfl rfl rfl (c := .pointer (some ⟨bX, oX + j * 33, none⟩)) (fun w _ => by go_simp; first | done | rfl) (by simp only [List.set_cons_succ, List.set_cons_zero]; rfl) ?_
        refine relPure Ext.refl rfl rfl rfl rfl (c := .int .i64 (q : Int)) (fun w hw => by have := C1.out _ (bw.trans (hw.drew.mono bw.size)); go_simp; first | done | rfl) (by simp only [List.set_cons_succ, List.set_cons_zero]; rfl) ?_
        refine relMove Ext.refl rfl rfl rfl rfl _ (.inl rfl) (by conv => lhs; whnf) (by simp only [List.set_cons_succ, List.set_cons_zero]; rfl) ?_
        refine relMove Ext.refl rfl rfl rfl rfl _ (.inl rfl) (by conv => lhs; whnf) (by simp only [List.set_cons_succ, List.set_cons_zero]; rfl) ?_
        refine relPure Ext.refl rfl rfl rfl rfl (c := .int .i64 (i : Int)) (fun w hw => by have := e1.out; have := e2.out; have := e3.out; go_simp; first | done | rfl) (by simp only [List.set_cons_succ, List.set_cons_zero]; rfl) ?_
        refine relPure Ext.refl rfl rfl rfl rfl (c := .pointer (some ⟨bX, oX + i * 33, none⟩)) (fun w _ => by go_simp; first | done | rfl) (by simp only [List.set_cons_succ, List.set_cons_zero]; rfl) ?_
        refine relPure Ext.refl rfl rfl rfl rfl (c := .pointer (some ⟨bX, oX + i * 33, none⟩)) (fun w _ => by go_simp; first | done | rfl) (by simp only [List.set_cons_succ, List.set_cons_zero]; rfl) ?_
        refine relPure Ext.refl rfl rfl rfl rfl (c := .int .i64 (q2 : Int)) (fun w hw => by have := C2.out _ (bw.trans (hw.drew.mono bw.size)); go_simp; first | done | rfl) (by simp only [List.set_cons_succ, List.set_cons_zero]; rfl) ?_
        refine relPure Ext.refl rfl rfl rfl rfl (c := .bool false) (fun w _ => by go_simp; first | done | rfl) (by simp only [List.set_cons_succ, List.set_cons_zero]; rfl) ?_
        refine relPick Ext.refl rfl rfl rfl rfl _ _ _ rfl rfl (by conv => lhs; whnf) (by simp only [List.set_cons_succ, List.set_cons_zero]; rfl) ?_
        refine relPick Ext.refl rfl rfl rfl rfl _ _ _ rfl rfl (by conv => lhs; whnf) (by simp only [List.set_cons_succ, List.set_cons_zero]; rfl) ?_
        refine relEnd fun w8 hw8 => fill_end ?_
        have b8 := bw.trans (hw8.drew.mono bw.size)
        go_wp2
        refine ⟨⟨j + 1, by omega, by go_num, b8⟩, ?_⟩
        simp [intOf]
        omega
    · obtain rfl : j = mn := by omega
      have u1 : decide ((j : Int) < (j : Int)) = false := by simp
      obtain ⟨B0, hB0⟩ : ∃ B0, B0 = wr.heap.size := ⟨_, rfl⟩
      have bwr := bw4.trans (bw.mono bw4.size)
      have aXr := aX4.below bw
      have aYr := aY4.below bw
      have hYr := Lib.hid aYr.lt
      have rhr := hrh.below bwr
      have rfr := hrf.below bwr
      have bal := (Below.refl wr.heap.size wr).alloc (Nat.le_refl _) (Obj.cells #[] 28)
      have oa : (wr.alloc (Obj.cells #[] 28)).ownsRow wr.heap.size 28 32 (.slice (some ⟨wr.heap.size, 0, none⟩) 0 0) 0 [] := World.ownsRow_made wr #[] 0 (Nat.le_refl _) (by simp [maxLen]) rfl
      have aXa := aXr.below bal
      have aYa := aYr.below bal
      have d0 := aXa.cell 0 _ rfl
      have d1 := aXa.cell 1 _ rfl
      have d2 := aXa.cell 2 _ rfl
      have rha := rhr.below bal
      have hBa := Lib.hid bal.size
      clear aXr aYr aX4 aY4 bw
      go_upto_region 13 with (at_builtin; refine wpList_appE Tryd.underlying23 infoHs32 zeroHs32 (by decide) oa hBa.out (hcl hs) nh ch rha (by rw [hcl_length h32, hnh.out, Nat.mul_comm]) (hcl_one' hs) (by omega) (by omega) rfl (.tmp 103) (.tmp 105) rfl rfl rfl ?_; intro v5 w5 o5 gr5 ob5; rw [Nat.zero_add, List.nil_append] at o5; obtain ⟨A5, c5, rfl, hc5, _⟩ := own_form o5)
      have f5 := Fr.of_grown gr5
      have b5 := own_app bal oa gr5 hBa.out
      have aX5 := f5.av aXa (fun e => own_ne oa aXa (by decide) e.symm)
      have aY5 := f5.av aYa (fun e => by have h1 := (World.ownsRow.lt oa _ e.symm).1; have := hYr.out; omega)
      have bal5 := (Below.refl w5.heap.size w5).alloc (Nat.le_refl _) (Obj.cells (y.map bv).toArray 28)
      have o5a := own_below o5 bal5
      have aX5a := aX5.below bal5
      have aY5a := aY5.below bal5
      have b5a := b5.trans (bal5.mono b5.size)
      have hB5 := Lib.hid b5a.size
      clear oa aXa aYa d0 d1 d2 rha f5 gr5 ob5 bal o5 b5 bal5 aX5
      go_upto_region 14 with (first
        | ((with_reducible refine wpList_loadF 28 aY5 ?_ _ 32 yv32.out Tryd.underlying28 ?_ ?_ ?_); rfl; rfl; kernel_rfl)
        | ((with_reducible refine wpList_build1 (e := 28) Tryd.underlying23 infoHs32 zeroHs32 ?_ ?_ (y.map bv) yv32.out ?_ ?_); decide; decide; rfl)
        | (at_builtin; refine wpList_appE Tryd.underlying23 infoHs32 zeroHs32 (by decide) o5a hB5.out (y.map bv) 1 1 (Av.rd (t := 28) (heap_alloc_new _ _)) (by rw [yv32.out]) yone.out (by omega) (by omega) rfl (.tmp 107) (.tmp 109) rfl rfl rfl ?_; intro v6 w6 o6 gr6 ob6; obtain ⟨A6, c6, rfl, hc6, _⟩ := own_form o6))
      have f6 := Fr.of_grown gr6
      have b6 := own_app b5a o5a gr6 hB5.out
      have aX6 := f6.av aX5a (fun e => own_ne o5a aX5a (by decide) e.symm)
      have e6 : hcl hs ++ y.map bv = hcl (hs ++ [y]) := by rw [hcl_append, hcl_one]
      rw [e6] at o6
      have bal6 := (Below.refl w6.heap.size w6).alloc (Nat.le_refl _) (Obj.cells #[] 5)
      have o6a := own_below o6 bal6
      have aX6a := aX6.below bal6
      have b6a := b6.trans (bal6.mono b6.size)
      have hB6 := Lib.hid b6a.size
      have of6 : (w6.alloc (Obj.cells #[] 5)).ownsRow wr.heap.size 5 1 (.slice (some ⟨w6.heap.size, 0, none⟩) 0 0) 0 [] := World.ownsRow_made w6 #[] 0 b6.size (by simp [maxLen]) rfl
      have d2 := aX6a.cell 2 _ rfl
      have rfa := rfr.below (b6a.mono (Nat.le_refl _))
      clear o5a aX5a aY5 aY5a b5a f6 gr6 ob6 o6 b6 bal6 aX6 e6
      go_upto_region 15 with (at_builtin; refine wpList_appE Tryd.underlying24 infoU81 zeroU81 (by decide) of6 hB6.out (fl.map bv) nf cf rfa (by rw [List.length_map, hnf.out, Nat.mul_one]) (bv_one fl) (by omega) (by omega) rfl (.tmp 111) (.tmp 113) rfl rfl rfl ?_; intro v7 w7 o7 gr7 ob7; rw [Nat.zero_add, List.nil_append] at o7; obtain ⟨A7, c7, rfl, hc7, _⟩ := own_form o7)
      have f7 := Fr.of_grown gr7
      have b7 := own_app b6a of6 gr7 hB6.out
      have aX7 := f7.av aX6a (fun e => own_ne of6 aX6a (by decide) e.symm)
      have o67 := own_fr o6a f7 (fun k e q => own_ne2 of6 o6a (by decide) k e q.symm)
      have bal7 := (Below.refl w7.heap.size w7).alloc (Nat.le_refl _) (Obj.cells #[Value.int .u8 (b.toNat : Int)] 5)
      have o7a := own_below o7 bal7
      have o67a := own_below o67 bal7
      have aX7a := aX7.below bal7
      have b7a := b7.trans (bal7.mono b7.size)
      have hB7 := Lib.hid b7a.size
      clear of6 o6a aX6a b6a d2 rfa f7 gr7 ob7 o7 b7 bal7 aX7 o67
      go_upto_region 16 with (at_builtin; refine wpList_appE Tryd.underlying24 infoU81 zeroU81 (by decide) o7a hB7.out ([b].map bv) 1 1 (Av.rd (t := 5) (heap_alloc_new _ _)) rfl (bv_one [b]) (by omega) (by omega) rfl (.tmp 115) (.tmp 117) rfl rfl rfl ?_; intro v8 w8 o8 gr8 ob8; obtain ⟨A8, c8, rfl, hc8, _⟩ := own_form o8)
      have f8 := Fr.of_grown gr8
      have b8 := own_app b7a o7a gr8 hB7.out
      have aX8 := f8.av aX7a (fun e => own_ne o7a aX7a (by decide) e.symm)
      have o68 := own_fr o67a f8 (fun k e q => own_ne2 o7a o67a (by decide) k e q.symm)
      have rh8 := own_rd o68
      have e8 : fl.map bv ++ [b].map bv = (fl ++ [b]).map bv := by rw [List.map_append]
      rw [e8] at o8
      have rf8 := own_rd o8
      have bw8 := bwr.trans (b8.mono bwr.size)
      have rhO8 := hrh.below bw8
      have rfO8 := hrf.below bw8
      have d0 := aX8.cell 0 _ rfl
      have d2 := aX8.cell 2 _ rfl
      clear o7a aX7a b7a o67a f8 gr8 ob8 o8 o68 e8 b8 rhr rfr bwr
      have HM1a := Lib.hid (HM1.out A6 c6 w8 rh8 rfO8 (hT.below bw8))
      go_upto_region 17 with (first
        | ((with_reducible refine wpList_bld (.agg (trc tot A6 (nh + 1) c6 Af nf cf).toArray) ?_ ?_); kernel_rfl)
        | (go_at_call 10; refine (HM1a.out).mono ?_; rintro e w9 ⟨b10, rfl⟩)
        | ((with_reducible refine wpList_storeF 28 ((Below.refl w9.heap.size w9).alloc (Nat.le_refl _) _) (heap_alloc_new _ _) (Nat.le_refl _) (zs32.map bv) ?_ ?_ 32 rfl ?_ ?_ ?_ ?_); rfl; rfl; kernel_rfl; rfl; exact hzone.out; intro wa aE b9 k9 z9; clear k9; replace z9 := Lib.hid z9))
      have b8a := b10.trans (b9.mono b10.size)
      have bwa := bw8.trans (b8a.mono bw8.size)
      have aXb := aX8.below b8a
      have rfb := rf8.below b8a
      have d0' := aXb.cell 0 _ rfl
      have d1' := aXb.cell 1 _ rfl
      have rhOa := hrh.below bwa
      have HM2a := Lib.hid (HM2.out A8 c8 wa rhOa rfb (hT.below bwa))
      clear aX8 d0 d2 rh8 rf8 rhO8 rfO8 bw8 b9 b10 aE b8a HM1a HM1
      go_upto_region 18 with (first
        | ((with_reducible refine wpList_bld (.agg (trc tot Ah nh ch A8 (nf + 1) c8).toArray) ?_ ?_); kernel_rfl)
        | (go_at_call 10; refine (HM2a.out).mono ?_; rintro e wb ⟨b10, rfl⟩)
        | ((with_reducible refine wpList_storeF 28 ((Below.refl wb.heap.size wb).alloc (Nat.le_refl _) _) (heap_alloc_new _ _) (Nat.le_refl _) (zs32.map bv) ?_ ?_ 32 rfl ?_ ?_ ?_ ?_); rfl; rfl; kernel_rfl; rfl; exact hzone.out; intro wc aE b9 k9 z9; clear k9; replace z9 := Lib.hid z9))
      have bac := b10.trans (b9.mono b10.size)
      have bwc := bwa.trans (bac.mono bwa.size)
      have aXc := aXb.below bac
      have d1c := aXc.cell 1 _ rfl
      have d2c := aXc.cell 2 _ rfl
      clear aXb d0' d1' rfb rhOa bwa b9 b10 aE bac HM2a HM2
      go_upto_region 20 with fail
      have rhc := hrh.below bwc
      have rfc := hrf.below bwc
      have hz := zeros_32
      rw [show List.replicate 32 (0 : UInt8) = zs32 from rfl] at hz
      obtain ⟨k1, hk1⟩ : ∃ k1, k1 = nh - 1 := ⟨_, rfl⟩
      obtain ⟨k2, hk2⟩ : ∃ k2, k2 = nf - 1 := ⟨_, rfl⟩
      have p1 := g1.out
      have p2 := g2.out
      have q1 := hnh.out
      have q2 := hnf.out
      have s1 : IntKind.i64.wrap ((nh : Int) - 1) = (k1 : Int) := by rw [IntKind.wrap_i64]; omega
      have s1' : (nh : Int) - 1 = (k1 : Int) := by omega
      have s2 : IntKind.i64.wrap ((nf : Int) - 1) = (k2 : Int) := by rw [IntKind.wrap_i64]; omega
      have s2' : (nf : Int) - 1 = (k2 : Int) := by omega
      have n1 : (k1 : Int) ≤ (ch : Int) := by omega
      have n2 : (k2 : Int) ≤ (cf : Int) := by omega
      have s3 : IntKind.i64.wrap (k1 : Int) = (k1 : Int) := by rw [IntKind.wrap_i64]; omega
      have s4 : IntKind.i64.wrap (k2 : Int) = (k2 : Int) := by rw [IntKind.wrap_i64]; omega
      have rhT : ∀ v, Rd v Ah (hcl hs) → Rd v Ah (hcl (hs.take k1)) := fun v h => by
        have e2 : (hcl (hs.take k1)).length = 32 * k1 := by rw [hcl_length (fun z hz => h32 z (List.mem_of_mem_take hz)), List.length_take]; omega
        have e : hcl (hs.take k1) = (hcl hs).take (32 * k1) := by
          have : hcl hs = hcl (hs.take k1) ++ hcl (hs.drop k1) := by rw [← hcl_append, List.take_append_drop]
          rw [this, List.take_append_of_le_length (Nat.le_of_eq e2.symm), List.take_of_length_le (Nat.le_of_eq e2)]
        rw [e]
        exact h.take _
      have rfT : ∀ v, Rd v Af (fl.map bv) → Rd v Af ((fl.take k2).map bv) := fun v h => by rw [List.map_take]; exact h.take _
      have HM3' := HM3.out
      have HM4' := HM4.out
      rw [← hk1] at HM3'
      rw [← hk2] at HM4'
      replace HM3' := Lib.hid HM3'
      replace HM4' := Lib.hid HM4'
      replace rhT := Lib.hid rhT
      replace rfT := Lib.hid rfT
      replace s1 := Lib.hid s1
      replace s1' := Lib.hid s1'
      replace s2 := Lib.hid s2
      replace s2' := Lib.hid s2'
      replace s3 := Lib.hid s3
      replace s4 := Lib.hid s4
      replace hk1 := Lib.hid hk1
      replace hk2 := Lib.hid hk2
      clear d1c d2c p1 p2 q1 q2 HM3 HM4
      refine wp_region_rel [(17, fun v w' => ∃ g l, v = .pointer (some ⟨g, 0, none⟩) ∧ wc.heap.size ≤ g ∧ Av w' g 28 l ∧ l.length = 32)] (RX wc.heap.size) (by kernel_rfl) (by kernel_rfl) (by kernel_rfl) RX.refl RX.trans (by
        intro p hp v w w' hR
        simp only [List.mem_singleton] at hp
        subst hp
        rintro ⟨g, l, e, h1, h2, h3⟩
        obtain ⟨l', q1, q2⟩ := hR.rows g l h2 h3
        exact ⟨g, l', e, h1, q1, q2⟩) ?_
      refine relPure RX.refl rfl rfl rfl rfl (fun w _ => by go_simp; first | done | rfl) (by simp only [List.set_cons_succ, List.set_cons_zero]; rfl) ?_
      refine relPure RX.refl rfl rfl rfl rfl (c := .int .u32 (tot : Int)) (fun w hw => by have := (aXc.below hw.drew).cell 0 _ rfl; go_simp; first | done | rfl) (by simp only [List.set_cons_succ, List.set_cons_zero]; rfl) ?_
      refine relPure RX.refl rfl rfl rfl rfl (fun w _ => by go_simp; first | done | rfl) (by simp only [List.set_cons_succ, List.set_cons_zero]; rfl) ?_
      refine relPure RX.refl rfl rfl rfl rfl (c := .slice Ah nh ch) (fun w hw => by have := (aXc.below hw.drew).cell 1 _ rfl; go_simp; first | done | rfl) (by simp only [List.set_cons_succ, List.set_cons_zero]; rfl) ?_
      refine relPure RX.refl rfl rfl rfl rfl (fun w _ => by go_simp; first | done | rfl) (by simp only [List.set_cons_succ, List.set_cons_zero]; rfl) ?_
      refine relPure RX.refl rfl rfl rfl rfl (c := .slice Ah nh ch) (fun w hw => by have := (aXc.below hw.drew).cell 1 _ rfl; go_simp; first | done | rfl) (by simp only [List.set_cons_succ, List.set_cons_zero]; rfl) ?_
      refine relPure RX.refl rfl rfl rfl rfl (fun w _ => by go_simp; first | done | rfl) (by simp only [List.set_cons_succ, List.set_cons_zero]; rfl) ?_
      refine relPure RX.refl rfl rfl rfl rfl (c := .int .i64 (k1 : Int)) (fun w hw => by have := s1.out; have := s1'.out; have := s3.out; go_simp; first | done | rfl) (by simp only [List.set_cons_succ, List.set_cons_zero]; rfl) ?_
      refine relPure RX.refl rfl rfl rfl rfl (c := .slice Ah k1 ch) (fun w _ => by go_simp; first | done | rfl) (by simp only [List.set_cons_succ, List.set_cons_zero]; rfl) ?_
      refine relPure RX.refl rfl rfl rfl rfl (fun w _ => by go_simp; first | done | rfl) (by simp only [List.set_cons_succ, List.set_cons_zero]; rfl) ?_
      refine relPure RX.refl rfl rfl rfl rfl (c := .slice Af nf cf) (fun w hw => by have := (aXc.below hw.drew).cell 2 _ rfl; go_simp; first | done | rfl) (by simp only [List.set_cons_succ, List.set_cons_zero]; rfl) ?_
      refine relPure RX.refl rfl rfl rfl rfl (c := .agg (trc tot Ah k1 ch Af nf cf).toArray) (fun w _ => by kernel_rfl) (by simp only [List.set_cons_succ, List.set_cons_zero]; rfl) ?_
      refine relCall1 rfl rfl rfl rfl (c := .tuple #[.agg (hcs zs32), .slice none 0 0, .int .i64 13]) 10 #[.agg (trc tot Ah k1 ch Af nf cf).toArray] (fun w => by go_simp) (fun w hw => (HM3'.out w (rhT.out _ (rhc.below hw.drew)) (rfc.below hw.drew) (hT.below (bwc.trans (hw.drew.mono bwc.size)))).mono (by rintro e w' ⟨b1, rfl⟩; exact ⟨rfl, RX.of b1 hw.below.size⟩)) (by simp only [List.set_cons_succ, List.set_cons_zero]; rfl) ?_
      refine relMove RX.refl rfl rfl rfl rfl _ (.inl rfl) (by conv => lhs; whnf) (by simp only [List.set_cons_succ, List.set_cons_zero]; rfl) ?_
      refine relPure RX.refl rfl rfl rfl rfl (fun w _ => by go_simp; first | done | rfl) (by simp only [List.set_cons_succ, List.set_cons_zero]; rfl) ?_
      refine relPure RX.refl rfl rfl rfl rfl (fun w _ => by go_simp; first | done | rfl) (by simp only [List.set_cons_succ, List.set_cons_zero]; rfl) ?_
      refine relPure RX.refl rfl rfl rfl rfl (fun w _ => by go_simp; first | done | rfl) (by simp only [List.set_cons_succ, List.set_cons_zero]; rfl) ?_
      refine relWord _ rfl (fun w hw => fill_none rfl (relOp_yes rfl ?_)) ?_
      · go_simp
        exact ⟨RX.of ((Below.refl _ _).alloc (Nat.le_refl _) _) hw.below.size, _, rfl, hw.below.size, zs32.map bv, heap_alloc_new _ _, rfl⟩
      refine relSto rfl rfl (fun w hw => fill_take rfl rfl fun v hv => fill_end (relOp_yes rfl ?_)) ?_
      · obtain ⟨g, l, rfl, h1, h2, h3⟩ := hv
        exact relRes_storeRX (zs32.map bv) h2 h3 h1 _ _ rfl rfl rfl rfl (by kernel_rfl) rfl
      refine relMove RX.refl rfl rfl rfl rfl _ (.inr rfl) (by conv => lhs; whnf) (by simp only [List.set_cons_succ, List.set_cons_zero]; rfl) ?_
      refine relMove RX.refl rfl rfl rfl rfl _ (.inr rfl) (by conv => lhs; whnf) (by simp only [List.set_cons_succ, List.set_cons_zero]; rfl) ?_
      refine relEnd fun wd hwd => fill_take rfl rfl fun v hv => fill_end ?_
      obtain ⟨_, _, rfl, _⟩ := hv
      simp only [List.set_cons_succ, List.set_cons_zero]
      have bcd := hwd.drew
      have bwd := bwc.trans (bcd.mono bwc.size)
      have aXd := aXc.below bcd
      have rhd := hrh.below bwd
      have rfd := hrf.below bwd
      clear aXc bcd hwd bwc rhc rfc
      go_upto_region 21 with fail
      refine wp_region_rel [(17, fun v w' => ∃ g l, v = .pointer (some ⟨g, 0, none⟩) ∧ wd.heap.size ≤ g ∧ Av w' g 28 l ∧ l.length = 32)] (RX wd.heap.size) (by kernel_rfl) (by kernel_rfl) (by kernel_rfl) RX.refl RX.trans (by
        intro p hp v w w' hR
        simp only [List.mem_singleton] at hp
        subst hp
        rintro ⟨g, l, e, h1, h2, h3⟩
        obtain ⟨l', q1, q2⟩ := hR.rows g l h2 h3
        exact ⟨g, l', e, h1, q1, q2⟩) ?_
      refine relPure RX.refl rfl rfl rfl rfl (fun w _ => by go_simp; first | done | rfl) (by simp only [List.set_cons_succ, List.set_cons_zero]; rfl) ?_
      refine relPure RX.refl rfl rfl rfl rfl (c := .int .u32 (tot : Int)) (fun w hw => by have := (aXd.below hw.drew).cell 0 _ rfl; go_simp; first | done | rfl) (by simp only [List.set_cons_succ, List.set_cons_zero]; rfl) ?_
      refine relPure RX.refl rfl rfl rfl rfl (fun w _ => by go_simp; first | done | rfl) (by simp only [List.set_cons_succ, List.set_cons_zero]; rfl) ?_
      refine relPure RX.refl rfl rfl rfl rfl (c := .slice Ah nh ch) (fun w hw => by have := (aXd.below hw.drew).cell 1 _ rfl; go_simp; first | done | rfl) (by simp only [List.set_cons_succ, List.set_cons_zero]; rfl) ?_
      refine relPure RX.refl rfl rfl rfl rfl (fun w _ => by go_simp; first | done | rfl) (by simp only [List.set_cons_succ, List.set_cons_zero]; rfl) ?_
      refine relPure RX.refl rfl rfl rfl rfl (c := .slice Af nf cf) (fun w hw => by have := (aXd.below hw.drew).cell 2 _ rfl; go_simp; first | done | rfl) (by simp only [List.set_cons_succ, List.set_cons_zero]; rfl) ?_
      refine relPure RX.refl rfl rfl rfl rfl (fun w _ => by go_simp; first | done | rfl) (by simp only [List.set_cons_succ, List.set_cons_zero]; rfl) ?_
      refine relPure RX.refl rfl rfl rfl rfl (c := .slice Af nf cf) (fun w hw => by have := (aXd.below hw.drew).cell 2 _ rfl; go_simp; first | done | rfl) (by simp only [List.set_cons_succ, List.set_cons_zero]; rfl) ?_
      refine relPure RX.refl rfl rfl rfl rfl (fun w _ => by go_simp; first | done | rfl) (by simp only [List.set_cons_succ, List.set_cons_zero]; rfl) ?_
      refine relPure RX.refl rfl rfl rfl rfl (c := .int .i64 (k2 : Int)) (fun w hw => by have := s2.out; have := s2'.out; have := s4.out; go_simp; first | done | rfl) (by simp only [List.set_cons_succ, List.set_cons_zero]; rfl) ?_
      refine relPure RX.refl rfl rfl rfl rfl (c := .slice Af k2 cf) (fun w _ => by go_simp; first | done | rfl) (by simp only [List.set_cons_succ, List.set_cons_zero]; rfl) ?_
      refine relPure RX.refl rfl rfl rfl rfl (c := .agg (trc tot Ah nh ch Af k2 cf).toArray) (fun w _ => by kernel_rfl) (by simp only [List.set_cons_succ, List.set_cons_zero]; rfl) ?_
      refine relCall1 rfl rfl rfl rfl (c := .tuple #[.agg (hcs zs32), .slice none 0 0, .int .i64 13]) 10 #[.agg (trc tot Ah nh ch Af k2 cf).toArray] (fun w => by go_simp) (fun w hw => (HM4'.out w (rhd.below hw.drew) (rfT.out _ (rfd.below hw.drew)) (hT.below (bwd.trans (hw.drew.mono bwd.size)))).mono (by rintro e w' ⟨b1, rfl⟩; exact ⟨rfl, RX.of b1 hw.below.size⟩)) (by simp only [List.set_cons_succ, List.set_cons_zero]; rfl) ?_
      refine relMove RX.refl rfl rfl rfl rfl _ (.inl rfl) (by conv => lhs; whnf) (by simp only [List.set_cons_succ, List.set_cons_zero]; rfl) ?_
      refine relPure RX.refl rfl rfl rfl rfl (fun w _ => by go_simp; first | done | rfl) (by simp only [List.set_cons_succ, List.set_cons_zero]; rfl) ?_
      refine relPure RX.refl rfl rfl rfl rfl (fun w _ => by go_simp; first | done | rfl) (by simp only [List.set_cons_succ, List.set_cons_zero]; rfl) ?_
      refine relPure RX.refl rfl rfl rfl rfl (fun w _ => by go_simp; first | done | rfl) (by simp only [List.set_cons_succ, List.set_cons_zero]; rfl) ?_
      refine relWord _ rfl (fun w hw => fill_none rfl (relOp_yes rfl ?_)) ?_
      · go_simp
        exact ⟨RX.of ((Below.refl _ _).alloc (Nat.le_refl _) _) hw.below.size, _, rfl, hw.below.size, zs32.map bv, heap_alloc_new _ _, rfl⟩
      refine relSto rfl rfl (fun w hw => fill_take rfl rfl fun v hv => fill_end (relOp_yes rfl ?_)) ?_
      · obtain ⟨g, l, rfl, h1, h2, h3⟩ := hv
        exact relRes_storeRX (zs32.map bv) h2 h3 h1 _ _ rfl rfl rfl rfl (by kernel_rfl) rfl
      refine relMove RX.refl rfl rfl rfl rfl _ (.inr rfl) (by conv => lhs; whnf) (by simp only [List.set_cons_succ, List.set_cons_zero]; rfl) ?_
      refine relMove RX.refl rfl rfl rfl rfl _ (.inr rfl) (by conv => lhs; whnf) (by simp only [List.set_cons_succ, List.set_cons_zero]; rfl) ?_
      refine relEnd fun we hwe => fill_take rfl rfl fun v hv => fill_end ?_
      obtain ⟨_, _, rfl, _⟩ := hv
      simp only [List.set_cons_succ, List.set_cons_zero]
      have bde := hwe.drew
      have bwe := bwd.trans (bde.mono bwd.size)
      have aXe := aXd.below bde
      have d1e := aXe.cell 1 _ rfl
      go_wp2
      go_ret
      exact ⟨rfl, bwe⟩
theorem law_PartialFinds (tot : Nat) (hs : List (List UInt8)) (fl : List UInt8) (Ah Af : Option Addr) (nh ch nf cf : Nat) (htot : tot < 4294967296) (hnh : hs.length = nh) (h32 : All32 hs) (hch : nh ≤ ch) (hnf : fl.length = nf) (hcf : nf ≤ cf) (y : List UInt8) (y32 : y.length = 32) (b : UInt8) (w : World) (hrh : Rd w Ah (hcl hs)) (hrf : Rd w Af (fl.map bv)) (hT : Tabs w) : Calls Tryd.prog 3 #[.agg (trc tot Ah nh ch Af nf cf).toArray, .agg (hcs y), .int .u8 (b.toNat : Int)] w fun e w' => e = .returned (.bool true) ∧ Below w.heap.size w w' := by
  by_cases h1 : 60 < nh
  · exact pfinds_0 tot Ah Af nh ch nf cf y b h1 w hT
  by_cases h2 : 60 < nf
  · exact pfinds_1 tot Ah Af nh ch nf cf y b (by omega) h2 w hT
  cases hx : pExt tot hs fl with
  | none => exact pfinds_2 tot hs fl Ah Af nh ch nf cf htot hnh h32 hch hnf hcf y y32 b w hrh hrf hT (by omega) (by omega) hx
  | some r => exact pfinds_3 tot hs fl Ah Af nh ch nf cf htot hnh h32 hch hnf hcf y y32 b w hrh hrf hT (by omega) (by omega) r hx
end Go.Proofs.YtmdllemgjhkphaaDoor
/- What came in, opened: hashes; slices of whatever elements; bytes. -/
namespace Go.Proofs.YtmdllemgjhkphaaDoor
open Go.RowKit Go.ChangeShapes Go.WideShapes Go.ChangeAt

theorem mapM_each {α β : Type} {f : α → Option β} : ∀ {l : List α} {ys : List β}, l.mapM f = some ys → ∀ x ∈ l, ∃ y, f x = some y
  | [], _, _, x, hx => by cases hx
  | a :: l, ys, h, x, hx => by
    rw [List.mapM_cons] at h
    cases ha : f a with
    | none => rw [ha] at h; cases h
    | some y =>
      rw [ha] at h
      cases hl : l.mapM f with
      | none => rw [hl] at h; cases h
      | some zs =>
        rcases List.mem_cons.1 hx with rfl | hx
        · exact ⟨y, ha⟩
        · exact mapM_each hl x hx
theorem flat_get {α : Type} (g : α → List Value) (s : Nat) : ∀ (l : List α) (_ : ∀ x ∈ l, (g x).length = s) (i j : Nat) (x : α) (_ : l[i]? = some x) (_ : j < s), (l.flatMap g)[s * i + j]? = (g x)[j]?
  | [], _, i, j, x, hx, _ => by simp at hx
  | y :: l, h, 0, j, x, hx, hj => by
    obtain rfl : y = x := by simpa using hx
    rw [List.flatMap_cons, Nat.mul_zero, Nat.zero_add, List.getElem?_append_left (by rw [h y (List.mem_cons_self ..)]; exact hj)]
  | y :: l, h, i + 1, j, x, hx, hj => by
    have hy := h y (List.mem_cons_self ..)
    rw [List.flatMap_cons, List.getElem?_append_right (by rw [hy, Nat.mul_add]; omega), hy, show s * (i + 1) + j - s = s * i + j by rw [Nat.mul_add]; omega]
    exact flat_get g s l (fun x hx => h x (List.mem_cons_of_mem _ hx)) i j x (by simpa using hx) hj
section
variable {H : Type} {enc : TypeId × Value → H} {w : World} {base : Nat} {spare : Nat → Bool} {held : Bool}
theorem cells_u8 : Tryd.prog.cellsOf 5 = 1 := by kernel_rfl
theorem cells_h : Tryd.prog.cellsOf 28 = 32 := by kernel_rfl
set_option maxRecDepth 10000 in
theorem open_hash {fuel : Nat} {cs : List Value} {x : DataW H × List MemPlace} (h : DataW.trod enc Tryd.prog w base spare held fuel 28 cs = some x) : ∃ bs : List UInt8, bs.length = 32 ∧ cs = bs.map bv := by
  cases fuel with
  | zero => cases h
  | succ fuel =>
    unfold DataW.trod at h
    rw [Tryd.underlying28] at h
    dsimp only at h
    rw [cells_h, cells_u8] at h
    split at h
    · rename_i hlen
      have hm : ∃ ys, (List.range 32).mapM (fun i => DataW.trod enc Tryd.prog w base spare held fuel 5 ((cs.drop (i * 1)).take 1)) = some ys := by
        cases hq : (List.range 32).mapM (fun i => DataW.trod enc Tryd.prog w base spare held fuel 5 ((cs.drop (i * 1)).take 1)) with
        | none => rw [hq] at h; cases h
        | some ys => exact ⟨ys, rfl⟩
      obtain ⟨ys, hm⟩ := hm
      have each : ∀ i, i < 32 → ∃ n : Int, cs[i]? = some (.int .u8 n) ∧ (Lit.int .u8 n).wf = true := by
        intro i hi
        obtain ⟨y, hy⟩ := mapM_each hm i (List.mem_range.2 hi)
        obtain ⟨n, hn, _, hw⟩ := DataW.trod_int Tryd.underlying5 hy
        refine ⟨n, ?_, hw⟩
        have : (List.take 1 (cs.drop (i * 1)))[0]? = some (.int .u8 n) := by rw [hn]; rfl
        simpa using this
      refine ⟨cs.map fun v => match v with | .int _ n => UInt8.ofNat n.toNat | _ => 0, by rw [List.length_map, hlen], ?_⟩
      rw [List.map_map]
      refine List.ext_getElem? fun i => ?_
      rw [List.getElem?_map]
      by_cases hi : i < 32
      · obtain ⟨n, hn, hw⟩ := each i hi
        rw [hn]
        have hb : 0 ≤ n ∧ n ≤ 255 := by simpa [Lit.wf, IntKind.min, IntKind.max, IntKind.signed, IntKind.bits] using hw
        have e : ((UInt8.ofNat n.toNat).toNat : Int) = n := by
          have : (UInt8.ofNat n.toNat).toNat = n.toNat % 256 := UInt8.toNat_ofNat'
          rw [this]; omega
        show some (Value.int IntKind.u8 n) = some (Value.int IntKind.u8 ((UInt8.ofNat n.toNat).toNat : Int))
        rw [e]
      · rw [List.getElem?_eq_none (by omega)]
        rfl
    · cases h
set_option maxRecDepth 10000 in
/-- a slice of elements that came in, each of which is known -/
theorem open_elems {α : Type} [Inhabited α] {t e : TypeId} {s : Nat} (ht : Tryd.prog.underlying t = some (.slice e)) (hc : Tryd.prog.cellsOf e = s) (hs : 0 < s) (g : α → List Value) (ok : α → Prop) (hg : ∀ x, ok x → (g x).length = s)
    (hop : ∀ (fuel : Nat) (cs : List Value) (y : DataW H × List MemPlace), DataW.trod enc Tryd.prog w base spare held fuel e cs = some y → ∃ x, cs = g x ∧ ok x)
    {fuel : Nat} {A : Option Addr} {n c : Nat} {x : DataW H × List MemPlace} (h : DataW.trod enc Tryd.prog w base spare held fuel t [.slice A n c] = some x) :
    ∃ l : List α, l.length = n ∧ n ≤ c ∧ c ≤ maxLen ∧ Rd w A (l.flatMap g) ∧ ∀ y ∈ l, ok y := by
  rcases Go.Deep.open_slice ht h with ⟨hcs, _⟩ | ⟨a, len, cap, m, k, D, Pl, hcs, _, hl, hm, hmm, _, hx⟩
  · simp at hcs
    obtain ⟨rfl, rfl, rfl⟩ := hcs
    exact ⟨[], rfl, Nat.le_refl _, (by decide), Rd.nil _ _, fun _ hx => (by cases hx)⟩
  · simp at hcs
    obtain ⟨rfl, rfl, rfl⟩ := hcs
    have hlm : n ≤ m := by rw [hmm]; split <;> omega
    rw [hc] at hx
    obtain ⟨f, hf⟩ := Go.Deep.choose_lt (α := α) (n := n) (p := fun i y => ok y ∧ w.cells? base (a.add (i * s)) s = some (g y)) (fun i hi => by
      obtain ⟨cs', h1, h2⟩ := hx i (by omega)
      obtain ⟨y, hb1, hb2⟩ := hop _ _ _ h2
      exact ⟨y, hb2, by rw [h1, hb1]⟩)
    have hlen : ((List.range n).map f).length = n := by simp
    have hok : ∀ y ∈ (List.range n).map f, ok y := fun y hy => by
      obtain ⟨i, hi, rfl⟩ := List.mem_map.1 hy
      exact (hf i (List.mem_range.1 hi)).1
    refine ⟨(List.range n).map f, hlen, hl, hm, ?_, hok⟩
    by_cases hn : n = 0
    · subst hn
      exact Rd.nil _ _
    · have hcell : ∀ i r, i < n → r < s → w.cell? ((a.add (i * s)).add r) = (g (f i))[r]? := fun i r hi hr => (World.cells?_some (hf i hi).2).2.2 r hr
      have hsp : a.spot = none := by
        have h0 := hcell 0 0 (by omega) hs
        have hl0 := hg _ (hf 0 (by omega)).1
        rw [List.getElem?_eq_getElem (by omega)] at h0
        cases hsp : a.spot with
        | none => rfl
        | some s =>
          simp [World.cell?, Addr.add, hsp] at h0
          split at h0 <;> simp at h0
      have ha : a = ⟨a.block, a.off, none⟩ := by cases a; simp_all
      refine .inr ⟨a.block, a.off, by rw [← ha], fun j u hu => ?_⟩
      have hflat : (((List.range n).map f).flatMap g).length = n * s := by
        have : ∀ l : List α, (∀ y ∈ l, (g y).length = s) → (l.flatMap g).length = l.length * s := by
          intro l
          induction l with
          | nil => simp
          | cons y l ih =>
            intro h
            rw [List.flatMap_cons, List.length_append, h y (List.mem_cons_self ..), ih fun z hz => h z (List.mem_cons_of_mem _ hz), List.length_cons, Nat.add_mul, Nat.one_mul, Nat.add_comm]
        rw [this _ fun y hy => hg y (hok y hy), hlen]
      have hj : j < n * s := by
        have := (List.getElem?_eq_some_iff.1 hu).1
        rw [hflat] at this
        exact this
      have hi : j / s < n := Nat.div_lt_of_lt_mul (by rw [Nat.mul_comm]; exact hj)
      have hr : j % s < s := Nat.mod_lt _ hs
      have hdm : s * (j / s) + j % s = j := Nat.div_add_mod j s
      have hgd : ((List.range n).map f)[j / s]? = some (f (j / s)) := by
        rw [List.getElem?_map, List.getElem?_range hi]
        rfl
      have hq := flat_get g s ((List.range n).map f) (fun y hy => hg y (hok y hy)) (j / s) (j % s) _ hgd hr
      rw [hdm] at hq
      rw [hq] at hu
      have hcl := hcell (j / s) (j % s) hi hr
      rw [hu, ha, addr_add, addr_add] at hcl
      rw [← hcl]
      congr 2
      rw [Nat.add_assoc, Nat.mul_comm (j / s) s, hdm]
theorem map_flat : ∀ l : List UInt8, l.map bv = l.flatMap fun b => [bv b]
  | [] => rfl
  | x :: l => by rw [List.map_cons, List.flatMap_cons, map_flat l]; rfl
/-- bytes that came in -/
theorem open_bytes {fuel : Nat} {A : Option Addr} {n c : Nat} {x : DataW H × List MemPlace} (h : DataW.trod enc Tryd.prog w base spare held fuel 24 [.slice A n c] = some x) :
    ∃ bs : List UInt8, bs.length = n ∧ n ≤ c ∧ c ≤ maxLen ∧ Rd w A (bs.map bv) := by
  obtain ⟨l, h1, h2, h3, h4, _⟩ := open_elems Tryd.underlying24 cells_u8 (by decide) (fun b : UInt8 => [bv b]) (fun _ => True) (fun _ _ => rfl) (fun fuel cs y hy => by
    obtain ⟨n, hn, _, hw⟩ := DataW.trod_int Tryd.underlying5 hy
    have hb : 0 ≤ n ∧ n ≤ 255 := by simpa [Lit.wf, IntKind.min, IntKind.max, IntKind.signed, IntKind.bits] using hw
    refine ⟨UInt8.ofNat n.toNat, ?_, trivial⟩
    have e : ((UInt8.ofNat n.toNat).toNat : Int) = n := by
      have : (UInt8.ofNat n.toNat).toNat = n.toNat % 256 := UInt8.toNat_ofNat'
      rw [this]; omega
    rw [hn, bv, e]) h
  refine ⟨l, h1, h2, h3, ?_⟩
  rw [map_flat]
  exact h4
end
end Go.Proofs.YtmdllemgjhkphaaDoor
/- What came in, opened: slices of hashes. -/
namespace Go.Proofs.YtmdllemgjhkphaaDoor
open Go.RowKit Go.ChangeShapes Go.WideShapes Go.ChangeAt

section
variable {H : Type} {enc : TypeId × Value → H} {w : World} {base : Nat} {spare : Nat → Bool} {held : Bool}
/-- a slice of hashes that came in -/
theorem open_hashes {fuel : Nat} {A : Option Addr} {n c : Nat} {x : DataW H × List MemPlace} (h : DataW.trod enc Tryd.prog w base spare held fuel 23 [.slice A n c] = some x) :
    ∃ l : List (List UInt8), l.length = n ∧ All32 l ∧ n ≤ c ∧ c ≤ maxLen ∧ Rd w A (hcl l) := by
  rcases Go.Deep.open_slice Tryd.underlying23 h with ⟨hcs, _⟩ | ⟨a, len, cap, m, k, D, Pl, hcs, _, hl, hm, hmm, _, hx⟩
  · simp at hcs
    obtain ⟨rfl, rfl, rfl⟩ := hcs
    exact ⟨[], rfl, fun _ hx => (by cases hx), Nat.le_refl _, (by decide), Rd.nil _ _⟩
  · simp at hcs
    obtain ⟨rfl, rfl, rfl⟩ := hcs
    have hlm : n ≤ m := by rw [hmm]; split <;> omega
    rw [cells_h] at hx
    obtain ⟨f, hf⟩ := Go.Deep.choose_lt (α := List UInt8) (n := n) (p := fun i bs => bs.length = 32 ∧ w.cells? base (a.add (i * 32)) 32 = some (bs.map bv)) (fun i hi => by
      obtain ⟨cs', h1, h2⟩ := hx i (by omega)
      obtain ⟨bs, hb1, hb2⟩ := open_hash h2
      exact ⟨bs, hb1, by rw [h1, hb2]⟩)
    have hlen : ((List.range n).map f).length = n := by simp
    have h32 : All32 ((List.range n).map f) := fun y hy => by
      obtain ⟨i, hi, rfl⟩ := List.mem_map.1 hy
      exact (hf i (List.mem_range.1 hi)).1
    refine ⟨(List.range n).map f, hlen, h32, hl, hm, ?_⟩
    by_cases hn : n = 0
    · subst hn
      exact Rd.nil _ _
    · have hcell : ∀ i r, i < n → r < 32 → w.cell? ((a.add (i * 32)).add r) = ((f i).map bv)[r]? := fun i r hi hr => (World.cells?_some (hf i hi).2).2.2 r hr
      have hs : a.spot = none := by
        have h0 := hcell 0 0 (by omega) (by omega)
        have hl0 := (hf 0 (by omega)).1
        rw [List.getElem?_map, List.getElem?_eq_getElem (by omega)] at h0
        cases hsp : a.spot with
        | none => rfl
        | some s =>
          simp [World.cell?, Addr.add, hsp] at h0
          split at h0 <;> simp at h0
      have ha : a = ⟨a.block, a.off, none⟩ := by cases a; simp_all
      refine .inr ⟨a.block, a.off, by rw [← ha], fun j u hu => ?_⟩
      have hj : j < 32 * n := by
        have := (List.getElem?_eq_some_iff.1 hu).1
        rw [hcl_length h32, hlen] at this
        exact this
      have hg := hcl_get h32 (j / 32) (j % 32) (by rw [hlen]; omega) (by omega)
      rw [show 32 * (j / 32) + j % 32 = j by omega] at hg
      rw [hg] at hu
      have hgd : ((List.range n).map f).getD (j / 32) [] = f (j / 32) := by
        rw [List.getD_eq_getElem?_getD, List.getElem?_map, List.getElem?_range (by omega)]
        rfl
      rw [hgd] at hu
      have hcl := hcell (j / 32) (j % 32) (by omega) (by omega)
      rw [hu, ha, addr_add, addr_add] at hcl
      rw [← hcl]
      congr 2
      omega
end
end Go.Proofs.YtmdllemgjhkphaaDoor
/- What came in, opened: slices of bools, parts of a tree. -/
namespace Go.Proofs.YtmdllemgjhkphaaDoor
open Go.RowKit Go.ChangeShapes Go.WideShapes Go.ChangeAt
section
variable {H : Type} {enc : TypeId × Value → H} {w : World} {base : Nat} {spare : Nat → Bool} {held : Bool}
theorem cells_bool : Tryd.prog.cellsOf 4 = 1 := by kernel_rfl
theorem map_flatB : ∀ l : List Bool, l.map Value.bool = l.flatMap fun b => [Value.bool b]
  | [] => rfl
  | x :: l => by rw [List.map_cons, List.flatMap_cons, map_flatB l]; rfl
theorem open_boolsP {fuel : Nat} {A : Option Addr} {n c : Nat} {x : DataW H × List MemPlace} (h : DataW.trod enc Tryd.prog w base spare held fuel 39 [.slice A n c] = some x) :
    ∃ bs : List Bool, bs.length = n ∧ n ≤ c ∧ c ≤ maxLen ∧ Rd w A (bs.map Value.bool) := by
  obtain ⟨l, h1, h2, h3, h4, _⟩ := open_elems Tryd.underlying39 cells_bool (by decide) (fun b : Bool => [Value.bool b]) (fun _ => True) (fun _ _ => rfl) (fun fuel cs y hy => by
    obtain ⟨b, hb, _⟩ := DataW.trod_bool Tryd.underlying4 hy
    exact ⟨b, hb, trivial⟩) h
  refine ⟨l, h1, h2, h3, ?_⟩
  rw [map_flatB]
  exact h4
theorem one_at {cs : List Value} {i : Nat} {v : Value} (h : (cs.drop i).take 1 = [v]) : cs[i]? = some v := by
  have : ((cs.drop i).take 1)[0]? = some v := by rw [h]; rfl
  simpa using this
theorem okWide_arrayP {P : Program} {w : World} {r : Reach} {base : Nat} {t : TypeId} {v : Value} {n : Nat} {e : TypeId} (ht : P.underlying t = some (.array n e)) (h : Value.okWide P w r base t v) : ∃ cs, v = .agg cs := by
  simp only [Value.okWide, ht] at h
  obtain ⟨cs, h1, _⟩ := h
  exact ⟨cs, h1⟩
/-- a part that came in -/
theorem open_part {fuel : Nat} {cs : List Value} {y : DataW H × List MemPlace} (h : DataW.trod enc Tryd.prog w base spare held fuel 26 cs = some y) :
    ∃ (tot : Nat) (hs : List (List UInt8)) (fl : List UInt8) (Ah Af : Option Addr) (nh ch nf cf : Nat), cs = trc tot Ah nh ch Af nf cf ∧ tot < 4294967296 ∧ hs.length = nh ∧ All32 hs ∧ nh ≤ ch ∧ ch ≤ maxLen ∧ Rd w Ah (hcl hs) ∧ fl.length = nf ∧ nf ≤ cf ∧ cf ≤ maxLen ∧ Rd w Af (fl.map bv) := by
  obtain ⟨y0, y1, y2, n, _, hl, h0, h1, h2⟩ := Go.Deep.trod_struct3 Tryd.underlying26 h
  rw [show Tryd.prog.cellsOf 26 = 3 by kernel_rfl] at hl
  dsimp only at h0 h1 h2
  rw [show Tryd.prog.cellsOf 22 = 1 by kernel_rfl] at h0
  rw [show Tryd.prog.cellsOf 23 = 1 by kernel_rfl] at h1
  rw [show Tryd.prog.cellsOf 24 = 1 by kernel_rfl] at h2
  obtain ⟨i, e0, _, w0⟩ := DataW.trod_int Tryd.underlying22 h0
  have b0 : 0 ≤ i ∧ i ≤ 4294967295 := by simpa [Lit.wf, IntKind.min, IntKind.max, IntKind.signed, IntKind.bits] using w0
  have s1 : ∃ A n c, (cs.drop 1).take 1 = [.slice A n c] := by
    rcases Go.Deep.open_slice Tryd.underlying23 h1 with ⟨hcs, _⟩ | ⟨a, len, cap, m, k, D, Pl, hcs, _⟩
    · exact ⟨none, 0, 0, hcs⟩
    · exact ⟨_, _, _, hcs⟩
  have s2 : ∃ A n c, (cs.drop 2).take 1 = [.slice A n c] := by
    rcases Go.Deep.open_slice Tryd.underlying24 h2 with ⟨hcs, _⟩ | ⟨a, len, cap, m, k, D, Pl, hcs, _⟩
    · exact ⟨none, 0, 0, hcs⟩
    · exact ⟨_, _, _, hcs⟩
  obtain ⟨A1, n1, c1, e1⟩ := s1
  obtain ⟨A2, n2, c2, e2⟩ := s2
  rw [e1] at h1
  rw [e2] at h2
  obtain ⟨l, l1, l2, l3, l4, l5⟩ := open_hashes h1
  obtain ⟨m, m1, m2, m3, m4⟩ := open_bytes h2
  have g0 := one_at e0
  have g1 := one_at e1
  have g2 := one_at e2
  refine ⟨i.toNat, l, m, A1, A2, n1, c1, n2, c2, ?_, by omega, l1, l2, l3, l4, l5, m1, m2, m3, m4⟩
  match cs, hl with
  | [a, b, d], _ =>
    simp only [List.getElem?_cons_zero, List.getElem?_cons_succ, Option.some.injEq] at g0 g1 g2
    unfold trc
    rw [g0, g1, g2, show ((i.toNat : Nat) : Int) = i by omega]
end
end Go.Proofs.YtmdllemgjhkphaaDoor
namespace Go.Proofs.YtmdllemgjhkphaaDoor.partialFinds
open Go.ChangeShapes Go.WideShapes Go.ChangeAt Go.RowKit
theorem own : ownKnob Tryd.prog.godebug = Option.none := by kernel_rfl
theorem laidOut : laidOutB Tryd.prog = true := by kernel_rfl

set_option maxRecDepth 100000 in
theorem contract (H : Type) (enc : TypeId × Value → H) (W : World) (base : Nat) (args : Array Value) (ds gs : List (DataW H)) (before : List MemPlace)
    (hval : ∀ (j : Nat) t v, Tryd.f3.params[j]? = some t → args[j]? = some v → Value.okWide Tryd.prog W .any base t v)
    (hW : DataW.Whole enc Tryd.prog Tryd.f3.params.toList Rows.partialFindsSpec.vars false W args.toList ds gs before) (hL : laidMetH Tryd.prog Rows.partialFindsRow.laid W) :
    Calls Tryd.prog 3 args W fun e W' => ∃ v, e = .returned v ∧ Rows.partialFindsSpec.post enc Tryd.prog Tryd.f3 false true false false W args v W' := by
  have hW' := hW
  obtain ⟨p, q, hA0, hV, rfl, hfz, hnd⟩ := hW
  have hA : DataW.TrodAll enc Tryd.prog W 0 (fun _ => true) true Tryd.f3.params.toList args.toList ds p := hA0
  rw [Tryd.params3] at hA hval
  obtain ⟨v0, vs0, d0, ds0, p0, q0, hargs, rfl, rfl, h0, r0⟩ := trodAll_cons hA
  obtain ⟨v1, vs1, d1, ds1, p1, q1, rfl, rfl, rfl, h1, r1⟩ := trodAll_cons r0
  obtain ⟨v2, vs2, d2, ds2, p2, q2, rfl, rfl, rfl, h2, r2⟩ := trodAll_cons r1
  obtain ⟨rfl, rfl, rfl⟩ := trodAll_nil r2
  obtain rfl : args = #[v0, v1, v2] := by cases args; simp_all
  obtain ⟨rfl, rfl⟩ := trodVars_none hV
  have k0 := h0
  have lt0 : ∀ x ∈ p0, x.block < W.heap.size := by obtain ⟨m, hm⟩ := k0; exact DataW.trod_lt m _ _ _ hm
  have k1 := h1
  have lt1 : ∀ x ∈ p1, x.block < W.heap.size := by obtain ⟨m, hm⟩ := k1; exact DataW.trod_lt m _ _ _ hm
  have k2 := h2
  have lt2 : ∀ x ∈ p2, x.block < W.heap.size := by obtain ⟨m, hm⟩ := k2; exact DataW.trod_lt m _ _ _ hm
  obtain ⟨cs0, rfl, hsz0⟩ := okWide_struct Tryd.underlying26 (hval 0 26 v0 rfl rfl)
  obtain ⟨fuel0, hf0⟩ := h0
  obtain ⟨tot0, hs0, fl0, Ah0, Af0, nh0, ch0, nf0, cf0, hcs0, ht0, hnh0, h320, hch0, hcx0, rH0, hnf0, hcf0, hcy0, rF0⟩ := open_part hf0
  obtain rfl : cs0 = (trc tot0 Ah0 nh0 ch0 Af0 nf0 cf0).toArray := by
    cases cs0
    simpa [Value.cells] using hcs0
  obtain ⟨cs1, rfl⟩ := okWide_arrayP Tryd.underlying28 (hval 1 28 v1 rfl rfl)
  obtain ⟨fuel1, hf1⟩ := h1
  obtain ⟨y1, yl1, hcs1⟩ := open_hash hf1
  obtain rfl : cs1 = hcs y1 := by
    cases cs1
    simpa [Value.cells] using hcs1
  obtain ⟨z2, rfl, _, _, w2⟩ := open_int Tryd.underlying5 (hval 2 5 v2 rfl rfl) h2
  have zb2 : 0 ≤ z2 ∧ z2 ≤ 255 := by simpa [Lit.wf, IntKind.min, IntKind.max, IntKind.signed, IntKind.bits] using w2
  obtain ⟨x2, rfl⟩ : ∃ x : UInt8, z2 = (x.toNat : Int) := ⟨UInt8.ofNat z2.toNat, by
    have : (UInt8.ofNat z2.toNat).toNat = z2.toNat % 256 := UInt8.toNat_ofNat'
    rw [this]; omega⟩
  have ht : Tabs W := tabs_of_laid hL
  clear hA0
  refine (law_PartialFinds tot0 hs0 fl0 Ah0 Af0 nh0 ch0 nf0 cf0 ht0 hnh0 h320 hch0 hnf0 hcf0 y1 yl1 x2 W rH0 rF0 ht).mono fun e W' ⟨he, bel⟩ => ?_
  subst he
  exact ⟨_, rfl, _, _, _, [], _, [], hW', trodAll_mk1 (shut_bool Tryd.underlying4 _), (trodAll_cons_mk (Below.trod laidOut (by kernel_rfl) (of_decide_eq_true (by kernel_rfl)) k0 bel lt0) (trodAll_cons_mk (Below.trod laidOut (by kernel_rfl) (of_decide_eq_true (by kernel_rfl)) k1 bel lt1) (trodAll_cons_mk (Below.trod laidOut (by kernel_rfl) (of_decide_eq_true (by kernel_rfl)) k2 bel lt2) trodAll_mk0))), rfl, bel.frame _, fun h => by cases h⟩

theorem laid_met (os : Os) : laidMet Tryd.prog Rows.partialFindsRow.laid (((tabWorld os)).forCall (fun _ _ => 0) ⟨#[], #[.agg #[.int .u32 0, .slice none 0 0, .slice none 0 0], .agg (List.replicate 32 (Value.int .u8 0)).toArray, .int .u8 0], []⟩).memory :=
  laidMet_of_run' 8 (by kernel_rfl) (by kernel_rfl)
theorem reads (os : Os) {H : Type} (enc : TypeId × Value → H) : ∃ places, DataW.whole enc Tryd.prog ((tabWorld os).forCall (fun _ _ => 0) ⟨#[], #[.agg #[.int .u32 0, .slice none 0 0, .slice none 0 0], .agg (List.replicate 32 (Value.int .u8 0)).toArray, .int .u8 0], []⟩).memory Tryd.f3.params.toList Rows.partialFindsSpec.vars false #[(.agg #[.int .u32 0, .slice none 0 0, .slice none 0 0] : Value), (.agg (List.replicate 32 (Value.int .u8 0)).toArray : Value), (.int .u8 0 : Value)].toList 8 = some ([.agg [.lit (.int .u32 0), .nil, .nil], .agg (List.replicate 32 (.lit (.int .u8 0))), .lit (.int .u8 0)], [], places) :=
  ⟨[], by kernel_rfl⟩

set_option maxRecDepth 100000 in
theorem lifted (os : Os) (started : os.Started) (H : Type) (enc : TypeId × Value → H) (F : Stop.Interp) :
    ReturnsInHanded {} Tryd.checked os 3 .any ((OpenSpec.ofChange Rows.partialFindsSpec).preRow enc Tryd.prog Tryd.f3 Rows.partialFindsRow.domain false Rows.partialFindsRow.laid) (((OpenSpec.ofChange Rows.partialFindsSpec).at F).post enc Tryd.prog Tryd.f3 false true false false) := by
  obtain ⟨places, hx⟩ := reads os enc
  refine returnsInHanded_of_row (C := Tryd.checked) (s := OpenSpec.ofChange Rows.partialFindsSpec) own started (by kernel_rfl) Tryd.func3
    (witness_row_at (enc := enc) (C := Tryd.checked) false (tabWorld os) #[.agg #[.int .u32 0, .slice none 0 0, .slice none 0 0], .agg (List.replicate 32 (Value.int .u8 0)).toArray, .int .u8 0] rfl (by kernel_rfl) (by kernel_rfl) (by kernel_rfl)
      (OpenSpec.preRow_of_cond 8 hx (by kernel_rfl) (fun k hk => by cases hk) (by kernel_rfl) (laid_met os))) ?_
  intro W base args ds gs before hval hW _ _ _ hL _ _
  exact contract H enc W base args ds gs before hval hW hL

theorem said : Rows.PartialFindsSaid :=
  OpenClaim.holds_of_cond 3 Tryd.f3 rfl rfl rfl rfl rfl rfl rfl ⟨rfl, rfl, rfl, rfl, rfl⟩ rfl rfl rfl rfl rfl (by kernel_rfl) Tryd.func3 (by kernel_rfl)
    (of_decide_eq_true (by kernel_rfl)) (by unfold Func.isWrapper; first | (rw [if_pos (by decide +kernel)]; kernel_rfl) | (rw [if_neg (by decide +kernel)]; exact ⟨rfl, rfl⟩))
    (fun os started H enc _ F => by rw [OpenClaim.pre_eq_preRow]; exact lifted os started H enc F)

/-- No parameter wants a stand-in; the program's own looks are off. -/
theorem plain (f : FuncId) (fn : Func) (hf : Tryd.pinned.checked.prog.funcNamed "florin/florinlaw11.PartialFinds" = some f) (hfn : Tryd.pinned.checked.prog.funcs[f]? = some fn) :
    false = Tryd.pinned.checked.prog.looks [] ∧ ∀ (j : Nat) t, fn.params[j]? = some t → Tryd.pinned.checked.prog.wantsStandIn t = false := by
  obtain rfl : f = 3 := Option.some.inj ((show Tryd.prog.funcNamed "florin/florinlaw11.PartialFinds" = some 3 by kernel_rfl).symm.trans hf) |>.symm
  obtain rfl : fn = Tryd.f3 := (Option.some.inj (Tryd.func3.symm.trans hfn)).symm
  refine ⟨by kernel_rfl, fun j t ht => ?_⟩
  rw [Tryd.params3] at ht
  have := Array.mem_of_getElem? ht
  simp only [List.mem_toArray, List.mem_cons, List.not_mem_nil, or_false] at this
  rcases this with rfl | rfl | rfl
  · exact (show Tryd.prog.wantsStandIn 26 = false by kernel_rfl)
  · exact (show Tryd.prog.wantsStandIn 28 = false by kernel_rfl)
  · exact (show Tryd.prog.wantsStandIn 5 = false by kernel_rfl)

/-- The statement. -/
theorem card : Rows.PartialFindsCardSaid :=
  Claim7.holds_tied_plain_at .later [] _ _ _ _ said (fun _ h => by cases h) (by kernel_rfl) (fun _ h => by cases h) partialFinds_row_tie rfl ⟨rfl, rfl⟩ (by kernel_rfl) rfl plain (by kernel_rfl)
end Go.Proofs.YtmdllemgjhkphaaDoor.partialFinds

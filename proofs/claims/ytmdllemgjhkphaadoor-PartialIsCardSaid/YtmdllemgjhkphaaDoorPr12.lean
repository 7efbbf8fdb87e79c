/- Wid; Pm: put together for the claim. -/
import Derived.Test.YtmdllemgjhkphaaDoorRoot
/- Plain law: how wide each level is, how high a tree. -/
namespace Go.Proofs.YtmdllemgjhkphaaDoor
open Go.RowKit

theorem mLvF_len : ∀ (f : Nat) (l : List (List UInt8)), (mLvF f l).length ≤ f + 1
  | 0, l => by rw [mLvF]; simp
  | f + 1, l => by
    rw [mLvF]
    split
    · simp
    · rw [List.length_cons]; have := mLvF_len f (mUp l); omega
theorem mLv_len (l : List (List UInt8)) : (mLv l).length ≤ 13 := by
  rw [mLv]
  split
  · simp
  · exact mLvF_len 12 l
theorem ceil_step (n j : Nat) : ((n + 1) / 2 + 2 ^ j - 1) / 2 ^ j = (n + 2 ^ (j + 1) - 1) / 2 ^ (j + 1) := by
  have hp : 0 < 2 ^ j := Nat.pow_pos (by omega)
  rw [Nat.pow_succ, Nat.mul_comm (2 ^ j) 2, ← Nat.div_div_eq_div_mul]
  congr 1
  omega
theorem lvF_height : ∀ (f : Nat) (l : List (List UInt8)), 0 < l.length → l.length ≤ 2 ^ f →
    ∃ K, (mLvF f l).length = K + 1 ∧ K ≤ f ∧ (∀ j, j < K → 1 < (l.length + 2 ^ j - 1) / 2 ^ j) ∧ (l.length + 2 ^ K - 1) / 2 ^ K ≤ 1
  | 0, l, h0, hf => ⟨0, by rw [mLvF]; rfl, Nat.le_refl _, fun j hj => absurd hj (Nat.not_lt_zero _), by simp at hf ⊢; omega⟩
  | f + 1, l, h0, hf => by
    by_cases h1 : l.length ≤ 1
    · exact ⟨0, by rw [mLvF_one _ _ h1]; rfl, by omega, fun j hj => absurd hj (Nat.not_lt_zero _), by simp; omega⟩
    · have hpow : 2 ^ (f + 1) = 2 * 2 ^ f := by rw [Nat.pow_succ]; omega
      have hup := mUp_length l
      obtain ⟨K, k1, k2, k3, k4⟩ := lvF_height f (mUp l) (by omega) (by omega)
      rw [hup] at k3 k4
      refine ⟨K + 1, by rw [mLvF, if_neg h1, List.length_cons, k1], by omega, fun j hj => ?_, by rw [← ceil_step]; exact k4⟩
      cases j with
      | zero => simp; omega
      | succ j => rw [← ceil_step]; exact k3 j (by omega)
theorem mWidth_nat (n j : Nat) (hn : n ≤ 4096) (hj : j ≤ 12) : mWidth n j = (((n + 2 ^ j - 1) / 2 ^ j : Nat) : Int) := by
  have hp : 0 < 2 ^ j := Nat.pow_pos (by omega)
  rw [mWidth, if_neg (by omega), show min (max (n : Int) 0) 4096 = (n : Int) by omega, show (min (j : Int) 12).toNat = j by omega]
  rw [show (n : Int) + 2 ^ j - 1 = ((n + 2 ^ j - 1 : Nat) : Int) by rw [Int.ofNat_sub (by omega)]; simp]
  simp
/-- Height tells how many levels stand on the leaves. -/
theorem Height_levels (l : List (List UInt8)) (n : Nat) (hn : l.length = n) (h0 : 0 < n) (h1 : n ≤ 4096) (w : World) : Calls Tryd.prog 37 #[.int .i64 (n : Int)] w fun e w' => e = .returned (.int .i64 (((mLv l).length - 1 : Nat) : Int)) ∧ w' = w := by
  have hlv : mLv l = mLvF 12 l := by rw [mLv, if_neg (by omega)]
  obtain ⟨K, k1, k2, k3, k4⟩ := lvF_height 12 l (by omega) (by omega)
  rw [hlv, k1, Nat.add_sub_cancel]
  rw [hn] at k3 k4
  exact Height n K k2 (fun j hj => by rw [mWidth_nat n j h1 (by omega)]; have := k3 j hj; omega) (by rw [mWidth_nat n K h1 k2]; omega) w
end Go.Proofs.YtmdllemgjhkphaaDoor
/- Parts of a tree: what is read of one, as plain functions. -/
namespace Go.Proofs.YtmdllemgjhkphaaDoor
/-- how wide a level of a tree of n leaves is -/
def pWd (n h : Nat) : Nat := (n + 2 ^ h - 1) / 2 ^ h
theorem pWd_zero (n : Nat) : pWd n 0 = n := by simp [pWd]
theorem pWd_succ (n h : Nat) : pWd n (h + 1) = (pWd n h + 1) / 2 := by
  have hp : 0 < 2 ^ h := Nat.pow_pos (by omega)
  unfold pWd
  rw [Nat.pow_succ, ← Nat.div_div_eq_div_mul]
  congr 1
  rw [← Nat.add_div_right _ hp]
  congr 1
  omega
def pHtF (n : Nat) : Nat → Nat → Nat
  | 0, h => h
  | f + 1, h => if 1 < pWd n h then pHtF n f (h + 1) else h
/-- the level with one hash -/
def pHt (n : Nat) : Nat := pHtF n 12 0
theorem pHtF_spec (n : Nat) : ∀ (f h : Nat), n ≤ 2 ^ (f + h) → (∀ j, j < h → 1 < pWd n j) → (pHtF n f h ≤ f + h) ∧ (∀ j, j < pHtF n f h → 1 < pWd n j) ∧ pWd n (pHtF n f h) ≤ 1
  | 0, h, hn, hlo => by
    refine ⟨by simp [pHtF], hlo, ?_⟩
    rw [pHtF, pWd]
    have hp : 0 < 2 ^ h := Nat.pow_pos (by omega)
    rw [Nat.zero_add] at hn
    rw [Nat.div_le_iff_le_mul hp]
    omega
  | f + 1, h, hn, hlo => by
    rw [pHtF]
    split
    · rename_i h1
      have := pHtF_spec n f (h + 1) (by rw [show f + (h + 1) = f + 1 + h by omega]; exact hn) (fun j hj => by
        by_cases e : j = h
        · rw [e]; exact h1
        · exact hlo j (by omega))
      exact ⟨by omega, this.2⟩
    · rename_i h1
      exact ⟨by omega, hlo, by omega⟩
theorem pHt_spec (n : Nat) (hn : n ≤ 4096) : pHt n ≤ 12 ∧ (∀ j, j < pHt n → 1 < pWd n j) ∧ pWd n (pHt n) ≤ 1 :=
  pHtF_spec n 12 0 (by simpa using hn) (fun j hj => absurd hj (Nat.not_lt_zero _))
/-- a digit of some bytes -/
def pDig (fl : List UInt8) (d : Nat) : Option Bool := (fl[d / 8]?).map fun b => b.toNat / 2 ^ (d % 8) % 2 == 1
theorem pDig_some {fl : List UInt8} {d : Nat} {b : Bool} (h : pDig fl d = some b) : d < 8 * fl.length := by
  unfold pDig at h
  cases e : fl[d / 8]? with
  | none => rw [e] at h; cases h
  | some x =>
    obtain ⟨p, _⟩ := List.getElem?_eq_some_iff.1 e
    omega
theorem pDig_none {fl : List UInt8} {d : Nat} (h : 8 * fl.length ≤ d) : pDig fl d = none := by
  unfold pDig
  rw [List.getElem?_eq_none (by omega)]
  rfl
theorem pDig_get {fl : List UInt8} {d : Nat} (h : d < 8 * fl.length) : pDig fl d = some ((fl.getD (d / 8) 0).toNat / 2 ^ (d % 8) % 2 == 1) := by
  unfold pDig
  rw [List.getD_eq_getElem?_getD, List.getElem?_eq_getElem (show d / 8 < fl.length by omega)]
  rfl
/-- what reading a node comes to: its hash, the matches, how many digits and hashes were read -/
structure PRes where
  x : List UInt8
  l : List (Nat × List UInt8)
  d : Nat
  k : Nat
/-- a node is read -/
def pRd (n : Nat) (fl : List UInt8) (hs : List (List UInt8)) : Nat → Nat → Nat → Nat → Option PRes
  | 0, i, d, k => (pDig fl d).bind fun b => (hs[k]?).map fun x => ⟨x, if b then [(i, x)] else [], d + 1, k + 1⟩
  | h + 1, i, d, k => (pDig fl d).bind fun b =>
    if b then (pRd n fl hs h (2 * i) (d + 1) k).bind fun r =>
      if 2 * i + 1 < pWd n h then (pRd n fl hs h (2 * i + 1) r.d r.k).bind fun s => if r.x = s.x then none else some ⟨pairB r.x s.x, r.l ++ s.l, s.d, s.k⟩
      else some ⟨pairB r.x r.x, r.l, r.d, r.k⟩
    else (hs[k]?).map fun x => ⟨x, [], d + 1, k + 1⟩
/-- are the digits behind the last one zero? -/
def pRest (fl : List UInt8) (d : Nat) : Bool := (List.range ((8 - d % 8) % 8)).all fun j => pDig fl (d + j) != some true
/-- may a part have so many? -/
def pMay (tot : Nat) (hs : List (List UInt8)) (fl : List UInt8) : Bool := decide (tot ≠ 0 ∧ tot ≤ 4096 ∧ hs.length ≤ tot ∧ hs.length ≤ 8 * fl.length)
def pDone (hs : List (List UInt8)) (fl : List UInt8) (d k : Nat) : Bool := decide (k = hs.length ∧ (d + 7) / 8 = fl.length) && pRest fl d
/-- what is extracted -/
def pExt (tot : Nat) (hs : List (List UInt8)) (fl : List UInt8) : Option PRes :=
  if pMay tot hs fl then (pRd tot fl hs (pHt tot) 0 0 0).filter fun r => pDone hs fl r.d r.k else none
theorem pRd_bounds (n : Nat) (fl : List UInt8) (hs : List (List UInt8)) (h32 : All32 hs) : ∀ (h i d k : Nat) (r : PRes), pRd n fl hs h i d k = some r → d < r.d ∧ r.d ≤ 8 * fl.length ∧ k < r.k ∧ r.k ≤ hs.length ∧ r.l.length + k ≤ r.k ∧ r.x.length = 32 ∧ ∀ p ∈ r.l, p.2.length = 32 := by
  have leaf : ∀ (i d k : Nat) (b c : Bool) (r : PRes), pDig fl d = some b → (hs[k]?).map (fun x => PRes.mk x (if c then [(i, x)] else []) (d + 1) (k + 1)) = some r → d < r.d ∧ r.d ≤ 8 * fl.length ∧ k < r.k ∧ r.k ≤ hs.length ∧ r.l.length + k ≤ r.k ∧ r.x.length = 32 ∧ ∀ p ∈ r.l, p.2.length = 32 := by
    intro i d k b c r hd hr
    have h1 := pDig_some hd
    cases e : hs[k]? with
    | none => rw [e] at hr; cases hr
    | some x =>
      rw [e] at hr
      obtain ⟨p, q⟩ := List.getElem?_eq_some_iff.1 e
      have hx : x.length = 32 := h32 x (by rw [← q]; exact List.getElem_mem p)
      obtain rfl := Option.some.inj hr
      refine ⟨by dsimp only; omega, h1, by dsimp only; omega, p, ?_, hx, ?_⟩
      · dsimp only; split <;> simp; omega
      · dsimp only
        split
        · intro p hp; rw [List.mem_singleton.1 hp]; exact hx
        · intro p hp; cases hp
  intro h
  induction h with
  | zero =>
    intro i d k r hr
    rw [pRd] at hr
    cases e : pDig fl d with
    | none => rw [e] at hr; cases hr
    | some b => rw [e] at hr; exact leaf i d k b b r e hr
  | succ h ih =>
    intro i d k r hr
    rw [pRd] at hr
    cases e : pDig fl d with
    | none => rw [e] at hr; cases hr
    | some b =>
      rw [e, Option.bind_some] at hr
      cases b with
      | false => exact leaf i d k false false r e hr
      | true =>
        rw [if_pos rfl] at hr
        cases e1 : pRd n fl hs h (2 * i) (d + 1) k with
        | none => rw [e1] at hr; cases hr
        | some a =>
          rw [e1, Option.bind_some] at hr
          obtain ⟨a1, a2, a3, a4, a5, a6, a7⟩ := ih _ _ _ _ e1
          split at hr
          · cases e2 : pRd n fl hs h (2 * i + 1) a.d a.k with
            | none => rw [e2] at hr; cases hr
            | some s =>
              rw [e2, Option.bind_some] at hr
              obtain ⟨b1, b2, b3, b4, b5, b6, b7⟩ := ih _ _ _ _ e2
              split at hr
              · cases hr
              · have hy := pairB_length a.x s.x
                generalize pairB a.x s.x = y at hy hr
                obtain rfl := Option.some.inj hr
                refine ⟨by dsimp only; omega, b2, by dsimp only; omega, b4, by simp only [List.length_append]; omega, hy, ?_⟩
                intro p hp
                rcases List.mem_append.1 hp with hp | hp
                · exact a7 p hp
                · exact b7 p hp
          · have hy := pairB_length a.x a.x
            generalize pairB a.x a.x = y at hy hr
            obtain rfl := Option.some.inj hr
            exact ⟨by dsimp only; omega, a2, a3, a4, a5, hy, a7⟩
/-- with more bytes and hashes behind the same is read -/
theorem pRd_mono (n : Nat) (fl fl' : List UInt8) (hs hs' : List (List UInt8)) (hf : ∀ d b, pDig fl d = some b → pDig fl' d = some b) (hh : ∀ (k : Nat) x, hs[k]? = some x → hs'[k]? = some x) :
    ∀ (h i d k : Nat) (r : PRes), pRd n fl hs h i d k = some r → pRd n fl' hs' h i d k = some r := by
  have leaf : ∀ (i d k : Nat) (c : Bool) (r : PRes), (hs[k]?).map (fun x => PRes.mk x (if c then [(i, x)] else []) (d + 1) (k + 1)) = some r → (hs'[k]?).map (fun x => PRes.mk x (if c then [(i, x)] else []) (d + 1) (k + 1)) = some r := by
    intro i d k c r hr
    cases e : hs[k]? with
    | none => rw [e] at hr; cases hr
    | some x => rw [hh k x e]; rw [e] at hr; exact hr
  intro h
  induction h with
  | zero =>
    intro i d k r hr
    rw [pRd] at hr ⊢
    cases e : pDig fl d with
    | none => rw [e] at hr; cases hr
    | some b =>
      rw [hf d b e]
      rw [e] at hr
      exact leaf i d k b r hr
  | succ h ih =>
    intro i d k r hr
    rw [pRd] at hr ⊢
    cases e : pDig fl d with
    | none => rw [e] at hr; cases hr
    | some b =>
      rw [hf d b e, Option.bind_some]
      rw [e, Option.bind_some] at hr
      cases b with
      | false => exact leaf i d k false r hr
      | true =>
        rw [if_pos rfl] at hr ⊢
        cases e1 : pRd n fl hs h (2 * i) (d + 1) k with
        | none => rw [e1] at hr; cases hr
        | some a =>
          rw [ih _ _ _ _ e1, Option.bind_some]
          rw [e1, Option.bind_some] at hr
          split at hr
          · rename_i hw
            rw [if_pos hw]
            cases e2 : pRd n fl hs h (2 * i + 1) a.d a.k with
            | none => rw [e2] at hr; cases hr
            | some s =>
              rw [ih _ _ _ _ e2]
              rw [e2] at hr
              exact hr
          · rename_i hw
            rw [if_neg hw]
            exact hr
/-- each match lies below its node, and they rise -/
theorem pRd_places (n : Nat) (fl : List UInt8) (hs : List (List UInt8)) : ∀ (h i d k : Nat) (r : PRes), i < pWd n h → pRd n fl hs h i d k = some r →
    (∀ p ∈ r.l, i * 2 ^ h ≤ p.1 ∧ p.1 < (i + 1) * 2 ^ h ∧ p.1 < n) ∧ r.l.Pairwise (fun p q => p.1 < q.1) := by
  intro h
  induction h with
  | zero =>
    intro i d k r hi hr
    rw [pWd_zero] at hi
    rw [pRd] at hr
    cases e : pDig fl d with
    | none => rw [e] at hr; cases hr
    | some b =>
      rw [e, Option.bind_some] at hr
      cases e1 : hs[k]? with
      | none => rw [e1] at hr; cases hr
      | some x =>
        rw [e1] at hr
        obtain rfl := Option.some.inj hr
        cases b with
        | false => exact ⟨(fun p hp => by cases hp), List.Pairwise.nil⟩
        | true =>
          refine ⟨fun p hp => ?_, List.pairwise_singleton _ _⟩
          rw [List.mem_singleton.1 hp]
          simp
          exact hi
  | succ h ih =>
    intro i d k r hi hr
    rw [pWd_succ] at hi
    rw [pRd] at hr
    have hpow : 2 ^ (h + 1) = 2 * 2 ^ h := by rw [Nat.pow_succ]; omega
    cases e : pDig fl d with
    | none => rw [e] at hr; cases hr
    | some b =>
      rw [e, Option.bind_some] at hr
      cases b with
      | false =>
        rw [if_neg (by simp)] at hr
        cases e1 : hs[k]? with
        | none => rw [e1] at hr; cases hr
        | some x =>
          rw [e1] at hr
          obtain rfl := Option.some.inj hr
          exact ⟨(fun p hp => by cases hp), List.Pairwise.nil⟩
      | true =>
        rw [if_pos rfl] at hr
        have e3 : (i + 1) * 2 ^ (h + 1) = (2 * i) * 2 ^ h + 2 * 2 ^ h := by rw [hpow, ← Nat.mul_assoc, Nat.mul_comm (i + 1) 2, Nat.mul_add, Nat.add_mul]
        have e4 : i * 2 ^ (h + 1) = (2 * i) * 2 ^ h := by rw [hpow, ← Nat.mul_assoc, Nat.mul_comm i 2]
        have e5 : (2 * i + 1) * 2 ^ h = (2 * i) * 2 ^ h + 2 ^ h := by rw [Nat.add_mul, Nat.one_mul]
        have e6 : (2 * i + 1 + 1) * 2 ^ h = (2 * i) * 2 ^ h + 2 ^ h + 2 ^ h := by rw [Nat.add_mul, Nat.one_mul, e5]
        cases e1 : pRd n fl hs h (2 * i) (d + 1) k with
        | none => rw [e1] at hr; cases hr
        | some a =>
          rw [e1, Option.bind_some] at hr
          obtain ⟨a1, a2⟩ := ih _ _ _ _ (by omega) e1
          split at hr
          · rename_i hw
            cases e2 : pRd n fl hs h (2 * i + 1) a.d a.k with
            | none => rw [e2] at hr; cases hr
            | some s =>
              rw [e2, Option.bind_some] at hr
              obtain ⟨b1, b2⟩ := ih _ _ _ _ hw e2
              split at hr
              · cases hr
              · obtain rfl := Option.some.inj hr
                refine ⟨fun p hp => ?_, List.pairwise_append.2 ⟨a2, b2, fun p hp q hq => ?_⟩⟩
                · rcases List.mem_append.1 hp with hp | hp
                  · have := a1 p hp; omega
                  · have := b1 p hp; omega
                · have h1 := a1 p hp
                  have h2 := b1 q hq
                  omega
          · obtain rfl := Option.some.inj hr
            refine ⟨fun p hp => ?_, a2⟩
            have := a1 p hp
            omega
end Go.Proofs.YtmdllemgjhkphaaDoor

/- Wid; Pm; Pu; CMath: put together for the claim. -/
import Derived.Test.YtdkknincamkhpaaDoorRoot
/- Plain law: how wide each level is, how high a tree. -/
namespace Go.Proofs.YtdkknincamkhpaaDoor
open Go.RowKit

theorem mLvF_len : ∀ (f : Nat) (l : List (List UInt8)), (mLvF f l).length ≤ f + 1
  | 0, l => by rw [mLvF]; simp
  | f + 1, l => by
    rw [mLvF]
    split
    · simp
    · rw [List.length_cons]; have := mLvF_len f (mUp l); omega
theorem mLv_len (l : List (List UInt8)) : (mLv l).length ≤ 13 := by
  rw [mLv]
  split
  · simp
  · exact mLvF_len 12 l
theorem ceil_step (n j : Nat) : ((n + 1) / 2 + 2 ^ j - 1) / 2 ^ j = (n + 2 ^ (j + 1) - 1) / 2 ^ (j + 1) := by
  have hp : 0 < 2 ^ j := Nat.pow_pos (by omega)
  rw [Nat.pow_succ, Nat.mul_comm (2 ^ j) 2, ← Nat.div_div_eq_div_mul]
  congr 1
  omega
theorem lvF_height : ∀ (f : Nat) (l : List (List UInt8)), 0 < l.length → l.length ≤ 2 ^ f →
    ∃ K, (mLvF f l).length = K + 1 ∧ K ≤ f ∧ (∀ j, j < K → 1 < (l.length + 2 ^ j - 1) / 2 ^ j) ∧ (l.length + 2 ^ K - 1) / 2 ^ K ≤ 1
  | 0, l, h0, hf => ⟨0, by rw [mLvF]; rfl, Nat.le_refl _, fun j hj => absurd hj (Nat.not_lt_zero _), by simp at hf ⊢; omega⟩
  | f + 1, l, h0, hf => by
    by_cases h1 : l.length ≤ 1
    · exact ⟨0, by rw [mLvF_one _ _ h1]; rfl, by omega, fun j hj => absurd hj (Nat.not_lt_zero _), by simp; omega⟩
    · have hpow : 2 ^ (f + 1) = 2 * 2 ^ f := by rw [Nat.pow_succ]; omega
      have hup := mUp_length l
      obtain ⟨K, k1, k2, k3, k4⟩ := lvF_height f (mUp l) (by omega) (by omega)
      rw [hup] at k3 k4
      refine ⟨K + 1, by rw [mLvF, if_neg h1, List.length_cons, k1], by omega, fun j hj => ?_, by rw [← ceil_step]; exact k4⟩
      cases j with
      | zero => simp; omega
      | succ j => rw [← ceil_step]; exact k3 j (by omega)
theorem mWidth_nat (n j : Nat) (hn : n ≤ 4096) (hj : j ≤ 12) : mWidth n j = (((n + 2 ^ j - 1) / 2 ^ j : Nat) : Int) := by
  have hp : 0 < 2 ^ j := Nat.pow_pos (by omega)
  rw [mWidth, if_neg (by omega), show min (max (n : Int) 0) 4096 = (n : Int) by omega, show (min (j : Int) 12).toNat = j by omega]
  rw [show (n : Int) + 2 ^ j - 1 = ((n + 2 ^ j - 1 : Nat) : Int) by rw [Int.ofNat_sub (by omega)]; simp]
  simp
end Go.Proofs.YtdkknincamkhpaaDoor
/- Parts of a tree: what is read of one, as plain functions. -/
namespace Go.Proofs.YtdkknincamkhpaaDoor
/-- how wide a level of a tree of n leaves is -/
def pWd (n h : Nat) : Nat := (n + 2 ^ h - 1) / 2 ^ h
theorem pWd_zero (n : Nat) : pWd n 0 = n := by simp [pWd]
theorem pWd_succ (n h : Nat) : pWd n (h + 1) = (pWd n h + 1) / 2 := by
  have hp : 0 < 2 ^ h := Nat.pow_pos (by omega)
  unfold pWd
  rw [Nat.pow_succ, ← Nat.div_div_eq_div_mul]
  congr 1
  rw [← Nat.add_div_right _ hp]
  congr 1
  omega
def pHtF (n : Nat) : Nat → Nat → Nat
  | 0, h => h
  | f + 1, h => if 1 < pWd n h then pHtF n f (h + 1) else h
/-- the level with one hash -/
def pHt (n : Nat) : Nat := pHtF n 12 0
theorem pHtF_spec (n : Nat) : ∀ (f h : Nat), n ≤ 2 ^ (f + h) → (∀ j, j < h → 1 < pWd n j) → (pHtF n f h ≤ f + h) ∧ (∀ j, j < pHtF n f h → 1 < pWd n j) ∧ pWd n (pHtF n f h) ≤ 1
  | 0, h, hn, hlo => by
    refine ⟨by simp [pHtF], hlo, ?_⟩
    rw [pHtF, pWd]
    have hp : 0 < 2 ^ h := Nat.pow_pos (by omega)
    rw [Nat.zero_add] at hn
    rw [Nat.div_le_iff_le_mul hp]
    omega
  | f + 1, h, hn, hlo => by
    rw [pHtF]
    split
    · rename_i h1
      have := pHtF_spec n f (h + 1) (by rw [show f + (h + 1) = f + 1 + h by omega]; exact hn) (fun j hj => by
        by_cases e : j = h
        · rw [e]; exact h1
        · exact hlo j (by omega))
      exact ⟨by omega, this.2⟩
    · rename_i h1
      exact ⟨by omega, hlo, by omega⟩
theorem pHt_spec (n : Nat) (hn : n ≤ 4096) : pHt n ≤ 12 ∧ (∀ j, j < pHt n → 1 < pWd n j) ∧ pWd n (pHt n) ≤ 1 :=
  pHtF_spec n 12 0 (by simpa using hn) (fun j hj => absurd hj (Nat.not_lt_zero _))
/-- a digit of some bytes -/
def pDig (fl : List UInt8) (d : Nat) : Option Bool := (fl[d / 8]?).map fun b => b.toNat / 2 ^ (d % 8) % 2 == 1
theorem pDig_some {fl : List UInt8} {d : Nat} {b : Bool} (h : pDig fl d = some b) : d < 8 * fl.length := by
  unfold pDig at h
  cases e : fl[d / 8]? with
  | none => rw [e] at h; cases h
  | some x =>
    obtain ⟨p, _⟩ := List.getElem?_eq_some_iff.1 e
    omega
theorem pDig_get {fl : List UInt8} {d : Nat} (h : d < 8 * fl.length) : pDig fl d = some ((fl.getD (d / 8) 0).toNat / 2 ^ (d % 8) % 2 == 1) := by
  unfold pDig
  rw [List.getD_eq_getElem?_getD, List.getElem?_eq_getElem (show d / 8 < fl.length by omega)]
  rfl
/-- what reading a node comes to: its hash, the matches, how many digits and hashes were read -/
structure PRes where
  x : List UInt8
  l : List (Nat × List UInt8)
  d : Nat
  k : Nat
/-- a node is read -/
def pRd (n : Nat) (fl : List UInt8) (hs : List (List UInt8)) : Nat → Nat → Nat → Nat → Option PRes
  | 0, i, d, k => (pDig fl d).bind fun b => (hs[k]?).map fun x => ⟨x, if b then [(i, x)] else [], d + 1, k + 1⟩
  | h + 1, i, d, k => (pDig fl d).bind fun b =>
    if b then (pRd n fl hs h (2 * i) (d + 1) k).bind fun r =>
      if 2 * i + 1 < pWd n h then (pRd n fl hs h (2 * i + 1) r.d r.k).bind fun s => if r.x = s.x then none else some ⟨pairB r.x s.x, r.l ++ s.l, s.d, s.k⟩
      else some ⟨pairB r.x r.x, r.l, r.d, r.k⟩
    else (hs[k]?).map fun x => ⟨x, [], d + 1, k + 1⟩
/-- are the digits behind the last one zero? -/
def pRest (fl : List UInt8) (d : Nat) : Bool := (List.range ((8 - d % 8) % 8)).all fun j => pDig fl (d + j) != some true
/-- may a part have so many? -/
def pMay (tot : Nat) (hs : List (List UInt8)) (fl : List UInt8) : Bool := decide (tot ≠ 0 ∧ tot ≤ 4096 ∧ hs.length ≤ tot ∧ hs.length ≤ 8 * fl.length)
def pDone (hs : List (List UInt8)) (fl : List UInt8) (d k : Nat) : Bool := decide (k = hs.length ∧ (d + 7) / 8 = fl.length) && pRest fl d
/-- what is extracted -/
def pExt (tot : Nat) (hs : List (List UInt8)) (fl : List UInt8) : Option PRes :=
  if pMay tot hs fl then (pRd tot fl hs (pHt tot) 0 0 0).filter fun r => pDone hs fl r.d r.k else none
theorem pRd_bounds (n : Nat) (fl : List UInt8) (hs : List (List UInt8)) (h32 : All32 hs) : ∀ (h i d k : Nat) (r : PRes), pRd n fl hs h i d k = some r → d < r.d ∧ r.d ≤ 8 * fl.length ∧ k < r.k ∧ r.k ≤ hs.length ∧ r.l.length + k ≤ r.k ∧ r.x.length = 32 ∧ ∀ p ∈ r.l, p.2.length = 32 := by
  have leaf : ∀ (i d k : Nat) (b c : Bool) (r : PRes), pDig fl d = some b → (hs[k]?).map (fun x => PRes.mk x (if c then [(i, x)] else []) (d + 1) (k + 1)) = some r → d < r.d ∧ r.d ≤ 8 * fl.length ∧ k < r.k ∧ r.k ≤ hs.length ∧ r.l.length + k ≤ r.k ∧ r.x.length = 32 ∧ ∀ p ∈ r.l, p.2.length = 32 := by
    intro i d k b c r hd hr
    have h1 := pDig_some hd
    cases e : hs[k]? with
    | none => rw [e] at hr; cases hr
    | some x =>
      rw [e] at hr
      obtain ⟨p, q⟩ := List.getElem?_eq_some_iff.1 e
      have hx : x.length = 32 := h32 x (by rw [← q]; exact List.getElem_mem p)
      obtain rfl := Option.some.inj hr
      refine ⟨by dsimp only; omega, h1, by dsimp only; omega, p, ?_, hx, ?_⟩
      · dsimp only; split <;> simp; omega
      · dsimp only
        split
        · intro p hp; rw [List.mem_singleton.1 hp]; exact hx
        · intro p hp; cases hp
  intro h
  induction h with
  | zero =>
    intro i d k r hr
    rw [pRd] at hr
    cases e : pDig fl d with
    | none => rw [e] at hr; cases hr
    | some b => rw [e] at hr; exact leaf i d k b b r e hr
  | succ h ih =>
    intro i d k r hr
    rw [pRd] at hr
    cases e : pDig fl d with
    | none => rw [e] at hr; cases hr
    | some b =>
      rw [e, Option.bind_some] at hr
      cases b with
      | false => exact leaf i d k false false r e hr
      | true =>
        rw [if_pos rfl] at hr
        cases e1 : pRd n fl hs h (2 * i) (d + 1) k with
        | none => rw [e1] at hr; cases hr
        | some a =>
          rw [e1, Option.bind_some] at hr
          obtain ⟨a1, a2, a3, a4, a5, a6, a7⟩ := ih _ _ _ _ e1
          split at hr
          · cases e2 : pRd n fl hs h (2 * i + 1) a.d a.k with
            | none => rw [e2] at hr; cases hr
            | some s =>
              rw [e2, Option.bind_some] at hr
              obtain ⟨b1, b2, b3, b4, b5, b6, b7⟩ := ih _ _ _ _ e2
              split at hr
              · cases hr
              · have hy := pairB_length a.x s.x
                generalize pairB a.x s.x = y at hy hr
                obtain rfl := Option.some.inj hr
                refine ⟨by dsimp only; omega, b2, by dsimp only; omega, b4, by simp only [List.length_append]; omega, hy, ?_⟩
                intro p hp
                rcases List.mem_append.1 hp with hp | hp
                · exact a7 p hp
                · exact b7 p hp
          · have hy := pairB_length a.x a.x
            generalize pairB a.x a.x = y at hy hr
            obtain rfl := Option.some.inj hr
            exact ⟨by dsimp only; omega, a2, a3, a4, a5, hy, a7⟩
/-- each match lies below its node, and they rise -/
theorem pRd_places (n : Nat) (fl : List UInt8) (hs : List (List UInt8)) : ∀ (h i d k : Nat) (r : PRes), i < pWd n h → pRd n fl hs h i d k = some r →
    (∀ p ∈ r.l, i * 2 ^ h ≤ p.1 ∧ p.1 < (i + 1) * 2 ^ h ∧ p.1 < n) ∧ r.l.Pairwise (fun p q => p.1 < q.1) := by
  intro h
  induction h with
  | zero =>
    intro i d k r hi hr
    rw [pWd_zero] at hi
    rw [pRd] at hr
    cases e : pDig fl d with
    | none => rw [e] at hr; cases hr
    | some b =>
      rw [e, Option.bind_some] at hr
      cases e1 : hs[k]? with
      | none => rw [e1] at hr; cases hr
      | some x =>
        rw [e1] at hr
        obtain rfl := Option.some.inj hr
        cases b with
        | false => exact ⟨(fun p hp => by cases hp), List.Pairwise.nil⟩
        | true =>
          refine ⟨fun p hp => ?_, List.pairwise_singleton _ _⟩
          rw [List.mem_singleton.1 hp]
          simp
          exact hi
  | succ h ih =>
    intro i d k r hi hr
    rw [pWd_succ] at hi
    rw [pRd] at hr
    have hpow : 2 ^ (h + 1) = 2 * 2 ^ h := by rw [Nat.pow_succ]; omega
    cases e : pDig fl d with
    | none => rw [e] at hr; cases hr
    | some b =>
      rw [e, Option.bind_some] at hr
      cases b with
      | false =>
        rw [if_neg (by simp)] at hr
        cases e1 : hs[k]? with
        | none => rw [e1] at hr; cases hr
        | some x =>
          rw [e1] at hr
          obtain rfl := Option.some.inj hr
          exact ⟨(fun p hp => by cases hp), List.Pairwise.nil⟩
      | true =>
        rw [if_pos rfl] at hr
        have e3 : (i + 1) * 2 ^ (h + 1) = (2 * i) * 2 ^ h + 2 * 2 ^ h := by rw [hpow, ← Nat.mul_assoc, Nat.mul_comm (i + 1) 2, Nat.mul_add, Nat.add_mul]
        have e4 : i * 2 ^ (h + 1) = (2 * i) * 2 ^ h := by rw [hpow, ← Nat.mul_assoc, Nat.mul_comm i 2]
        have e5 : (2 * i + 1) * 2 ^ h = (2 * i) * 2 ^ h + 2 ^ h := by rw [Nat.add_mul, Nat.one_mul]
        have e6 : (2 * i + 1 + 1) * 2 ^ h = (2 * i) * 2 ^ h + 2 ^ h + 2 ^ h := by rw [Nat.add_mul, Nat.one_mul, e5]
        cases e1 : pRd n fl hs h (2 * i) (d + 1) k with
        | none => rw [e1] at hr; cases hr
        | some a =>
          rw [e1, Option.bind_some] at hr
          obtain ⟨a1, a2⟩ := ih _ _ _ _ (by omega) e1
          split at hr
          · rename_i hw
            cases e2 : pRd n fl hs h (2 * i + 1) a.d a.k with
            | none => rw [e2] at hr; cases hr
            | some s =>
              rw [e2, Option.bind_some] at hr
              obtain ⟨b1, b2⟩ := ih _ _ _ _ hw e2
              split at hr
              · cases hr
              · obtain rfl := Option.some.inj hr
                refine ⟨fun p hp => ?_, List.pairwise_append.2 ⟨a2, b2, fun p hp q hq => ?_⟩⟩
                · rcases List.mem_append.1 hp with hp | hp
                  · have := a1 p hp; omega
                  · have := b1 p hp; omega
                · have h1 := a1 p hp
                  have h2 := b1 q hq
                  omega
          · obtain rfl := Option.some.inj hr
            refine ⟨fun p hp => ?_, a2⟩
            have := a1 p hp
            omega
end Go.Proofs.YtdkknincamkhpaaDoor
/- Parts of a tree: what is read, as a machine with a stack: plain. -/
namespace Go.Proofs.YtdkknincamkhpaaDoor
/-- a node that was gone below, and the hash on the left, if it is known -/
structure PFr where
  h : Nat
  i : Nat
  a : Option (List UInt8)
/-- what is read becomes, with the nodes above -/
def pUnw (n : Nat) (fl : List UInt8) (hs : List (List UInt8)) : List PFr → Option PRes → Option PRes
  | [], r => r
  | _ :: _, none => none
  | ⟨_, _, some a⟩ :: st, some r => if a = r.x then none else pUnw n fl hs st (some ⟨pairB a r.x, r.l, r.d, r.k⟩)
  | ⟨h, i, none⟩ :: st, some r =>
    if 2 * i + 1 < pWd n (h - 1) then
      match pRd n fl hs (h - 1) (2 * i + 1) r.d r.k with
      | none => none
      | some s => if r.x = s.x then none else pUnw n fl hs st (some ⟨pairB r.x s.x, r.l ++ s.l, s.d, s.k⟩)
    else pUnw n fl hs st (some ⟨pairB r.x r.x, r.l, r.d, r.k⟩)
theorem pUnw_none (n : Nat) (fl : List UInt8) (hs : List (List UInt8)) : ∀ st, pUnw n fl hs st none = none
  | [] => rfl
  | _ :: _ => by rw [pUnw]
def PRes.pre (l : List (Nat × List UInt8)) (r : PRes) : PRes := ⟨r.x, l ++ r.l, r.d, r.k⟩
/-- at 'down': what will come of it -/
def pDown (n : Nat) (fl : List UInt8) (hs : List (List UInt8)) (st : List PFr) (h i : Nat) (l : List (Nat × List UInt8)) (d k : Nat) : Option PRes := pUnw n fl hs st ((pRd n fl hs h i d k).map (PRes.pre l))
/-- at 'up' -/
def pUp (n : Nat) (fl : List UInt8) (hs : List (List UInt8)) (st : List PFr) (x : List UInt8) (l : List (Nat × List UInt8)) (d k : Nat) : Option PRes := pUnw n fl hs st (some ⟨x, l, d, k⟩)
section
variable {n : Nat} {fl : List UInt8} {hs : List (List UInt8)} {st : List PFr} {h i : Nat} {l : List (Nat × List UInt8)} {d k : Nat}
theorem pDown_none (e : pDig fl d = none) : pDown n fl hs st h i l d k = none := by
  unfold pDown
  cases h <;> rw [pRd, e] <;> exact pUnw_none ..
theorem pDown_go (e : pDig fl d = some true) : pDown n fl hs st (h + 1) i l d k = pDown n fl hs (⟨h + 1, i, none⟩ :: st) h (2 * i) l (d + 1) k := by
  unfold pDown
  rw [pRd, e, Option.bind_some, if_pos rfl]
  cases e1 : pRd n fl hs h (2 * i) (d + 1) k with
  | none => rw [Option.bind_none, Option.map_none, pUnw_none, pUnw_none]
  | some a =>
    rw [Option.bind_some, Option.map_some, pUnw]
    simp only [PRes.pre, Nat.add_sub_cancel]
    split
    · cases e2 : pRd n fl hs h (2 * i + 1) a.d a.k with
      | none => rw [Option.bind_none, Option.map_none, pUnw_none]
      | some s =>
        rw [Option.bind_some]
        dsimp only
        split
        · rename_i hx
          refine Eq.trans ?_ (if_pos hx).symm
          rw [Option.map_none, pUnw_none]
        · rename_i hx
          refine Eq.trans ?_ (if_neg hx).symm
          rw [Option.map_some, PRes.pre, List.append_assoc]
    · rw [Option.map_some, PRes.pre]
theorem pDown_none2 {b : Bool} (hb : (b = true → h = 0)) (e : pDig fl d = some b) (e2 : hs[k]? = none) : pDown n fl hs st h i l d k = none := by
  unfold pDown
  cases h with
  | zero => rw [pRd, e, e2]; exact pUnw_none ..
  | succ h =>
    cases b with
    | true => exact absurd (hb rfl) (by omega)
    | false => rw [pRd, e, e2]; exact pUnw_none ..
theorem pDown_zero {b : Bool} (hb : (b = true → h = 0)) (e : pDig fl d = some b) {x : List UInt8} (e2 : hs[k]? = some x) : pDown n fl hs st h i l d k = pUp n fl hs st x (if b then l ++ [(i, x)] else l) (d + 1) (k + 1) := by
  unfold pDown pUp
  cases h with
  | zero =>
    rw [pRd, e, e2]
    cases b <;> simp [PRes.pre]
  | succ h =>
    cases b with
    | true => exact absurd (hb rfl) (by omega)
    | false =>
      rw [pRd, e, e2]
      simp [PRes.pre]
theorem pUp_nil {x : List UInt8} : pUp n fl hs [] x l d k = some ⟨x, l, d, k⟩ := rfl
theorem pUp_alike {x : List UInt8} : pUp n fl hs (⟨h, i, some x⟩ :: st) x l d k = none := by
  unfold pUp
  rw [pUnw, if_pos rfl]
theorem pUp_known {a x : List UInt8} (e : a ≠ x) : pUp n fl hs (⟨h, i, some a⟩ :: st) x l d k = pUp n fl hs st (pairB a x) l d k := by
  unfold pUp
  rw [pUnw, if_neg e]
theorem pUp_right {x : List UInt8} (e : 2 * i + 1 < pWd n (h - 1)) : pUp n fl hs (⟨h, i, none⟩ :: st) x l d k = pDown n fl hs (⟨h, i, some x⟩ :: st) (h - 1) (2 * i + 1) l d k := by
  unfold pUp pDown
  rw [pUnw, if_pos e]
  dsimp only
  cases e1 : pRd n fl hs (h - 1) (2 * i + 1) d k with
  | none => rw [Option.map_none, pUnw_none]
  | some s =>
    rw [Option.map_some, pUnw]
    rfl
theorem pUp_one {x : List UInt8} (e : ¬ 2 * i + 1 < pWd n (h - 1)) : pUp n fl hs (⟨h, i, none⟩ :: st) x l d k = pUp n fl hs st (pairB x x) l d k := by
  unfold pUp
  rw [pUnw, if_neg e]
end
end Go.Proofs.YtdkknincamkhpaaDoor
/- Plain mathematics of layer 4 (numbers of as few bytes as they need): no program in sight. -/
namespace Go.Proofs.YtdkknincamkhpaaDoor.Cm

/-- bytes, the lowest first, as a number -/
def le : List UInt8 → Nat
  | [] => 0
  | b :: r => b.toNat + 256 * le r
/-- so many bytes of a number, the lowest first -/
def lo : Nat → Nat → List UInt8
  | 0, _ => []
  | k + 1, n => UInt8.ofNat n :: lo k (n / 256)
def size (n : Nat) : Nat := if n < 253 then 1 else if n < 65536 then 3 else if n < 4294967296 then 5 else 9
def mark (n : Nat) : UInt8 := if n < 65536 then 253 else if n < 4294967296 then 254 else 255
def put (n : Nat) : List UInt8 := if n < 253 then [UInt8.ofNat n] else mark n :: lo (size n - 1) n
def behind (b : UInt8) : Nat := if b = 253 then 2 else if b = 254 then 4 else if b = 255 then 8 else 0
/-- the number, how many bytes it has, the error -/
def get (l : List UInt8) : Nat × Nat × Nat :=
  match l with
  | [] => (0, 0, 1)
  | b :: r =>
    if behind b = 0 then (b.toNat, 1, 0)
    else if r.length < behind b then (0, 0, 1)
    else if size (le (r.take (behind b))) ≠ 1 + behind b then (0, 0, 2)
    else (le (r.take (behind b)), 1 + behind b, 0)
def bounded (l : List UInt8) (most : Nat) : Nat × Nat × Nat :=
  if (get l).2.2 ≠ 0 then (0, 0, (get l).2.2)
  else if most < (get l).1 ∨ 2147483647 < (get l).1 then (0, 0, 3)
  else get l
def bytes (l : List UInt8) (most : Int) : List UInt8 × Nat × Nat :=
  if (bounded l most.toNat).2.2 ≠ 0 then ([], 0, (bounded l most.toNat).2.2)
  else if most < 0 then ([], 0, 3)
  else if l.length - (bounded l most.toNat).2.1 < (bounded l most.toNat).1 then ([], 0, 1)
  else ((l.drop (bounded l most.toNat).2.1).take (bounded l most.toNat).1, (bounded l most.toNat).2.1 + (bounded l most.toNat).1, 0)

theorem u8_lt (b : UInt8) : b.toNat < 256 := b.toNat_lt
theorem u8_ofNat (n : Nat) (h : n < 256) : (UInt8.ofNat n).toNat = n := by
  simp only [UInt8.toNat_ofNat']; omega
end Go.Proofs.YtdkknincamkhpaaDoor.Cm

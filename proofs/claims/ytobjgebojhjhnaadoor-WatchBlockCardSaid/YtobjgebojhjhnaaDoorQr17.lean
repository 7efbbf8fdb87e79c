import Derived.Test.YtobjgebojhjhnaaDoorQr16
import Derived.Test.YtobjgebojhjhnaaDoorCMath
import Derived.Laws.BitsLemmas
import Derived.Laws.Shifts
import Derived.Laws.ShiftsVarLaws
import Derived.Outline
import Derived.Test.YtobjgebojhjhnaaDoorQr4
import Derived.Test.YtobjgebojhjhnaaDoorQr2
namespace Go.Proofs.YtobjgebojhjhnaaDoor
open Go.RowKit
theorem mLvF_len : ∀ (f : Nat) (l : List (List UInt8)), (mLvF f l).length ≤ f + 1
 | 0, l => by rw [mLvF]; simp
 | f + 1, l => by
  rw [mLvF]
  split
  ·simp
  ·rw [List.length_cons]; have := mLvF_len f (mUp l); omega
theorem mLv_len (l : List (List UInt8)) : (mLv l).length ≤ 13 := by
 rw [mLv]
 split
 ·simp
 ·exact mLvF_len 12 l
theorem ceil_step (n j : Nat) : ((n + 1) / 2 + 2 ^ j - 1) / 2 ^ j = (n + 2 ^ (j + 1) - 1) / 2 ^ (j + 1) := by
 have hp : 0 < 2 ^ j := Nat.pow_pos (by omega)
 rw [Nat.pow_succ, Nat.mul_comm (2 ^ j) 2, ← Nat.div_div_eq_div_mul]
 congr 1
 omega
theorem lvF_height : ∀ (f : Nat) (l : List (List UInt8)), 0 < l.length → l.length ≤ 2 ^ f →
  ∃ K, (mLvF f l).length = K + 1 ∧ K ≤ f ∧ (∀ j, j < K → 1 < (l.length + 2 ^ j - 1) / 2 ^ j) ∧ (l.length + 2 ^ K - 1) / 2 ^ K ≤ 1
 | 0, l, h0, hf => ⟨0, by rw [mLvF]; rfl, Nat.le_refl _, fun j hj => absurd hj (Nat.not_lt_zero _), by simp at hf ⊢; omega⟩
 | f + 1, l, h0, hf => by
  by_cases h1 : l.length ≤ 1
  ·exact ⟨0, by rw [mLvF_one _ _ h1]; rfl, by omega, fun j hj => absurd hj (Nat.not_lt_zero _), by simp; omega⟩
  ·have hpow : 2 ^ (f + 1) = 2 * 2 ^ f := by rw [Nat.pow_succ]; omega
   have hup := mUp_length l
   obtain ⟨K, k1, k2, k3, k4⟩ := lvF_height f (mUp l) (by omega) (by omega)
   rw [hup] at k3 k4
   refine ⟨K + 1, by rw [mLvF, if_neg h1, List.length_cons, k1], by omega, fun j hj => ?_, by rw [← ceil_step]; exact k4⟩
   cases j with
   | zero => simp; omega
   | succ j => rw [← ceil_step]; exact k3 j (by omega)
theorem mWidth_nat (n j : Nat) (hn : n ≤ 4096) (hj : j ≤ 12) : mWidth n j = (((n + 2 ^ j - 1) / 2 ^ j : Nat) : Int) := by
 have hp : 0 < 2 ^ j := Nat.pow_pos (by omega)
 rw [mWidth, if_neg (by omega), show min (max (n : Int) 0) 4096 = (n : Int) by omega, show (min (j : Int) 12).toNat = j by omega]
 rw [show (n : Int) + 2 ^ j - 1 = ((n + 2 ^ j - 1 : Nat) : Int) by rw [Int.ofNat_sub (by omega)]; simp]
 simp
end Go.Proofs.YtobjgebojhjhnaaDoor
namespace Go.Proofs.YtobjgebojhjhnaaDoor
def pWd (n h : Nat) : Nat := (n + 2 ^ h - 1) / 2 ^ h
theorem pWd_zero (n : Nat) : pWd n 0 = n := by simp [pWd]
theorem pWd_succ (n h : Nat) : pWd n (h + 1) = (pWd n h + 1) / 2 := by
 have hp : 0 < 2 ^ h := Nat.pow_pos (by omega)
 unfold pWd
 rw [Nat.pow_succ, ← Nat.div_div_eq_div_mul]
 congr 1
 rw [← Nat.add_div_right _ hp]
 congr 1
 omega
def pHtF (n : Nat) : Nat → Nat → Nat
 | 0, h => h
 | f + 1, h => if 1 < pWd n h then pHtF n f (h + 1) else h
def pHt (n : Nat) : Nat := pHtF n 12 0
theorem pHtF_spec (n : Nat) : ∀ (f h : Nat), n ≤ 2 ^ (f + h) → (∀ j, j < h → 1 < pWd n j) → (pHtF n f h ≤ f + h) ∧ (∀ j, j < pHtF n f h → 1 < pWd n j) ∧ pWd n (pHtF n f h) ≤ 1
 | 0, h, hn, hlo => by
  refine ⟨by simp [pHtF], hlo, ?_⟩
  rw [pHtF, pWd]
  have hp : 0 < 2 ^ h := Nat.pow_pos (by omega)
  rw [Nat.zero_add] at hn
  rw [Nat.div_le_iff_le_mul hp]
  omega
 | f + 1, h, hn, hlo => by
  rw [pHtF]
  split
  ·rename_i h1
   have := pHtF_spec n f (h + 1) (by rw [show f + (h + 1) = f + 1 + h by omega]; exact hn) (fun j hj => by
    by_cases e : j = h
    ·rw [e]; exact h1
    ·exact hlo j (by omega))
   exact ⟨by omega, this.2⟩
  ·rename_i h1
   exact ⟨by omega, hlo, by omega⟩
theorem pHt_spec (n : Nat) (hn : n ≤ 4096) : pHt n ≤ 12 ∧ (∀ j, j < pHt n → 1 < pWd n j) ∧ pWd n (pHt n) ≤ 1 :=
 pHtF_spec n 12 0 (by simpa using hn) (fun j hj => absurd hj (Nat.not_lt_zero _))
def pDig (fl : List UInt8) (d : Nat) : Option Bool := (fl[d / 8]?).map fun b => b.toNat / 2 ^ (d % 8) % 2 == 1
theorem pDig_some {fl : List UInt8} {d : Nat} {b : Bool} (h : pDig fl d = some b) : d < 8 * fl.length := by
 unfold pDig at h
 cases e : fl[d / 8]? with
 | none => rw [e] at h; cases h
 | some x =>
  obtain ⟨p, _⟩ := List.getElem?_eq_some_iff.1 e
  omega
theorem pDig_get {fl : List UInt8} {d : Nat} (h : d < 8 * fl.length) : pDig fl d = some ((fl.getD (d / 8) 0).toNat / 2 ^ (d % 8) % 2 == 1) := by
 unfold pDig
 rw [List.getD_eq_getElem?_getD, List.getElem?_eq_getElem (show d / 8 < fl.length by omega)]
 rfl
structure PRes where
 x : List UInt8
 l : List (Nat × List UInt8)
 d : Nat
 k : Nat
def pRd (n : Nat) (fl : List UInt8) (hs : List (List UInt8)) : Nat → Nat → Nat → Nat → Option PRes
 | 0, i, d, k => (pDig fl d).bind fun b => (hs[k]?).map fun x => ⟨x, if b then [(i, x)] else [], d + 1, k + 1⟩
 | h + 1, i, d, k => (pDig fl d).bind fun b =>
  if b then (pRd n fl hs h (2 * i) (d + 1) k).bind fun r =>
   if 2 * i + 1 < pWd n h then (pRd n fl hs h (2 * i + 1) r.d r.k).bind fun s => if r.x = s.x then none else some ⟨pairB r.x s.x, r.l ++ s.l, s.d, s.k⟩
   else some ⟨pairB r.x r.x, r.l, r.d, r.k⟩
  else (hs[k]?).map fun x => ⟨x, [], d + 1, k + 1⟩
def pRest (fl : List UInt8) (d : Nat) : Bool := (List.range ((8 - d % 8) % 8)).all fun j => pDig fl (d + j) != some true
def pMay (tot : Nat) (hs : List (List UInt8)) (fl : List UInt8) : Bool := decide (tot ≠ 0 ∧ tot ≤ 4096 ∧ hs.length ≤ tot ∧ hs.length ≤ 8 * fl.length)
def pDone (hs : List (List UInt8)) (fl : List UInt8) (d k : Nat) : Bool := decide (k = hs.length ∧ (d + 7) / 8 = fl.length) && pRest fl d
def pExt (tot : Nat) (hs : List (List UInt8)) (fl : List UInt8) : Option PRes :=
 if pMay tot hs fl then (pRd tot fl hs (pHt tot) 0 0 0).filter fun r => pDone hs fl r.d r.k else none
theorem pRd_bounds (n : Nat) (fl : List UInt8) (hs : List (List UInt8)) (h32 : All32 hs) : ∀ (h i d k : Nat) (r : PRes), pRd n fl hs h i d k = some r → d < r.d ∧ r.d ≤ 8 * fl.length ∧ k < r.k ∧ r.k ≤ hs.length ∧ r.l.length + k ≤ r.k ∧ r.x.length = 32 ∧ ∀ p ∈ r.l, p.2.length = 32 := by
 have leaf : ∀ (i d k : Nat) (b c : Bool) (r : PRes), pDig fl d = some b → (hs[k]?).map (fun x => PRes.mk x (if c then [(i, x)] else []) (d + 1) (k + 1)) = some r → d < r.d ∧ r.d ≤ 8 * fl.length ∧ k < r.k ∧ r.k ≤ hs.length ∧ r.l.length + k ≤ r.k ∧ r.x.length = 32 ∧ ∀ p ∈ r.l, p.2.length = 32 := by
  intro i d k b c r hd hr
  have h1 := pDig_some hd
  cases e : hs[k]? with
  | none => rw [e] at hr; cases hr
  | some x =>
   rw [e] at hr
   obtain ⟨p, q⟩ := List.getElem?_eq_some_iff.1 e
   have hx : x.length = 32 := h32 x (by rw [← q]; exact List.getElem_mem p)
   obtain rfl := Option.some.inj hr
   refine ⟨by dsimp only; omega, h1, by dsimp only; omega, p, ?_, hx, ?_⟩
   ·dsimp only; split <;> simp; omega
   ·dsimp only
    split
    ·intro p hp; rw [List.mem_singleton.1 hp]; exact hx
    ·intro p hp; cases hp
 intro h
 induction h with
 | zero =>
  intro i d k r hr
  rw [pRd] at hr
  cases e : pDig fl d with
  | none => rw [e] at hr; cases hr
  | some b => rw [e] at hr; exact leaf i d k b b r e hr
 | succ h ih =>
  intro i d k r hr
  rw [pRd] at hr
  cases e : pDig fl d with
  | none => rw [e] at hr; cases hr
  | some b =>
   rw [e, Option.bind_some] at hr
   cases b with
   | false => exact leaf i d k false false r e hr
   | true =>
    rw [if_pos rfl] at hr
    cases e1 : pRd n fl hs h (2 * i) (d + 1) k with
    | none => rw [e1] at hr; cases hr
    | some a =>
     rw [e1, Option.bind_some] at hr
     obtain ⟨a1, a2, a3, a4, a5, a6, a7⟩ := ih _ _ _ _ e1
     split at hr
     ·cases e2 : pRd n fl hs h (2 * i + 1) a.d a.k with
      | none => rw [e2] at hr; cases hr
      | some s =>
       rw [e2, Option.bind_some] at hr
       obtain ⟨b1, b2, b3, b4, b5, b6, b7⟩ := ih _ _ _ _ e2
       split at hr
       ·cases hr
       ·have hy := pairB_length a.x s.x
        generalize pairB a.x s.x = y at hy hr
        obtain rfl := Option.some.inj hr
        refine ⟨by dsimp only; omega, b2, by dsimp only; omega, b4, by simp only [List.length_append]; omega, hy, ?_⟩
        intro p hp
        rcases List.mem_append.1 hp with hp | hp
        ·exact a7 p hp
        ·exact b7 p hp
     ·have hy := pairB_length a.x a.x
      generalize pairB a.x a.x = y at hy hr
      obtain rfl := Option.some.inj hr
      exact ⟨by dsimp only; omega, a2, a3, a4, a5, hy, a7⟩
end Go.Proofs.YtobjgebojhjhnaaDoor
namespace Go.Proofs.YtobjgebojhjhnaaDoor
structure PFr where
 h : Nat
 i : Nat
 a : Option (List UInt8)
def pUnw (n : Nat) (fl : List UInt8) (hs : List (List UInt8)) : List PFr → Option PRes → Option PRes
 | [], r => r
 | _ :: _, none => none
 | ⟨_, _, some a⟩ :: st, some r => if a = r.x then none else pUnw n fl hs st (some ⟨pairB a r.x, r.l, r.d, r.k⟩)
 | ⟨h, i, none⟩ :: st, some r =>
  if 2 * i + 1 < pWd n (h - 1) then
   match pRd n fl hs (h - 1) (2 * i + 1) r.d r.k with
   | none => none
   | some s => if r.x = s.x then none else pUnw n fl hs st (some ⟨pairB r.x s.x, r.l ++ s.l, s.d, s.k⟩)
  else pUnw n fl hs st (some ⟨pairB r.x r.x, r.l, r.d, r.k⟩)
theorem pUnw_none (n : Nat) (fl : List UInt8) (hs : List (List UInt8)) : ∀ st, pUnw n fl hs st none = none
 | [] => rfl
 | _ :: _ => by rw [pUnw]
def PRes.pre (l : List (Nat × List UInt8)) (r : PRes) : PRes := ⟨r.x, l ++ r.l, r.d, r.k⟩
def pDown (n : Nat) (fl : List UInt8) (hs : List (List UInt8)) (st : List PFr) (h i : Nat) (l : List (Nat × List UInt8)) (d k : Nat) : Option PRes := pUnw n fl hs st ((pRd n fl hs h i d k).map (PRes.pre l))
def pUp (n : Nat) (fl : List UInt8) (hs : List (List UInt8)) (st : List PFr) (x : List UInt8) (l : List (Nat × List UInt8)) (d k : Nat) : Option PRes := pUnw n fl hs st (some ⟨x, l, d, k⟩)
section
variable {n : Nat} {fl : List UInt8} {hs : List (List UInt8)} {st : List PFr} {h i : Nat} {l : List (Nat × List UInt8)} {d k : Nat}
theorem pDown_none (e : pDig fl d = none) : pDown n fl hs st h i l d k = none := by
 unfold pDown
 cases h <;> rw [pRd, e] <;> exact pUnw_none ..
theorem pDown_go (e : pDig fl d = some true) : pDown n fl hs st (h + 1) i l d k = pDown n fl hs (⟨h + 1, i, none⟩ :: st) h (2 * i) l (d + 1) k := by
 unfold pDown
 rw [pRd, e, Option.bind_some, if_pos rfl]
 cases e1 : pRd n fl hs h (2 * i) (d + 1) k with
 | none => rw [Option.bind_none, Option.map_none, pUnw_none, pUnw_none]
 | some a =>
  rw [Option.bind_some, Option.map_some, pUnw]
  simp only [PRes.pre, Nat.add_sub_cancel]
  split
  ·cases e2 : pRd n fl hs h (2 * i + 1) a.d a.k with
   | none => rw [Option.bind_none, Option.map_none, pUnw_none]
   | some s =>
    rw [Option.bind_some]
    dsimp only
    split
    ·rename_i hx
     refine Eq.trans ?_ (if_pos hx).symm
     rw [Option.map_none, pUnw_none]
    ·rename_i hx
     refine Eq.trans ?_ (if_neg hx).symm
     rw [Option.map_some, PRes.pre, List.append_assoc]
  ·rw [Option.map_some, PRes.pre]
theorem pDown_none2 {b : Bool} (hb : (b = true → h = 0)) (e : pDig fl d = some b) (e2 : hs[k]? = none) : pDown n fl hs st h i l d k = none := by
 unfold pDown
 cases h with
 | zero => rw [pRd, e, e2]; exact pUnw_none ..
 | succ h =>
  cases b with
  | true => exact absurd (hb rfl) (by omega)
  | false => rw [pRd, e, e2]; exact pUnw_none ..
theorem pDown_zero {b : Bool} (hb : (b = true → h = 0)) (e : pDig fl d = some b) {x : List UInt8} (e2 : hs[k]? = some x) : pDown n fl hs st h i l d k = pUp n fl hs st x (if b then l ++ [(i, x)] else l) (d + 1) (k + 1) := by
 unfold pDown pUp
 cases h with
 | zero =>
  rw [pRd, e, e2]
  cases b <;> simp [PRes.pre]
 | succ h =>
  cases b with
  | true => exact absurd (hb rfl) (by omega)
  | false =>
   rw [pRd, e, e2]
   simp [PRes.pre]
theorem pUp_nil {x : List UInt8} : pUp n fl hs [] x l d k = some ⟨x, l, d, k⟩ := rfl
theorem pUp_alike {x : List UInt8} : pUp n fl hs (⟨h, i, some x⟩ :: st) x l d k = none := by
 unfold pUp
 rw [pUnw, if_pos rfl]
theorem pUp_known {a x : List UInt8} (e : a ≠ x) : pUp n fl hs (⟨h, i, some a⟩ :: st) x l d k = pUp n fl hs st (pairB a x) l d k := by
 unfold pUp
 rw [pUnw, if_neg e]
theorem pUp_right {x : List UInt8} (e : 2 * i + 1 < pWd n (h - 1)) : pUp n fl hs (⟨h, i, none⟩ :: st) x l d k = pDown n fl hs (⟨h, i, some x⟩ :: st) (h - 1) (2 * i + 1) l d k := by
 unfold pUp pDown
 rw [pUnw, if_pos e]
 dsimp only
 cases e1 : pRd n fl hs (h - 1) (2 * i + 1) d k with
 | none => rw [Option.map_none, pUnw_none]
 | some s =>
  rw [Option.map_some, pUnw]
  rfl
theorem pUp_one {x : List UInt8} (e : ¬ 2 * i + 1 < pWd n (h - 1)) : pUp n fl hs (⟨h, i, none⟩ :: st) x l d k = pUp n fl hs st (pairB x x) l d k := by
 unfold pUp
 rw [pUnw, if_neg e]
end
end Go.Proofs.YtobjgebojhjhnaaDoor
namespace Go.Proofs.YtobjgebojhjhnaaDoor
open Go.RowKit
attribute [local go_sem high] slB_lh slB_l slB_h
abbrev trc (tot : Nat) (Ah : Option Addr) (nh ch : Nat) (Af : Option Addr) (nf cf : Nat) : List Value := [.int .u32 (tot : Int), .slice Ah nh ch, .slice Af nf cf]
abbrev rdc (tot : Nat) (Ah : Option Addr) (nh ch : Nat) (Af : Option Addr) (nf cf d k : Nat) : List Value := [.int .u32 (tot : Int), .slice Ah nh ch, .slice Af nf cf, .int .i64 (d : Int), .int .i64 (k : Int)]
set_option maxRecDepth 10000 in
theorem and_one_fin : ∀ v : Fin 256, bits .and .u8 (v.val : Int) 1 = ((v.val % 2 : Nat) : Int) := by decide
theorem and_one_u8 (x s : Nat) (hx : x < 256) : (bits .and .u8 ((x : Int) / 2 ^ s) 1 == 1) = (x / 2 ^ s % 2 == 1) := by
 have e : (x : Int) / 2 ^ s = ((x / 2 ^ s : Nat) : Int) := by simp
 have h := and_one_fin ⟨x / 2 ^ s, Nat.lt_of_le_of_lt (Nat.div_le_self _ _) hx⟩
 dsimp only at h
 rw [e, h, Bool.eq_iff_iff]
 simp only [beq_iff_eq]
 omega
set_option maxRecDepth 10000 in
set_option maxHeartbeats 1000000 in
theorem PDigit_none (tot : Nat) (Ah : Option Addr) (nh ch : Nat) (Af : Option Addr) (nf cf d k R : Nat) (hd : 8 * nf ≤ d) (hd2 : d ≤ 1000000) (w : World) (hA : Av w R 115 (rdc tot Ah nh ch Af nf cf d k)) :
  Calls Tryd.prog 64 #[.pointer (some ⟨R, 0, none⟩)] w fun e w' => e = .returned (.tuple #[.bool false, .bool false]) ∧ w' = w := by
 unfold rdc at hA
 have c2 := hA.cell 2 _ rfl
 have c3 := hA.cell 3 _ rfl
 obtain ⟨q, hq⟩ : ∃ q, q = d / 8 := ⟨_, rfl⟩
 have e1 : (d : Int) / 8 = (q : Int) := by omega
 have t1 : decide ((nf : Int) ≤ (q : Int)) = true := by simp; omega
 replace hq := Lib.hid hq
 go_enter Tryd.func64, Tryd.ntmps64
 go_wp2
 go_ret2
 exact ⟨rfl, rfl⟩
set_option maxRecDepth 10000 in
set_option maxHeartbeats 1000000 in
theorem PDigit (fl : List UInt8) (b : Bool) (tot : Nat) (Ah : Option Addr) (nh ch : Nat) (Af : Option Addr) (nf cf d k R : Nat) (hnf : fl.length = nf) (hd : pDig fl d = some b) (hd2 : d ≤ 1000000) (w : World) (hA : Av w R 115 (rdc tot Ah nh ch Af nf cf d k)) (hr : Rd w Af (fl.map bv)) (hAf : ∀ a, Af = some a → a.block ≠ R) :
  Calls Tryd.prog 64 #[.pointer (some ⟨R, 0, none⟩)] w fun e w' => e = .returned (.tuple #[.bool b, .bool true]) ∧ Av w' R 115 (rdc tot Ah nh ch Af nf cf (d + 1) k) ∧ Fr (fun j => j = R) w w' := by
 unfold rdc at hA
 have c2 := hA.cell 2 _ rfl
 have c3 := hA.cell 3 _ rfl
 have f3 := frozen_of_row _ _ 3 _ _ hA
 have hlt := pDig_some hd
 rw [pDig_get hlt] at hd
 obtain rfl := Option.some.inj hd
 obtain ⟨q, hq⟩ : ∃ q, q = d / 8 := ⟨_, rfl⟩
 obtain ⟨s, hs⟩ : ∃ s, s = d % 8 := ⟨_, rfl⟩
 have e1 : (d : Int) / 8 = (q : Int) := by omega
 have e2 : (d : Int) % 8 = (s : Int) := by omega
 have t1 : decide ((nf : Int) ≤ (q : Int)) = false := by simp; omega
 have s0 : (0 : Int) ≤ (s : Int) := by omega
 have s8 : (s : Int) < 8 := by omega
 have hqn : q < nf := by omega
 rw [← hq, ← hs]
 obtain ⟨x, hx⟩ : ∃ x, x = fl.getD q 0 := ⟨_, rfl⟩
 have hg : fl[q]? = some x := by rw [hx, List.getD_eq_getElem?_getD, List.getElem?_eq_getElem (by omega)]; rfl
 rw [← hx]
 obtain ⟨bb, off, e⟩ := hr.someA (by intro h; have := congrArg List.length h; rw [List.length_map, hnf] at this; simp at this; omega)
 subst e
 have hbR : bb ≠ R := hAf _ rfl
 have hcell : ∀ w', Rd w' (some ⟨bb, off, none⟩) (fl.map bv) → w'.cell? ⟨bb, off + q, none⟩ = some (bv x) := by
  intro w' h
  rcases h with h | ⟨b', o', hA', hc⟩
  ·have := congrArg List.length h; rw [List.length_map, hnf] at this; simp at this; omega
  ·cases hA'
   exact hc q _ (by rw [List.getElem?_map, hg]; rfl)
 have fr1 := Fr.setCell w ⟨R, 3, none⟩ (.int .i64 ((d : Int) + 1))
 have cx := hcell _ (fr1.rd hr (fun a e => by cases e; exact hbR))
 have hA2 := hA.set 3 (.int .i64 ((d : Int) + 1))
 have c2' := hA2.cell 2 _ rfl
 clear hcell
 replace hA2 := Lib.hid hA2
 replace fr1 := Lib.hid fr1
 replace hq := Lib.hid hq
 replace hs := Lib.hid hs
 replace hx := Lib.hid hx
 replace hg := Lib.hid hg
 replace hnf := Lib.hid hnf
 have hxl := Cm.u8_lt x
 go_enter Tryd.func64, Tryd.ntmps64
 go_wp2
 go_ret2
 refine ⟨?_, hA2.out, fr1.out⟩
 rw [and_one_u8 _ _ hxl]
 rfl
set_option maxRecDepth 10000 in
set_option maxHeartbeats 1000000 in
theorem PHash_none (tot : Nat) (Ah : Option Addr) (nh ch : Nat) (Af : Option Addr) (nf cf d k R : Nat) (hd : nh ≤ k) (_ : k ≤ 1000000) (w : World) (hA : Av w R 115 (rdc tot Ah nh ch Af nf cf d k)) :
  Calls Tryd.prog 66 #[.pointer (some ⟨R, 0, none⟩)] w fun e w' => e = .returned (.tuple #[.agg (hcs (List.replicate 32 0)), .bool false]) ∧ Below w.heap.size w w' := by
 unfold rdc at hA
 have t1 : decide ((nh : Int) ≤ (k : Int)) = true := by simp; omega
 have hz := zeros_32
 obtain ⟨zs, hzs⟩ : ∃ zs : List UInt8, zs = List.replicate 32 0 := ⟨_, rfl⟩
 have hzl : (zs.map bv).length = 32 := by rw [hzs]; rfl
 rw [← hzs] at hz
 obtain ⟨W, hW⟩ : ∃ W, W = w.alloc (.cells (zs.map bv).toArray 30) := ⟨_, rfl⟩
 obtain ⟨H, hH⟩ : ∃ H, H = w.heap.size := ⟨_, rfl⟩
 have bW : Below w.heap.size w W := by rw [hW]; exact (Below.refl _ _).alloc (Nat.le_refl _) _
 have aH : Av W H 30 (zs.map bv) := by rw [hW, hH]; exact heap_alloc_new _ _
 have aR := hA.below bW
 have hone : (zs.map bv).all (·.oneCell') = true := List.all_eq_true.2 (bv_one zs)
 replace hone := Lib.hid hone
 replace hzl := Lib.hid hzl
 replace hW := Lib.hid hW
 replace hH := Lib.hid hH
 replace hzs := Lib.hid hzs
 go_enter Tryd.func66, Tryd.ntmps66
 go_upto_region 1 with fail
 rw [← hW.out, ← hH.out]
 refine wp_region_rel [] Ext (by kernel_rfl) (by kernel_rfl) (by kernel_rfl) Ext.refl Ext.trans (by intro p hp; cases hp) ?_
 refine ZM ?_
 refine ZP (fun w _ => by go_simp; first | done | rfl) ?_
 refine ZP (fun w _ => by go_simp; first | done | rfl) ?_
 refine ZP (c := .int .i64 (k : Int)) (fun w hw => by have := (aR.below hw.drew).cell 4 _ rfl; go_simp; first | done | rfl) ?_
 refine ZM ?_
 refine ZP (fun w _ => by go_simp; first | done | rfl) ?_
 refine ZP (fun w _ => by go_simp; first | done | rfl) ?_
 refine ZP (fun w _ => by go_simp; first | done | rfl) ?_
 refine ZP (c := .slice Ah nh ch) (fun w hw => by have := (aR.below hw.drew).cell 1 _ rfl; go_simp; first | done | rfl) ?_
 refine ZP (fun w _ => by go_simp; first | done | rfl) ?_
 refine ZP (fun w _ => by go_simp; first | done | rfl) ?_
 refine relEnd fun w2 hw2 => fill_end ?_
 have bw2 := bW.trans (hw2.drew.mono bW.size)
 have a2 := aH.below hw2.drew
 have hge : w.heap.size ≤ H := by rw [hH.out]; exact Nat.le_refl _
 go_wp2_with (first
  | ((with_reducible refine wpList_build (.agg (zs.map bv).toArray) ?_ ?_); (go_simp; first | done | rfl))
  | ((with_reducible refine wpList_storeFA 30 bw2 a2 hge (zs.map bv) ?_ ?_ 32 hzl.out ?_ ?_ ?_ ?_); rfl; rfl; kernel_rfl; exact hzl.out; exact hone.out; intro w3 a3 b3 k3 z3))
 refine bodyPost_ret (v := .tuple #[.agg (hcs zs), .bool false]) ((results_cellU (C := zs.map bv) (by rfl) (by rfl) a3 _ Tryd.underlying30 rfl 32 hzl.out (by kernel_rfl)).trans (by rfl)) (by rfl) ?_
 rw [← hzs.out]
 exact ⟨rfl, b3⟩
set_option maxRecDepth 10000 in
set_option maxHeartbeats 4000000 in
theorem PHash (hs : List (List UInt8)) (h32 : All32 hs) (x : List UInt8) (tot : Nat) (Ah : Option Addr) (nh ch : Nat) (Af : Option Addr) (nf cf d k R : Nat) (hnh : hs.length = nh) (hx : hs[k]? = some x) (hd2 : k ≤ 1000000) (w : World) (hA : Av w R 115 (rdc tot Ah nh ch Af nf cf d k)) (hr : Rd w Ah (hcl hs)) (hAh : ∀ a, Ah = some a → a.block ≠ R) :
  Calls Tryd.prog 66 #[.pointer (some ⟨R, 0, none⟩)] w fun e w' => e = .returned (.tuple #[.agg (hcs x), .bool true]) ∧ Av w' R 115 (rdc tot Ah nh ch Af nf cf d (k + 1)) ∧ Fr (fun j => j = R) w w' := by
 obtain ⟨hkl, hxe⟩ := List.getElem?_eq_some_iff.1 hx
 have hx32 : x.length = 32 := h32 x (by rw [← hxe]; exact List.getElem_mem hkl)
 have hgd : hs.getD k [] = x := by rw [List.getD_eq_getElem?_getD, hx]; rfl
 have hkn : k < nh := by omega
 unfold rdc at hA
 have t1 : decide ((nh : Int) ≤ (k : Int)) = false := by simp; omega
 have hz := zeros_32
 obtain ⟨zs, hzs⟩ : ∃ zs : List UInt8, zs = List.replicate 32 0 := ⟨_, rfl⟩
 have hzl : (zs.map bv).length = 32 := by rw [hzs]; rfl
 rw [← hzs] at hz
 obtain ⟨W, hW⟩ : ∃ W, W = w.alloc (.cells (zs.map bv).toArray 30) := ⟨_, rfl⟩
 obtain ⟨H, hH⟩ : ∃ H, H = w.heap.size := ⟨_, rfl⟩
 have bW : Below w.heap.size w W := by rw [hW]; exact (Below.refl _ _).alloc (Nat.le_refl _) _
 have aH : Av W H 30 (zs.map bv) := by rw [hW, hH]; exact heap_alloc_new _ _
 have aR := hA.below bW
 have hone : (zs.map bv).all (·.oneCell') = true := List.all_eq_true.2 (bv_one zs)
 replace hone := Lib.hid hone
 replace hzl := Lib.hid hzl
 obtain ⟨bb, off, e⟩ := hr.someA (by intro h; have := congrArg List.length h; rw [hcl_length h32, hnh] at this; simp at this; omega)
 subst e
 have hbR : bb ≠ R := hAh _ rfl
 have hrg : ∀ w', Rd w' (some ⟨bb, off, none⟩) (hcl hs) → w'.rangeAt bb (off + k * 32) (x.map bv) := fun w' h => by have := h.hash h32 k hkl; rwa [hgd] at this
 have hbl : bb < w.heap.size := hr.lt (by intro h; have := congrArg List.length h; rw [hcl_length h32, hnh] at this; simp at this; omega) _ rfl
 have hRl : R < w.heap.size := hA.lt
 have hC1 : (x.map bv).all (·.oneCell') = true := List.all_eq_true.2 (bv_one x)
 have hC2 : (x.map bv).length = 32 := by rw [List.length_map, hx32]
 have hr0 := hr.below bW
 replace hxe := Lib.hid hxe
 replace hgd := Lib.hid hgd
 replace hx := Lib.hid hx
 replace hnh := Lib.hid hnh
 replace hW := Lib.hid hW
 replace hH := Lib.hid hH
 replace hzs := Lib.hid hzs
 replace hx32 := Lib.hid hx32
 replace hC1 := Lib.hid hC1
 replace hC2 := Lib.hid hC2
 replace hrg := Lib.hid hrg
 go_enter Tryd.func66, Tryd.ntmps66
 go_upto_region 1 with fail
 rw [← hW.out, ← hH.out]
 refine wp_region_rel [] Ext (by kernel_rfl) (by kernel_rfl) (by kernel_rfl) Ext.refl Ext.trans (by intro p hp; cases hp) ?_
 refine ZM ?_
 refine ZP (fun w _ => by go_simp; first | done | rfl) ?_
 refine ZP (fun w _ => by go_simp; first | done | rfl) ?_
 refine ZP (c := .int .i64 (k : Int)) (fun w hw => by have := (aR.below hw.drew).cell 4 _ rfl; go_simp; first | done | rfl) ?_
 refine ZM ?_
 refine ZP (fun w _ => by go_simp; first | done | rfl) ?_
 refine ZP (fun w _ => by go_simp; first | done | rfl) ?_
 refine ZP (fun w _ => by go_simp; first | done | rfl) ?_
 refine ZP (c := .slice (some ⟨bb, off, none⟩) nh ch) (fun w hw => by have := (aR.below hw.drew).cell 1 _ rfl; go_simp; first | done | rfl) ?_
 refine ZP (fun w _ => by go_simp; first | done | rfl) ?_
 refine ZP (fun w _ => by go_simp; first | done | rfl) ?_
 refine relEnd fun w2 hw2 => fill_end ?_
 have bw2 := bW.trans (hw2.drew.mono bW.size)
 have a2 := aH.below hw2.drew
 have R2 := aR.below hw2.drew
 have r2 := hr0.below hw2.drew
 have c4 := R2.cell 4 _ rfl
 have f4 := frozen_of_row _ _ 4 _ _ R2
 have wk : IntKind.i64.wrap (k : Int) = (k : Int) := by rw [IntKind.wrap_i64]; omega
 replace wk := Lib.hid wk
 go_upto_region 4 with fail
 obtain ⟨w3, hw3⟩ : ∃ w3, w3 = w2.setCell ⟨R, 4, none⟩ (.int .i64 ((k : Int) + 1)) := ⟨_, rfl⟩
 have fr3 := Fr.setCell w2 ⟨R, 4, none⟩ (.int .i64 ((k : Int) + 1))
 have R3 := R2.set 4 (.int .i64 ((k : Int) + 1))
 have hHR : H ≠ R := by rw [hH.out]; omega
 have hHb : bb ≠ H := by rw [hH.out]; omega
 have a3 := fr3.av a2 hHR
 have r3 := fr3.rd r2 (fun a e => by cases e; exact hbR)
 rw [← hw3] at fr3 R3 a3 r3 ⊢
 replace hw3 := Lib.hid hw3
 clear c4 f4 a2 R2 r2
 refine wp_region_relG 13 [] [(12, fun w' => Av w' H 30 (x.map bv))] (RS H 30 (x.map bv)) (by kernel_rfl) (by kernel_rfl) (by kernel_rfl) (by kernel_rfl) (by kernel_rfl) (by kernel_rfl) (fun w => RS.refl w) RS.trans (by intro p hp; cases hp) (by
  intro p hp w w' hR h
  simp only [List.mem_singleton] at hp
  subst hp
  exact hR.2.1 h) ?_
 refine gel (fun w => RS.refl w) rfl (relMove (fun w => RS.refl w) rfl rfl rfl rfl _ (.inl rfl) (by conv => lhs; whnf) (by simp only [Zs]; rfl) (gend ?_))
 refine gel (fun w => RS.refl w) rfl (relPure (fun w => RS.refl w) rfl rfl rfl rfl (fun w _ => by go_simp; first | done | rfl) (by simp only [Zs]; rfl) (gend ?_))
 refine gel (fun w => RS.refl w) rfl (relPure (fun w => RS.refl w) rfl rfl rfl rfl (fun w _ => by go_simp; first | done | rfl) (by simp only [Zs]; rfl) (gend ?_))
 refine gel (fun w => RS.refl w) rfl (relPure (fun w => RS.refl w) rfl rfl rfl rfl (fun w _ => by go_simp; first | done | rfl) (by simp only [Zs]; rfl) (gend ?_))
 refine gel (fun w => RS.refl w) rfl (relPure (fun w => RS.refl w) rfl rfl rfl rfl (c := .slice (some ⟨bb, off, none⟩) nh ch) (fun w hw => by have := (hw.1.av R3.drew (Ne.symm hHR)).cell 1 _ rfl; go_simp; first | done | rfl) (by simp only [Zs]; rfl) (gend ?_))
 refine gel (fun w => RS.refl w) rfl (relMove (fun w => RS.refl w) rfl rfl rfl rfl _ (.inl rfl) (by conv => lhs; whnf) (by simp only [Zs]; rfl) (gend ?_))
 refine gel (fun w => RS.refl w) rfl (relPure (fun w => RS.refl w) rfl rfl rfl rfl (fun w _ => by go_simp; first | done | rfl) (by simp only [Zs]; rfl) (gend ?_))
 refine gel (fun w => RS.refl w) rfl (relPure (fun w => RS.refl w) rfl rfl rfl rfl (fun w _ => by go_simp; first | done | rfl) (by simp only [Zs]; rfl) (gend ?_))
 refine gel (fun w => RS.refl w) rfl (relPure (fun w => RS.refl w) rfl rfl rfl rfl (c := .int .i64 ((k : Int) + 1)) (fun w hw => by have := (hw.1.av R3.drew (Ne.symm hHR)).cell 4 _ rfl; go_simp; first | done | rfl) (by simp only [Zs]; rfl) (gend ?_))
 refine gel (fun w => RS.refl w) rfl (relPure (fun w => RS.refl w) rfl rfl rfl rfl (c := .int .i64 (k : Int)) (fun w _ => by have := wk.out; go_simp; first | done | rfl) (by simp only [Zs]; rfl) (gend ?_))
 refine gel (fun w => RS.refl w) rfl (relPure (fun w => RS.refl w) rfl rfl rfl rfl (c := .pointer (some ⟨bb, off + k * 32, none⟩)) (fun w _ => by go_simp; first | done | rfl) (by simp only [Zs]; rfl) (gend ?_))
 refine gel (fun w => RS.refl w) rfl (relPure (fun w => RS.refl w) rfl rfl rfl rfl (c := .agg (hcs x)) (fun w hw => exec_load_mid _ _ rfl bb (off + k * 32) rfl (x.map bv) _ (hrg.out _ ((Fr.ofDrew hw.1).rd r3 (fun a e => by cases e; exact hHb))) Tryd.underlying30 rfl (by rw [hC2.out]; kernel_rfl)) (by simp only [Zs]; rfl) (gend ?_))
 refine gStore rfl rfl (fun w hw => exec_storeAv (C := x.map bv) a3.drew (by rw [hC2.out, hzl.out]) hw _ _ _ rfl rfl rfl 32 hC2.out (by kernel_rfl) hC1.out 12) ?_
 refine relEndG fun w5 hw5 hg => ?_
 simp only [List.drop_succ_cons, List.drop_zero]
 have a5 := hg (12, fun w' => Av w' H 30 (x.map bv)) (List.mem_singleton.2 rfl)
 have f5 := Fr.ofDrew hw5.1
 have R5 := f5.av R3 (Ne.symm hHR)
 go_wp2
 refine bodyPost_ret (v := .tuple #[.agg (hcs x), .bool true]) ((results_cellU (C := x.map bv) (by rfl) (by rfl) a5 _ Tryd.underlying30 rfl 32 hC2.out (by kernel_rfl)).trans (by rfl)) (by rfl) ?_
 refine ⟨rfl, R5, ?_⟩
 exact Fr.transNew (Fr.transNew (Below.fr (S := fun j => j = R) bw2) fr3 (fun j h => .inl h)) f5 (fun j h => .inr (by rw [h, hH.out]; exact Nat.le_refl _))
end Go.Proofs.YtobjgebojhjhnaaDoor

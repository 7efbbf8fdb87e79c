/- Parts of a tree: what is read, as a machine with a stack: plain. -/
import Derived.Test.YtmdllemgjhkphaaDoorPm
namespace Go.Proofs.YtmdllemgjhkphaaDoor
/-- a node that was gone below, and the hash on the left, if it is known -/
structure PFr where
  h : Nat
  i : Nat
  a : Option (List UInt8)
/-- what is read becomes, with the nodes above -/
def pUnw (n : Nat) (fl : List UInt8) (hs : List (List UInt8)) : List PFr → Option PRes → Option PRes
  | [], r => r
  | _ :: _, none => none
  | ⟨_, _, some a⟩ :: st, some r => if a = r.x then none else pUnw n fl hs st (some ⟨pairB a r.x, r.l, r.d, r.k⟩)
  | ⟨h, i, none⟩ :: st, some r =>
    if 2 * i + 1 < pWd n (h - 1) then
      match pRd n fl hs (h - 1) (2 * i + 1) r.d r.k with
      | none => none
      | some s => if r.x = s.x then none else pUnw n fl hs st (some ⟨pairB r.x s.x, r.l ++ s.l, s.d, s.k⟩)
    else pUnw n fl hs st (some ⟨pairB r.x r.x, r.l, r.d, r.k⟩)
theorem pUnw_none (n : Nat) (fl : List UInt8) (hs : List (List UInt8)) : ∀ st, pUnw n fl hs st none = none
  | [] => rfl
  | _ :: _ => by rw [pUnw]
def PRes.pre (l : List (Nat × List UInt8)) (r : PRes) : PRes := ⟨r.x, l ++ r.l, r.d, r.k⟩
/-- at 'down': what will come of it -/
def pDown (n : Nat) (fl : List UInt8) (hs : List (List UInt8)) (st : List PFr) (h i : Nat) (l : List (Nat × List UInt8)) (d k : Nat) : Option PRes := pUnw n fl hs st ((pRd n fl hs h i d k).map (PRes.pre l))
/-- at 'up' -/
def pUp (n : Nat) (fl : List UInt8) (hs : List (List UInt8)) (st : List PFr) (x : List UInt8) (l : List (Nat × List UInt8)) (d k : Nat) : Option PRes := pUnw n fl hs st (some ⟨x, l, d, k⟩)
section
variable {n : Nat} {fl : List UInt8} {hs : List (List UInt8)} {st : List PFr} {h i : Nat} {l : List (Nat × List UInt8)} {d k : Nat}
theorem pDown_none (e : pDig fl d = none) : pDown n fl hs st h i l d k = none := by
  unfold pDown
  cases h <;> rw [pRd, e] <;> exact pUnw_none ..
theorem pDown_go (e : pDig fl d = some true) : pDown n fl hs st (h + 1) i l d k = pDown n fl hs (⟨h + 1, i, none⟩ :: st) h (2 * i) l (d + 1) k := by
  unfold pDown
  rw [pRd, e, Option.bind_some, if_pos rfl]
  cases e1 : pRd n fl hs h (2 * i) (d + 1) k with
  | none => rw [Option.bind_none, Option.map_none, pUnw_none, pUnw_none]
  | some a =>
    rw [Option.bind_some, Option.map_some, pUnw]
    simp only [PRes.pre, Nat.add_sub_cancel]
    split
    · cases e2 : pRd n fl hs h (2 * i + 1) a.d a.k with
      | none => rw [Option.bind_none, Option.map_none, pUnw_none]
      | some s =>
        rw [Option.bind_some]
        dsimp only
        split
        · rename_i hx
          refine Eq.trans ?_ (if_pos hx).symm
          rw [Option.map_none, pUnw_none]
        · rename_i hx
          refine Eq.trans ?_ (if_neg hx).symm
          rw [Option.map_some, PRes.pre, List.append_assoc]
    · rw [Option.map_some, PRes.pre]
theorem pDown_none2 {b : Bool} (hb : (b = true → h = 0)) (e : pDig fl d = some b) (e2 : hs[k]? = none) : pDown n fl hs st h i l d k = none := by
  unfold pDown
  cases h with
  | zero => rw [pRd, e, e2]; exact pUnw_none ..
  | succ h =>
    cases b with
    | true => exact absurd (hb rfl) (by omega)
    | false => rw [pRd, e, e2]; exact pUnw_none ..
theorem pDown_zero {b : Bool} (hb : (b = true → h = 0)) (e : pDig fl d = some b) {x : List UInt8} (e2 : hs[k]? = some x) : pDown n fl hs st h i l d k = pUp n fl hs st x (if b then l ++ [(i, x)] else l) (d + 1) (k + 1) := by
  unfold pDown pUp
  cases h with
  | zero =>
    rw [pRd, e, e2]
    cases b <;> simp [PRes.pre]
  | succ h =>
    cases b with
    | true => exact absurd (hb rfl) (by omega)
    | false =>
      rw [pRd, e, e2]
      simp [PRes.pre]
theorem pUp_nil {x : List UInt8} : pUp n fl hs [] x l d k = some ⟨x, l, d, k⟩ := rfl
theorem pUp_alike {x : List UInt8} : pUp n fl hs (⟨h, i, some x⟩ :: st) x l d k = none := by
  unfold pUp
  rw [pUnw, if_pos rfl]
theorem pUp_known {a x : List UInt8} (e : a ≠ x) : pUp n fl hs (⟨h, i, some a⟩ :: st) x l d k = pUp n fl hs st (pairB a x) l d k := by
  unfold pUp
  rw [pUnw, if_neg e]
theorem pUp_right {x : List UInt8} (e : 2 * i + 1 < pWd n (h - 1)) : pUp n fl hs (⟨h, i, none⟩ :: st) x l d k = pDown n fl hs (⟨h, i, some x⟩ :: st) (h - 1) (2 * i + 1) l d k := by
  unfold pUp pDown
  rw [pUnw, if_pos e]
  dsimp only
  cases e1 : pRd n fl hs (h - 1) (2 * i + 1) d k with
  | none => rw [Option.map_none, pUnw_none]
  | some s =>
    rw [Option.map_some, pUnw]
    rfl
theorem pUp_one {x : List UInt8} (e : ¬ 2 * i + 1 < pWd n (h - 1)) : pUp n fl hs (⟨h, i, none⟩ :: st) x l d k = pUp n fl hs st (pairB x x) l d k := by
  unfold pUp
  rw [pUnw, if_neg e]
end
end Go.Proofs.YtmdllemgjhkphaaDoor

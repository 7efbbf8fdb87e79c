/- Parts of a struct in memory: a load and a store of some of its cells. -/
import Derived.Test.YtngindljhlbglaaDoorShP
import Derived.Deep.MidRow
namespace Go.Proofs.YtngindljhlbglaaDoor
open Go.RowKit

theorem Av.setCells {g : Nat} {t : TypeId} (vs : List Value) : ∀ (pre xs rest : List Value) (o : Nat) (w : World), Av w g t (pre ++ xs ++ rest) → pre.length = o → xs.length = vs.length →
    Av (w.setCells g o vs) g t (pre ++ vs ++ rest) := by
  induction vs with
  | nil =>
    intro pre xs rest o w h ho hx
    have : xs = [] := List.length_eq_zero_iff.mp hx
    subst this
    simpa [World.setCells] using h
  | cons v vs ih =>
    intro pre xs rest o w h ho hx
    match xs, hx with
    | x :: xs, hx =>
      have h2 : Av (w.setCell ⟨g, o, none⟩ v) g t ((pre ++ [v]) ++ xs ++ rest) := by
        have := h.set o v
        rw [show (pre ++ x :: xs ++ rest).set o v = (pre ++ [v]) ++ xs ++ rest by simp [← ho]] at this
        exact this
      have := ih (pre ++ [v]) xs rest (o + 1) _ h2 (by simp [ho]) (by simpa using hx)
      rw [World.setCells]
      simpa using this
theorem Av.rangeAt {w : World} {g : Nat} {t : TypeId} {pre cs rest : List Value} (h : Av w g t (pre ++ cs ++ rest)) (o : Nat) (ho : pre.length = o) : w.rangeAt g o cs := fun j v hv => by
  refine h.cell (o + j) v ?_
  have hj : j < cs.length := (List.getElem?_eq_some_iff.1 hv).1
  rw [List.append_assoc, List.getElem?_append_right (by omega), List.getElem?_append_left (by omega), ← hv]
  congr 1; omega
theorem Av.there {w : World} {g : Nat} {t : TypeId} {l : List Value} (h : Av w g t l) (o n : Nat) (hn : o + n ≤ l.length) : w.there g o n := fun j hj =>
  ⟨by rw [h.cell (o + j) _ (List.getElem?_eq_getElem (by omega))]; rfl, frozen_of_row _ _ _ _ _ h⟩
theorem below_setCells {B : Nat} {a : World} (vs : List Value) : ∀ (w : World) (g o : Nat), Below B a w → B ≤ g → Below B a (w.setCells g o vs) := by
  induction vs with
  | nil => intro w g o h hg; simpa [World.setCells] using h
  | cons v vs ih => intro w g o h hg; rw [World.setCells]; exact ih _ _ _ (h.setCell hg v) hg
theorem heap_setCells (vs : List Value) : ∀ (w : World) (g o k : Nat), k ≠ g → (w.setCells g o vs).heap[k]? = w.heap[k]? := by
  induction vs with
  | nil => intro w g o k h; simp [World.setCells]
  | cons v vs ih => intro w g o k h; rw [World.setCells, ih _ _ _ _ h, heap_setCell_other w _ k v h]
end Go.Proofs.YtngindljhlbglaaDoor

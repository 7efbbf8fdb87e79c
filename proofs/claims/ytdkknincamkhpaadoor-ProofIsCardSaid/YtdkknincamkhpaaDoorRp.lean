/- florinref11: reading a node, case by case; what visit answers. -/
import Derived.Test.YtdkknincamkhpaaDoorPr17
import Derived.Test.YtdkknincamkhpaaDoorPv
namespace Go.Proofs.YtdkknincamkhpaaDoor
open Go.RowKit
section
variable {n : Nat} {fl : List UInt8} {hs : List (List UInt8)} {h i d k : Nat}
theorem pRd_none (e : pDig fl d = none) : pRd n fl hs h i d k = none := by
  cases h <;> (rw [pRd, e]; rfl)
theorem pRd_leaf {b : Bool} (hb : b = true → h = 0) (e : pDig fl d = some b) : pRd n fl hs h i d k = (hs[k]?).map fun x => ⟨x, if b then [(i, x)] else [], d + 1, k + 1⟩ := by
  cases h with
  | zero => rw [pRd, e]; rfl
  | succ h =>
    cases b with
    | true => exact absurd (hb rfl) (by omega)
    | false => rw [pRd, e]; rfl
theorem pRd_node (e : pDig fl d = some true) : pRd n fl hs (h + 1) i d k = (pRd n fl hs h (2 * i) (d + 1) k).bind fun r =>
      if 2 * i + 1 < pWd n h then (pRd n fl hs h (2 * i + 1) r.d r.k).bind fun s => if r.x = s.x then none else some ⟨pairB r.x s.x, r.l ++ s.l, s.d, s.k⟩
      else some ⟨pairB r.x r.x, r.l, r.d, r.k⟩ := by
  rw [pRd, e]; rfl
end
/-- blocks other than R's, and than rows of matches, stay -/
def KeepT (R : Nat) (w w' : World) : Prop := w.heap.size ≤ w'.heap.size ∧ ∀ g t (l : List Value), Av w g t l → t ≠ 96 → g ≠ R → Av w' g t l
theorem KeepT.av {R g : Nat} {w w' : World} {t : TypeId} {l : List Value} (h : KeepT R w w') (ha : Av w g t l) (ht : t ≠ 96) (hg : g ≠ R) : Av w' g t l := h.2 g t l ha ht hg
theorem KeepT.trans {R : Nat} {a b c : World} (h : KeepT R a b) (k : KeepT R b c) : KeepT R a c := ⟨Nat.le_trans h.1 k.1, fun _ _ _ ha ht hg => k.av (h.av ha ht hg) ht hg⟩
theorem KeepT.ofBelow {R : Nat} {w w' : World} (h : Below w.heap.size w w') : KeepT R w w' := ⟨h.size, fun _ _ _ ha _ _ => ha.below h⟩
theorem KeepT.ofFr {R : Nat} {w w' : World} (h : Fr (fun j => j = R) w w') : KeepT R w w' := ⟨h.size, fun _ _ _ ha _ hg => h.av ha hg⟩
theorem KeepT.setR {R i : Nat} {w v : World} (h : KeepT R w v) (x : Value) : KeepT R w (v.setCell ⟨R, i, none⟩ x) := h.trans (KeepT.ofFr (Fr.setCell v ⟨R, i, none⟩ x))
theorem KeepT.store {R X : Nat} {w v v' : World} (h : KeepT R w v) (hX : w.heap.size ≤ X) (k : ∀ j, j ≠ X → v'.heap[j]? = v.heap[j]?) (z : v'.heap.size = v.heap.size) : KeepT R w v' :=
  ⟨by rw [z]; exact h.1, fun g _ _ ha ht hg => (h.av ha ht hg).same (k g (by have := ha.lt; omega))⟩
theorem KeepT.app {R B : Nat} {w v v' : World} (h : KeepT R w v) (T : TOnly B 96 v v') (z : v.heap.size ≤ v'.heap.size) : KeepT R w v' :=
  ⟨Nat.le_trans h.1 z, fun _ _ _ ha ht hg => T.av (h.av ha ht hg) ht⟩
/-- what visit answers -/
def TVPost (tot : Nat) (Ah : Option Addr) (nh ch : Nat) (Af : Option Addr) (nf cf R : Nat) (w0 : World) (l : List (Nat × List UInt8)) (w : World) (ans : Option PRes) (e : Ending) (w' : World) : Prop :=
  Below w0.heap.size w0 w' ∧ KeepT R w w' ∧ match ans with
  | none => e = .returned (.agg (hcs zs32)) ∧ ∃ d k M, d ≤ 8 * nf ∧ k ≤ nh ∧ Av w' R 125 (tkc tot Ah nh ch Af nf cf d k M true)
  | some r => e = .returned (.agg (hcs r.x)) ∧ ∃ M, Av w' R 125 (tkc tot Ah nh ch Af nf cf r.d r.k M false) ∧ w'.ownsRow w0.heap.size 96 33 M (l.length + r.l.length) (mlc (l ++ r.l))
end Go.Proofs.YtdkknincamkhpaaDoor

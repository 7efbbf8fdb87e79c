/- Mem; Av: put together for the claim. -/
import Derived.Test.YtjgdmpbaikhflaaDoorChecked
import Derived.WalkKit
import Derived.WalkSpells
import Derived.WalkLawsBesides
import Derived.Lib.Hide
import Derived.Deep.MidRow
/- Words for memory: what a slice value reads as; it stays so while memory grows. -/
namespace Go.Proofs.YtjgdmpbaikhflaaDoor
open Go.RowKit

/-- the cell of a byte -/
abbrev bv (b : UInt8) : Value := .int .u8 (b.toNat : Int)

/-- From the address A on lie the cells xs. -/
def Rd (w : World) (A : Option Addr) (xs : List Value) : Prop :=
  xs = [] ∨ ∃ b off, A = some ⟨b, off, none⟩ ∧ ∀ j u, xs[j]? = some u → w.cell? ⟨b, off + j, none⟩ = some u

theorem Rd.nil (w : World) (A : Option Addr) : Rd w A [] := .inl rfl
theorem Rd.keep {w w' : World} {A : Option Addr} {xs : List Value} (h : Rd w A xs) (hk : ∀ b o v, w.cell? ⟨b, o, none⟩ = some v → w'.cell? ⟨b, o, none⟩ = some v) : Rd w' A xs := by
  rcases h with h | ⟨b, off, hA, hc⟩
  · exact .inl h
  · exact .inr ⟨b, off, hA, fun j u hu => hk _ _ _ (hc j u hu)⟩
theorem Rd.below {w w' : World} {A : Option Addr} {xs : List Value} (h : Rd w A xs) (hb : Below w.heap.size w w') : Rd w' A xs :=
  h.keep fun b o _ hv => (hb.cell (p := ⟨b, o, none⟩) (World.block_lt_of_cell? w _ hv)).trans hv
theorem Rd.drop {w : World} {b off : Nat} {xs : List Value} (h : Rd w (some ⟨b, off, none⟩) xs) (k : Nat) : Rd w (some ⟨b, off + k, none⟩) (xs.drop k) := by
  rcases h with h | ⟨b', off', hA, hc⟩
  · exact .inl (by simp [h])
  · cases hA
    refine .inr ⟨_, _, rfl, fun j u hu => ?_⟩
    rw [List.getElem?_drop] at hu
    rw [Nat.add_assoc]
    exact hc _ u hu
theorem Rd.take {w : World} {A : Option Addr} {xs : List Value} (h : Rd w A xs) (k : Nat) : Rd w A (xs.take k) := by
  rcases h with h | ⟨b', off', hA, hc⟩
  · exact .inl (by simp [h])
  · refine .inr ⟨_, _, hA, fun j u hu => ?_⟩
    rw [List.getElem?_take] at hu
    split at hu
    · exact hc _ u hu
    · cases hu
theorem Rd.cons {w : World} {A : Option Addr} {x : Value} {xs : List Value} (h : Rd w A (x :: xs)) :
    ∃ b off, A = some ⟨b, off, none⟩ ∧ ∀ j u, (x :: xs)[j]? = some u → w.cell? ⟨b, off + j, none⟩ = some u := by
  rcases h with h | h
  · cases h
  · exact h
theorem Rd.someA {w : World} {A : Option Addr} {xs : List Value} (h : Rd w A xs) (hx : xs ≠ []) : ∃ b off, A = some ⟨b, off, none⟩ := by
  rcases h with h | ⟨b, off, hA, _⟩
  · exact absurd h hx
  · exact ⟨b, off, hA⟩
theorem Rd.lt {w : World} {A : Option Addr} {xs : List Value} (h : Rd w A xs) (hx : xs ≠ []) (a : Addr) (ha : A = some a) : a.block < w.heap.size := by
  rcases h with e | ⟨b, off, e, hc⟩
  · exact absurd e hx
  · rw [e] at ha; cases ha
    obtain ⟨x, xs', rfl⟩ := List.exists_cons_of_ne_nil hx
    exact World.block_lt_of_cell? w _ (hc 0 x rfl)
end Go.Proofs.YtjgdmpbaikhflaaDoor
/- Blocks of the call's own: what they hold; loads and stores of whole values. -/
namespace Go.Proofs.YtjgdmpbaikhflaaDoor
open Go.RowKit

theorem below_setRow {B : Nat} {a w : World} (h : Below B a w) (g : Nat) (cs : Array Value) (hg : B ≤ g) : Below B a (w.setRow g cs) :=
  h.trans ⟨rfl, rfl, rfl, by simp, fun k hk => setRow_other _ _ _ _ (by omega)⟩
/-- Block g holds just the cells l. -/
def Av (w : World) (g : Nat) (t : TypeId) (l : List Value) : Prop := w.heap[g]? = some (.cells l.toArray t (0, 0))
theorem Av.cell {w : World} {g : Nat} {t : TypeId} {l : List Value} (h : Av w g t l) (i : Nat) (u : Value) (hu : l[i]? = some u) : w.cell? ⟨g, i, none⟩ = some u := by
  rw [cell_of_row w g i _ t _ h]; simpa using hu
theorem Av.lt {w : World} {g : Nat} {t : TypeId} {l : List Value} (h : Av w g t l) : g < w.heap.size := (Array.getElem?_eq_some_iff.mp h).1
theorem Av.below {w w' : World} {g : Nat} {t : TypeId} {l : List Value} (h : Av w g t l) (hb : Below w.heap.size w w') : Av w' g t l := by
  unfold Av; rw [hb.block g h.lt]; exact h
theorem Av.set {w : World} {g : Nat} {t : TypeId} {l : List Value} (h : Av w g t l) (i : Nat) (u : Value) : Av (w.setCell ⟨g, i, none⟩ u) g t (l.set i u) := by
  unfold Av
  rw [heap_setCell_same w g i _ t _ h]; simp
theorem Av.same {w w' : World} {g : Nat} {t : TypeId} {l : List Value} (h : Av w g t l) (hs : w'.heap[g]? = w.heap[g]?) : Av w' g t l := by
  unfold Av; rw [hs]; exact h
theorem Av.other {w : World} {g : Nat} {t : TypeId} {l : List Value} (h : Av w g t l) (a : Addr) (v : Value) (hne : g ≠ a.block) : Av (w.setCell a v) g t l :=
  h.same (heap_setCell_other w a g v hne)
theorem Av.drew {w : World} {g : Nat} {t : TypeId} {l : List Value} (h : Av w g t l) : Av w.drew g t l := h
/-- cells are read as one value -/
theorem wpList_loadAv {P : Program} {ops : Array Oper} {rest : List Oper} {o : Oper} {a : Act} {w : World} {Q : Exit → Act → World → Prop} {g : Nat} {t : TypeId} {l : List Value} (h : Av w g t l)
    (hgd : o.guard = none) (ty : TypeId) (x : Operand) (ho : o.op = .load ty x) (hx : a.eval x = .pointer (some ⟨g, 0, none⟩)) (d : TypeDesc) (n : Nat) (hn : l.length = n)
    (hu : P.underlying ty = some d) (hd : (match d with | .struct _ | .array _ _ => true | _ => false) = true) (hi : (P.info? ty).map (·.size) = some n)
    (k : wpList P ops Q rest (a.put o.dst (.agg l.toArray)) w) : wpList P ops Q (o :: rest) a w :=
  wpList_load_row hgd ty x ho g hx t l.toArray (0, 0) d h hu hd (by rw [List.size_toArray, hn]; exact hi) k
/-- cells are written as one value into a block of the call's own -/
theorem wpList_storeAv {P : Program} {ops : Array Oper} {rest : List Oper} {o : Oper} {a : Act} {w w0 : World} {B : Nat} {Q : Exit → Act → World → Prop} {g : Nat} {t : TypeId} {old : Array Value} (hb : Below B w0 w) (h : w.heap[g]? = some (.cells old t (0, 0))) (hB : B ≤ g)
    (hgd : o.guard = none) (ty : TypeId) (x y : Operand) (ho : o.op = .store ty x y) (hx : a.eval x = .pointer (some ⟨g, 0, none⟩)) (l : List Value) (hy : a.eval y = .agg l.toArray) (n : Nat) (hn : l.length = n)
    (hi : (P.info? ty).map (·.size) = some n) (hold : old.size = n) (h1 : l.all (·.oneCell') = true)
    (k : ∀ w2, Av w2 g t l → Below B w0 w2 → (∀ k, k ≠ g → w2.heap[k]? = w.heap[k]?) → w2.heap.size = w.heap.size → wpList P ops Q rest (a.put o.dst undef) w2) : wpList P ops Q (o :: rest) a w :=
  wpList_store_row hgd ty x y ho g l.toArray hx hy t old h (by rw [List.size_toArray, hn]; exact hi) (hold.trans (by rw [List.size_toArray, hn])) (by simpa using h1)
    (k _ (setRow_heap _ _ _ _ _ _ h) (below_setRow hb _ _ hB) (fun _ hk => setRow_other _ _ _ _ hk) (by simp))
theorem exec_loadAv {P : Program} {w : World} {o : Oper} {ρ : Operand → Value} {g : Nat} {t : TypeId} {l : List Value} (h : Av w g t l) (ty : TypeId) (x : Operand) (ho : o.op = .load ty x) (hx : ρ x = .pointer (some ⟨g, 0, none⟩)) (d : TypeDesc) (n : Nat) (hn : l.length = n)
    (hu : P.underlying ty = some d) (hd : (match d with | .struct _ | .array _ _ => true | _ => false) = true) (hi : (P.info? ty).map (·.size) = some n) :
    (execOp ρ o).run P w = .ok (.value (.agg l.toArray)) w := by
  unfold execOp
  simp only [ho, hx, Instr.loadAt, Instr.sureAddr, Sem.run_bind, Sem.run_pure, Result.andThen_ok, run_loadVar_row w g t ty _ _ d h hu hd (by rw [List.size_toArray, hn]; exact hi)]
theorem Av.rd {w : World} {g : Nat} {t : TypeId} {l : List Value} (h : Av w g t l) : Rd w (some ⟨g, 0, none⟩) l :=
  .inr ⟨g, 0, rfl, fun j u hu => by rw [Nat.zero_add]; exact h.cell j u hu⟩
theorem Av.alloc {w : World} {g : Nat} {t : TypeId} {l : List Value} (h : Av w g t l) (o : Obj) : Av (w.alloc o) g t l :=
  h.same (heap_alloc_old _ _ h.lt)
theorem Av.setCells {g : Nat} {t : TypeId} (vs : List Value) : ∀ (pre xs rest : List Value) (o : Nat) (w : World), Av w g t (pre ++ xs ++ rest) → pre.length = o → xs.length = vs.length →
    Av (w.setCells g o vs) g t (pre ++ vs ++ rest) := by
  induction vs with
  | nil =>
    intro pre xs rest o w h ho hx
    have : xs = [] := List.length_eq_zero_iff.mp hx
    subst this
    simpa [World.setCells] using h
  | cons v vs ih =>
    intro pre xs rest o w h ho hx
    match xs, hx with
    | x :: xs, hx =>
      have h2 : Av (w.setCell ⟨g, o, none⟩ v) g t ((pre ++ [v]) ++ xs ++ rest) := by
        have := h.set o v
        rw [show (pre ++ x :: xs ++ rest).set o v = (pre ++ [v]) ++ xs ++ rest by simp [← ho]] at this
        exact this
      have := ih (pre ++ [v]) xs rest (o + 1) _ h2 (by simp [ho]) (by simpa using hx)
      rw [World.setCells]
      simpa using this
theorem Av.rangeAt {w : World} {g : Nat} {t : TypeId} {pre cs rest : List Value} (h : Av w g t (pre ++ cs ++ rest)) (o : Nat) (ho : pre.length = o) : w.rangeAt g o cs := fun j v hv => by
  refine h.cell (o + j) v ?_
  have hj : j < cs.length := (List.getElem?_eq_some_iff.1 hv).1
  rw [List.append_assoc, List.getElem?_append_right (by omega), List.getElem?_append_left (by omega), ← hv]
  congr 1; omega
theorem Av.there {w : World} {g : Nat} {t : TypeId} {l : List Value} (h : Av w g t l) (o n : Nat) (hn : o + n ≤ l.length) : w.there g o n := fun j hj =>
  ⟨by rw [h.cell (o + j) _ (List.getElem?_eq_getElem (by omega))]; rfl, frozen_of_row _ _ _ _ _ h⟩
theorem below_setCells {B : Nat} {a : World} (vs : List Value) : ∀ (w : World) (g o : Nat), Below B a w → B ≤ g → Below B a (w.setCells g o vs) := by
  induction vs with
  | nil => intro w g o h hg; simpa [World.setCells] using h
  | cons v vs ih => intro w g o h hg; rw [World.setCells]; exact ih _ _ _ (h.setCell hg v) hg
theorem heap_setCells (vs : List Value) : ∀ (w : World) (g o k : Nat), k ≠ g → (w.setCells g o vs).heap[k]? = w.heap[k]? := by
  induction vs with
  | nil => intro w g o k h; simp [World.setCells]
  | cons v vs ih => intro w g o k h; rw [World.setCells, ih _ _ _ _ h, heap_setCell_other w _ k v h]
theorem exec_load_mid {P : Program} {w : World} {o : Oper} {ρ : Operand → Value} (ty : TypeId) (x : Operand) (ho : o.op = .load ty x) (b off : Nat) (hx : ρ x = .pointer (some ⟨b, off, none⟩)) (cs : List Value) (d : TypeDesc) (hc : w.rangeAt b off cs)
    (hu : P.underlying ty = some d) (hd : d.isRow = true) (hi : (P.info? ty).map (·.size) = some cs.length) : (execOp ρ o).run P w = .ok (.value (.agg cs.toArray)) w := by
  unfold execOp
  simp only [ho, hx, Instr.loadAt, Instr.sureAddr, Sem.run_bind, Sem.run_pure, Result.andThen_ok, run_loadVar_mid w b off ty cs d hc hu hd hi]

/-! ### a row of the call's own, whatever its elements -/
end Go.Proofs.YtjgdmpbaikhflaaDoor

/- Words for memory: what a slice value reads as; it stays so while memory grows. -/
import Derived.Test.YtijnkieakenipaaDoorChecked
import Derived.WalkKit
import Derived.WalkSpells
import Derived.WalkLawsBesides
import Derived.Lib.Hide
namespace Go.Proofs.YtijnkieakenipaaDoor
open Go.RowKit

/-- the cell of a byte -/
abbrev bv (b : UInt8) : Value := .int .u8 (b.toNat : Int)

/-- From the address A on lie the cells xs. -/
def Rd (w : World) (A : Option Addr) (xs : List Value) : Prop :=
  xs = [] ∨ ∃ b off, A = some ⟨b, off, none⟩ ∧ ∀ j u, xs[j]? = some u → w.cell? ⟨b, off + j, none⟩ = some u

theorem Rd.nil (w : World) (A : Option Addr) : Rd w A [] := .inl rfl
theorem Rd.keep {w w' : World} {A : Option Addr} {xs : List Value} (h : Rd w A xs) (hk : ∀ b o v, w.cell? ⟨b, o, none⟩ = some v → w'.cell? ⟨b, o, none⟩ = some v) : Rd w' A xs := by
  rcases h with h | ⟨b, off, hA, hc⟩
  · exact .inl h
  · exact .inr ⟨b, off, hA, fun j u hu => hk _ _ _ (hc j u hu)⟩
theorem Rd.below {w w' : World} {A : Option Addr} {xs : List Value} (h : Rd w A xs) (hb : Below w.heap.size w w') : Rd w' A xs :=
  h.keep fun b o _ hv => (hb.cell (p := ⟨b, o, none⟩) (World.block_lt_of_cell? w _ hv)).trans hv
theorem Rd.drop {w : World} {b off : Nat} {xs : List Value} (h : Rd w (some ⟨b, off, none⟩) xs) (k : Nat) : Rd w (some ⟨b, off + k, none⟩) (xs.drop k) := by
  rcases h with h | ⟨b', off', hA, hc⟩
  · exact .inl (by simp [h])
  · cases hA
    refine .inr ⟨_, _, rfl, fun j u hu => ?_⟩
    rw [List.getElem?_drop] at hu
    rw [Nat.add_assoc]
    exact hc _ u hu
theorem Rd.take {w : World} {A : Option Addr} {xs : List Value} (h : Rd w A xs) (k : Nat) : Rd w A (xs.take k) := by
  rcases h with h | ⟨b', off', hA, hc⟩
  · exact .inl (by simp [h])
  · refine .inr ⟨_, _, hA, fun j u hu => ?_⟩
    rw [List.getElem?_take] at hu
    split at hu
    · exact hc _ u hu
    · cases hu
theorem Rd.cons {w : World} {A : Option Addr} {x : Value} {xs : List Value} (h : Rd w A (x :: xs)) :
    ∃ b off, A = some ⟨b, off, none⟩ ∧ ∀ j u, (x :: xs)[j]? = some u → w.cell? ⟨b, off + j, none⟩ = some u := by
  rcases h with h | h
  · cases h
  · exact h
theorem Rd.someA {w : World} {A : Option Addr} {xs : List Value} (h : Rd w A xs) (hx : xs ≠ []) : ∃ b off, A = some ⟨b, off, none⟩ := by
  rcases h with h | ⟨b, off, hA, _⟩
  · exact absurd h hx
  · exact ⟨b, off, hA⟩
theorem Rd.lt {w : World} {A : Option Addr} {xs : List Value} (h : Rd w A xs) (hx : xs ≠ []) (a : Addr) (ha : A = some a) : a.block < w.heap.size := by
  rcases h with e | ⟨b, off, e, hc⟩
  · exact absurd e hx
  · rw [e] at ha; cases ha
    obtain ⟨x, xs', rfl⟩ := List.exists_cons_of_ne_nil hx
    exact World.block_lt_of_cell? w _ (hc 0 x rfl)
end Go.Proofs.YtijnkieakenipaaDoor

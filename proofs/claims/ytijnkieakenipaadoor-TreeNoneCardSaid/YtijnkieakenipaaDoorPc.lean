/- Pieces of a row of elements. -/
import Derived.Test.YtijnkieakenipaaDoorAv
namespace Go.Proofs.YtijnkieakenipaaDoor
open Go.RowKit
theorem Rd.piece {α : Type} {w : World} {b off : Nat} (f : α → List Value) (n : Nat) : ∀ (l : List α) (_ : ∀ e ∈ l, (f e).length = n) (_ : Rd w (some ⟨b, off, none⟩) (l.flatMap f)) (k : Nat) (e : α) (_ : l[k]? = some e), w.rangeAt b (off + k * n) (f e)
  | [], _, _, k, e, hk => by simp at hk
  | x :: l, hl, hr, 0, e, hk => by
    obtain rfl : x = e := by simpa using hk
    intro j v hv
    rcases hr with h | ⟨b', o', hA, hc⟩
    · rw [List.flatMap_cons] at h
      rw [(List.append_eq_nil_iff.1 h).1] at hv
      simp at hv
    · cases hA
      have hj := (List.getElem?_eq_some_iff.1 hv).1
      have := hc j v (by rw [List.flatMap_cons, List.getElem?_append_left hj]; exact hv)
      rw [Nat.zero_mul, Nat.add_zero]
      exact this
  | x :: l, hl, hr, k + 1, e, hk => by
    have hx := hl x (List.mem_cons_self ..)
    have h2 := hr.drop n
    rw [List.flatMap_cons, List.drop_append, List.drop_of_length_le (by rw [hx]; exact Nat.le_refl _), hx, Nat.sub_self, List.drop_zero, List.nil_append] at h2
    have := Rd.piece f n l (fun e he => hl e (List.mem_cons_of_mem _ he)) h2 k e (by simpa using hk)
    rw [show off + (k + 1) * n = off + n + k * n by rw [Nat.add_mul, Nat.one_mul]; omega]
    exact this
theorem flat_length {α β : Type} (f : α → List β) (n : Nat) : ∀ (l : List α) (_ : ∀ e ∈ l, (f e).length = n), (l.flatMap f).length = l.length * n
  | [], _ => by simp
  | x :: l, h => by
    rw [List.flatMap_cons, List.length_append, h x (List.mem_cons_self ..), flat_length f n l fun e he => h e (List.mem_cons_of_mem _ he), List.length_cons, Nat.add_mul, Nat.one_mul, Nat.add_comm]
end Go.Proofs.YtijnkieakenipaaDoor

/- Hashes in memory: slices of hashes. -/
import Derived.Test.YtngindljhlbglaaDoorShD
import Derived.Test.YtngindljhlbglaaDoorBld
namespace Go.Proofs.YtngindljhlbglaaDoor
open Go.RowKit

/-- the cells of hashes -/
def hcl (l : List (List UInt8)) : List Value := l.flatMap fun x => x.map bv
def All32 (l : List (List UInt8)) : Prop := ∀ x ∈ l, x.length = 32
theorem hcl_nil : hcl [] = [] := rfl
theorem hcl_cons (x : List UInt8) (l : List (List UInt8)) : hcl (x :: l) = x.map bv ++ hcl l := rfl
theorem hcl_append (l k : List (List UInt8)) : hcl (l ++ k) = hcl l ++ hcl k := by simp [hcl]
theorem hcl_one (x : List UInt8) : hcl [x] = x.map bv := by simp [hcl]
theorem All32.tail {x : List UInt8} {l : List (List UInt8)} (h : All32 (x :: l)) : All32 l := fun y hy => h y (List.mem_cons_of_mem _ hy)
theorem All32.get {l : List (List UInt8)} (h : All32 l) (i : Nat) (hi : i < l.length) : (l.getD i []).length = 32 := by
  rw [List.getD_eq_getElem?_getD, List.getElem?_eq_getElem hi]
  exact h _ (List.getElem_mem hi)
theorem All32.append {l k : List (List UInt8)} (h : All32 l) (h' : All32 k) : All32 (l ++ k) := fun x hx => (List.mem_append.1 hx).elim (h x) (h' x)
theorem All32.one {x : List UInt8} (h : x.length = 32) : All32 [x] := fun y hy => by rw [List.mem_singleton.1 hy]; exact h
theorem hcl_length {l : List (List UInt8)} (h : All32 l) : (hcl l).length = 32 * l.length := by
  induction l with
  | nil => rfl
  | cons x l ih => rw [hcl_cons, List.length_append, List.length_map, ih h.tail, h x (List.mem_cons_self ..), List.length_cons]; omega
theorem hcl_get {l : List (List UInt8)} (h : All32 l) (i j : Nat) (hi : i < l.length) (hj : j < 32) : (hcl l)[32 * i + j]? = ((l.getD i []).map bv)[j]? := by
  induction l generalizing i with
  | nil => simp at hi
  | cons x l ih =>
    have hx := h x (List.mem_cons_self ..)
    cases i with
    | zero => rw [hcl_cons, Nat.mul_zero, Nat.zero_add, List.getElem?_append_left (by rw [List.length_map, hx]; exact hj)]; rfl
    | succ i =>
      rw [hcl_cons, List.getElem?_append_right (by rw [List.length_map, hx]; omega), List.length_map, hx, show 32 * (i + 1) + j - 32 = 32 * i + j by omega, ih h.tail i (by simpa using hi)]
      rfl
theorem hcl_one' (l : List (List UInt8)) : ∀ u ∈ hcl l, u.oneCell' = true := by
  intro u hu
  simp only [hcl, List.mem_flatMap, List.mem_map] at hu
  obtain ⟨_, _, b, _, rfl⟩ := hu
  rfl
/-- one hash of many -/
theorem Rd.hash {w : World} {b off : Nat} {l : List (List UInt8)} (h : Rd w (some ⟨b, off, none⟩) (hcl l)) (h32 : All32 l) (i : Nat) (hi : i < l.length) : w.rangeAt b (off + i * 32) ((l.getD i []).map bv) := by
  intro j v hv
  have hj : j < 32 := by
    have := (List.getElem?_eq_some_iff.1 hv).1
    rw [List.length_map, h32.get i hi] at this
    exact this
  rw [← hcl_get h32 i j hi hj] at hv
  rcases h with h | ⟨b', off', hA, hc⟩
  · rw [h] at hv; simp at hv
  · cases hA
    rw [show off + i * 32 + j = off + (32 * i + j) by omega]
    exact hc _ _ hv
theorem hcl_ne {l : List (List UInt8)} (h : All32 l) (hl : 0 < l.length) : hcl l ≠ [] := fun e => by
  have := hcl_length h
  rw [e] at this
  simp at this
  omega

theorem info_h : (Tryd.prog.info? 25).map (fun i => (i.size, i.bytes)) = some (32, 32) := by kernel_rfl
theorem zero_h : (Tryd.prog.info? 25).map (fun i => (i.zero.map (·.cells))) = some (some (Array.replicate 32 (.int .u8 0))) := by kernel_rfl

/-- 'append(s, x..)' of hashes -/
theorem wpList_appH {w0 w : World} {base : Nat} {v : Value} {n : Nat} {xs : List (List UInt8)} (hown : w.ownsRow base 25 32 v n (hcl xs)) (hb : Below base w0 w) (hbase : base ≤ w.heap.size)
    {A : Option Addr} {l : List (List UInt8)} (h32 : All32 l) (m c : Nat) (hr : Rd w A (hcl l)) (hl : l.length = m) (hm : (n + m) * 32 ≤ 140737488355328)
    {ops : Array Oper} {rest : List Oper} {o : Oper} {a : Act} {Q : Exit → Act → World → Prop} (hgd : o.guard = none) (s x : Operand)
    (ho : o.op = .call { callee := .builtin .append, args := #[s, x], argTypes := #[22, 22] })
    (hs : a.eval s = v) (hx : a.eval x = .slice A m c)
    (h : ∀ v' w', w'.ownsRow base 25 32 v' (n + m) (hcl (xs ++ l)) → Below base w0 w' → w.heap.size ≤ w'.heap.size → w.grownBy w' v.ownBlock → (v'.ownBlock = v.ownBlock ∨ v'.ownBlock = some w.heap.size) → wpList Tryd.prog ops Q rest (a.put o.dst v') w') : wpList Tryd.prog ops Q (o :: rest) a w := by
  obtain ⟨i0, hi, hz⟩ := Option.map_eq_some_iff.1 info_h
  obtain ⟨i1, hi1, hz1⟩ := Option.map_eq_some_iff.1 zero_h
  obtain rfl : i1 = i0 := by rw [hi] at hi1; exact (Option.some.inj hi1).symm
  obtain ⟨z, hz2, hz3⟩ := Option.map_eq_some_iff.1 hz1
  injection hz with hz4 hz5
  refine wpList_append_rd w hgd s x 22 ho base 25 i1 z 32 32 Tryd.underlying22 hi hz2 hz4 hz5 (by rw [hz3]; simp) (by decide) v n (hcl xs) hs hown
    A m c (hcl l) hx (by rw [hcl_length h32, hl]; omega) hr (hcl_one' l) (by simp only [maxLen]; omega) hm hbase ?_
  intro v' w' h1 h2 h3
  refine h v' w' ?_ (own_app hb hown h2 hbase) h2.size h2 h3
  rw [hcl_append]
  exact h1
end Go.Proofs.YtngindljhlbglaaDoor

/- Bp; CPua: put together for the claim. -/
import Derived.Test.YtijnkieakenipaaDoorAv
import Derived.Laws.Tables
import Derived.Test.YtijnkieakenipaaDoorApp
import Derived.Test.YtijnkieakenipaaDoorPr3
/- A struct or an array built of parts: part by part. -/
namespace Go.Proofs.YtijnkieakenipaaDoor
open Go.RowKit
theorem fold_splice (off : Nat) : ∀ (xs old pre post : List Value) (k : Nat), old.length = xs.length → pre.length = off + k →
    (xs.zipIdx k).foldl (fun (cs : Array Value) (p : Value × Nat) => cs.setIfInBounds (off + p.2) p.1) (pre ++ (old ++ post)).toArray = (pre ++ (xs ++ post)).toArray
  | [], old, pre, post, k, h, _ => by
    have : old = [] := List.eq_nil_of_length_eq_zero h
    subst this
    rfl
  | x :: xs, [], pre, post, k, h, _ => by simp at h
  | x :: xs, y :: old, pre, post, k, h, hp => by
    simp only [List.zipIdx_cons, List.foldl_cons]
    have e : (pre ++ (y :: old ++ post)).toArray.setIfInBounds (off + k) x = ((pre ++ [x]) ++ (old ++ post)).toArray := by
      rw [List.setIfInBounds_toArray, ← hp, List.set_append_right _ _ (Nat.le_refl _)]
      simp
    rw [e, fold_splice off xs old (pre ++ [x]) post (k + 1) (by simpa using h) (by simp; omega)]
    simp
/-- one part -/
theorem fill_step {place : Nat → Option (Nat × Nat)} (pre old xs post : List Value) {i off size : Nat} {v : Value} {rest : List (Nat × Value)} (hp : place i = some (off, size)) (hv : v.cells = xs.toArray) (hx : xs.length = size) (ho : pre.length = off) (hl : old.length = size) :
    Instr.fill place (pre ++ (old ++ post)).toArray ((i, v) :: rest) = Instr.fill place (pre ++ (xs ++ post)).toArray rest := by
  rw [Instr.fill, hp]
  simp only
  rw [if_neg (by rw [hv]; simp [hx]; omega), hv]
  congr 1
  have := fold_splice off xs old pre post 0 (by omega) (by omega)
  rw [← this]
  simp
theorem built_struct {P : Program} {t : TypeId} {fields : Array Field} {z : Value} {places : List (Nat × Nat)} {parts : List (Nat × Value)} (hu : P.underlying t = some (.struct fields)) (hz : (P.info? t).map (·.zero) = some (some z))
    (hp : fields.toList.mapM (fun f => (P.info? f.type).map fun i => (f.offset, i.size)) = some places) : P.built t parts = Instr.fill (places.toArray[·]?) z.cells parts := by
  obtain ⟨i, hi, hzi⟩ := Option.map_eq_some_iff.1 hz
  unfold Program.built
  rw [hi, hu]
  simp only [hzi, hp]
theorem exec_build {P : Program} {t : TypeId} {cs : List Value} {w : World} {o : Oper} {ρ : Operand → Value} {ops : List (Nat × Operand)} (ho : o.op = .build t ops.toArray) (h : P.built t (ops.map fun p => (p.1, ρ p.2)) = some cs.toArray) : (execOp ρ o).run P w = .ok (.value (.agg cs.toArray)) w := by
  have := run_build (P := P) w t (ops.map fun p => (p.1, ρ p.2)).toArray cs.toArray (by simpa using h)
  unfold execOp
  simp only [ho, List.map_toArray]
  simp only [Sem.run_bind, this, Result.andThen_ok]
  rfl
end Go.Proofs.YtijnkieakenipaaDoor
/- Bytes of a number; what append makes. -/
namespace Go.Proofs.YtijnkieakenipaaDoor
open Go.RowKit

theorem made_bytes (n s : Nat) (k : Int) (hk : k = s) (h : (n : Int) + s ≤ 140737488355328) (u : World) :
    (Instr.makeSlice 67 (.int .i64 0) (.int .i64 ((n : Int) + k))).run Tryd.prog u = .ok (.slice (some ⟨u.heap.size, 0, none⟩) 0 (n + s)) (u.alloc (.cells (madeCells #[.int .u8 0] (n + s)) 5)) := by
  subst hk
  obtain ⟨i0, hi, hz0, hz1, hz2⟩ := info_parts info_u8
  have h := run_make (P := Tryd.prog) u 67 5 i0 (.int .u8 0) Tryd.underlying67 hi hz0 .i64 .i64 (0 : Int) ((n : Int) + s) (by omega) (by omega) (by rw [hz2]; omega) (by omega)
  have e : ((n : Int) + s).toNat = n + s := by omega
  rw [e] at h
  simpa [hz1, Value.cells] using h
theorem byte_at (m : Int) (h : 0 ≤ m) (k : Nat) : m / 2 ^ (8 * k) % 256 = ((UInt8.ofNat (m.toNat / 256 ^ k)).toNat : Int) := by
  obtain ⟨n, rfl⟩ := Int.eq_ofNat_of_zero_le h
  have e : (UInt8.ofNat (n / 256 ^ k)).toNat = n / 256 ^ k % 256 := UInt8.toNat_ofNat'
  rw [Int.toNat_natCast, e, pow_256]
  simp
theorem byte_of (m : Int) (h : 0 ≤ m) : m % 256 = ((UInt8.ofNat m.toNat).toNat : Int) := by
  obtain ⟨n, rfl⟩ := Int.eq_ofNat_of_zero_le h
  have e : (UInt8.ofNat n).toNat = n % 256 := UInt8.toNat_ofNat'
  rw [Int.toNat_natCast, e]
  simp
end Go.Proofs.YtijnkieakenipaaDoor

/- Hashes and strings compared. -/
import Derived.Test.YtngindljhlbglaaDoorPr1
import Derived.Stop.BytesEq
namespace Go.Proofs.YtngindljhlbglaaDoor
open Go.RowKit
theorem sizeOf_u8 (w : World) : (sizeOf 5).run Tryd.prog w = .ok 1 w := by
  obtain ⟨i0, hi, hz⟩ := Option.map_eq_some_iff.1 size_u8
  simp [sizeOf, typeInfo, hi, hz]
theorem eqlP (x y : List UInt8) (hx : x.length = 32) (hy : y.length = 32) (w : World) : (binOp .eql 25 (.agg (x.map bv).toArray) (.agg (y.map bv).toArray)).run Tryd.prog w = .ok (.bool (x == y)) w :=
  run_eql_bytes w 25 5 32 Tryd.underlying25 Tryd.underlying5 sizeOf_u8 x y hx hy
theorem neqP (x y : List UInt8) (hx : x.length = 32) (hy : y.length = 32) (w : World) : (binOp .neq 25 (.agg (x.map bv).toArray) (.agg (y.map bv).toArray)).run Tryd.prog w = .ok (.bool (!(x == y))) w := by
  have h := run_equalIn_bytes w 9998 25 5 32 Tryd.underlying25 Tryd.underlying5 sizeOf_u8 x y hx hy
  rw [run_neq_struct]
  exact (congrArg (fun r : Result Bool => r.andThen fun b w' => .ok (Value.bool (!b)) w') h)
theorem map_take_step {α β : Type} (f : α → β) (a b : List α) (k : Nat) (x y : α) (hx : a[k]? = some x) (hy : b[k]? = some y) (h : (a.take k).map f = (b.take k).map f) (hd : f x = f y) : (a.take (k + 1)).map f = (b.take (k + 1)).map f := by
  rw [List.take_add_one, List.take_add_one, List.map_append, List.map_append, h, hx, hy]
  simp [hd]
end Go.Proofs.YtngindljhlbglaaDoor

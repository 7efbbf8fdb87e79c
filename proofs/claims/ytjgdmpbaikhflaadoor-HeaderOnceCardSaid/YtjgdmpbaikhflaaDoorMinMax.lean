/- min and max of two ints, the answer under a name of one's own. -/
import Derived.Test.YtjgdmpbaikhflaaDoorMem
namespace Go.Proofs.YtjgdmpbaikhflaaDoor
open Go.RowKit
section
variable {P : Program} {w : World} {ops : Array Oper} {rest : List Oper} {o : Oper} {a : Act} {Q : Exit → Act → World → Prop}
theorem run_min_i64 (ats : Array TypeId) (ty : TypeId) (X Y Z : Int) (hz : min X Y = Z) (w : World) : (Builtin.min_ ats ty #[.int .i64 X, .int .i64 Y]).run P w = .ok (.int .i64 Z) w := by
  subst hz
  have h : min X Y = if Y < X then Y else X := by
    split <;> omega
  rw [h]
  simp [Builtin.min_, Builtin.min2, Sem.run_pure]
theorem run_max_i64 (ats : Array TypeId) (ty : TypeId) (X Y Z : Int) (hz : max X Y = Z) (w : World) : (Builtin.max_ ats ty #[.int .i64 X, .int .i64 Y]).run P w = .ok (.int .i64 Z) w := by
  subst hz
  have h : max X Y = if Y > X then Y else X := by
    split <;> omega
  rw [h]
  simp [Builtin.max_, Builtin.max2, Sem.run_pure]
theorem wpList_min (x y : Operand) (ats : Array TypeId) {X Y : Int} (Z : Int) (hz : min X Y = Z) (hgd : o.guard = none) (ho : o.op = .call { callee := .builtin .min, args := #[x, y], argTypes := ats })
    (hx : a.eval x = .int .i64 X) (hy : a.eval y = .int .i64 Y) (h : wpList P ops Q rest (a.put o.dst (.int .i64 Z)) w) : wpList P ops Q (o :: rest) a w := by
  refine wpList_plain hgd fun K hK => ?_
  unfold Oper.wp execOp
  simp only [ho, resolve, invoke, builtin, Sem.run_bind, Sem.run_pure, Result.andThen_ok, List.map_toArray, List.map_cons, List.map_nil, hx, hy, run_min_i64 _ _ X Y Z hz]
  exact hK _ _ h
theorem wpList_max (x y : Operand) (ats : Array TypeId) {X Y : Int} (Z : Int) (hz : max X Y = Z) (hgd : o.guard = none) (ho : o.op = .call { callee := .builtin .max, args := #[x, y], argTypes := ats })
    (hx : a.eval x = .int .i64 X) (hy : a.eval y = .int .i64 Y) (h : wpList P ops Q rest (a.put o.dst (.int .i64 Z)) w) : wpList P ops Q (o :: rest) a w := by
  refine wpList_plain hgd fun K hK => ?_
  unfold Oper.wp execOp
  simp only [ho, resolve, invoke, builtin, Sem.run_bind, Sem.run_pure, Result.andThen_ok, List.map_toArray, List.map_cons, List.map_nil, hx, hy, run_max_i64 _ _ X Y Z hz]
  exact hK _ _ h
end
end Go.Proofs.YtjgdmpbaikhflaaDoor

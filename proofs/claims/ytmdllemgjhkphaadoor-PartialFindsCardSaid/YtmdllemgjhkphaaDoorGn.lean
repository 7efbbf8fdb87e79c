/- A struct result beside a plain one; guarded loads of rows, guarded operations. -/
import Derived.Test.YtmdllemgjhkphaaDoorRelG
import Derived.Test.YtmdllemgjhkphaaDoorBlf
namespace Go.Proofs.YtmdllemgjhkphaaDoor
open Go.RowKit
theorem results_cellU {fn : Func} {p u : Tmp} {ty : TypeId} (h : fn.results = #[.cell p ty, .tmp u]) {tmps : Array Value} {P : Program} {w : World} {g : Nat} {t : TypeId} {C : List Value} (hp : tmps.getD p undef = .pointer (some ⟨g, 0, none⟩)) (ha : Av w g t C) (d : TypeDesc) (hu : P.underlying ty = some d) (hd : d.isRow = true)
    (n : Nat) (hn : C.length = n) (hi : (P.info? ty).map (·.size) = some n) :
    (results fn tmps).run P w = .ok (.tuple #[.agg C.toArray, tmps.getD u undef]) w := by
  rw [results_cell_tmp h, hp]
  simp only [asAddr, Sem.run_pure, Result.andThen_ok, run_loadVar_row w g t ty _ _ d ha hu (by cases d <;> first | rfl | (simp [TypeDesc.isRow] at hd)) (by rw [List.size_toArray, hn]; exact hi)]
theorem wpList_binG {P : Program} {ops : Array Oper} {rest : List Oper} {a : Act} {w : World} {Q : Exit → Act → World → Prop} {d tp pos af gd} {op : BinOp} {ty ty' : TypeId} {x y : Operand} (hw : Region.wanted ⟨d, .binOp op ty x y ty', tp, pos, af, gd⟩ (yielded ops a.tmps) = true) {X Y : Value} (hx : a.eval x = X) (hy : a.eval y = Y) {c : Value}
    (h : ((do eqGuard op ty x y X Y; binOp op ty X Y : Sem Value)).run P w = .ok c w) (k : wpList P ops Q rest (a.put d c) w) : wpList P ops Q (⟨d, .binOp op ty x y ty', tp, pos, af, gd⟩ :: rest) a w := by
  refine wpList_execW hw ?_ k
  have e : execOp a.eval ⟨d, .binOp op ty x y ty', tp, pos, af, gd⟩ = (do pure (.value (← (do eqGuard op ty x y (a.eval x) (a.eval y); binOp op ty (a.eval x) (a.eval y))))) := by
    unfold execOp
    rfl
  rw [e, hx, hy, Sem.run_bind, h]
  rfl
theorem wpList_loadG {P : Program} (ty : TypeId) {w : World} {g : Nat} {t : TypeId} {l : List Value} (h : Av w g t l) {ops : Array Oper} {rest : List Oper} {a : Act} {Q : Exit → Act → World → Prop} {d tp pos af gd} {x : Operand}
    (hw : Region.wanted ⟨d, .load ty x, tp, pos, af, gd⟩ (yielded ops a.tmps) = true) (hx : a.eval x = .pointer (some ⟨g, 0, none⟩)) (dd : TypeDesc) (n : Nat) (hn : l.length = n) (hu : P.underlying ty = some dd) (hd : (match dd with | .struct _ | .array _ _ => true | _ => false) = true) (hi : (P.info? ty).map (·.size) = some n)
    (k : wpList P ops Q rest (a.put d (.agg l.toArray)) w) : wpList P ops Q (⟨d, .load ty x, tp, pos, af, gd⟩ :: rest) a w :=
  wpList_execW hw (exec_loadAv h ty x rfl hx dd n hn hu hd hi) k
end Go.Proofs.YtmdllemgjhkphaaDoor

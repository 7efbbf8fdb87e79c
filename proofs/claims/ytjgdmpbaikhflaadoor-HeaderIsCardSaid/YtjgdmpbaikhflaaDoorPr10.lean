/- Gn; Eqi: put together for the claim. -/
import Derived.Test.YtjgdmpbaikhflaaDoorRelG
import Derived.Test.YtjgdmpbaikhflaaDoorPr7
import Derived.Stop.BytesEq
import Derived.Test.YtjgdmpbaikhflaaDoorPr1
/- A struct result beside a plain one; guarded loads of rows, guarded operations. -/
namespace Go.Proofs.YtjgdmpbaikhflaaDoor
open Go.RowKit
theorem results_cellU {fn : Func} {p u : Tmp} {ty : TypeId} (h : fn.results = #[.cell p ty, .tmp u]) {tmps : Array Value} {P : Program} {w : World} {g : Nat} {t : TypeId} {C : List Value} (hp : tmps.getD p undef = .pointer (some ⟨g, 0, none⟩)) (ha : Av w g t C) (d : TypeDesc) (hu : P.underlying ty = some d) (hd : d.isRow = true)
    (n : Nat) (hn : C.length = n) (hi : (P.info? ty).map (·.size) = some n) :
    (results fn tmps).run P w = .ok (.tuple #[.agg C.toArray, tmps.getD u undef]) w := by
  rw [results_cell_tmp h, hp]
  simp only [asAddr, Sem.run_pure, Result.andThen_ok, run_loadVar_row w g t ty _ _ d ha hu (by cases d <;> first | rfl | (simp [TypeDesc.isRow] at hd)) (by rw [List.size_toArray, hn]; exact hi)]
theorem wpList_binG {P : Program} {ops : Array Oper} {rest : List Oper} {a : Act} {w : World} {Q : Exit → Act → World → Prop} {d tp pos af gd} {op : BinOp} {ty ty' : TypeId} {x y : Operand} (hw : Region.wanted ⟨d, .binOp op ty x y ty', tp, pos, af, gd⟩ (yielded ops a.tmps) = true) {X Y : Value} (hx : a.eval x = X) (hy : a.eval y = Y) {c : Value}
    (h : ((do eqGuard op ty x y X Y; binOp op ty X Y : Sem Value)).run P w = .ok c w) (k : wpList P ops Q rest (a.put d c) w) : wpList P ops Q (⟨d, .binOp op ty x y ty', tp, pos, af, gd⟩ :: rest) a w := by
  refine wpList_execW hw ?_ k
  have e : execOp a.eval ⟨d, .binOp op ty x y ty', tp, pos, af, gd⟩ = (do pure (.value (← (do eqGuard op ty x y (a.eval x) (a.eval y); binOp op ty (a.eval x) (a.eval y))))) := by
    unfold execOp
    rfl
  rw [e, hx, hy, Sem.run_bind, h]
  rfl
theorem wpList_loadG {P : Program} (ty : TypeId) {w : World} {g : Nat} {t : TypeId} {l : List Value} (h : Av w g t l) {ops : Array Oper} {rest : List Oper} {a : Act} {Q : Exit → Act → World → Prop} {d tp pos af gd} {x : Operand}
    (hw : Region.wanted ⟨d, .load ty x, tp, pos, af, gd⟩ (yielded ops a.tmps) = true) (hx : a.eval x = .pointer (some ⟨g, 0, none⟩)) (dd : TypeDesc) (n : Nat) (hn : l.length = n) (hu : P.underlying ty = some dd) (hd : (match dd with | .struct _ | .array _ _ => true | _ => false) = true) (hi : (P.info? ty).map (·.size) = some n)
    (k : wpList P ops Q rest (a.put d (.agg l.toArray)) w) : wpList P ops Q (⟨d, .load ty x, tp, pos, af, gd⟩ :: rest) a w :=
  wpList_execW hw (exec_loadAv h ty x rfl hx dd n hn hu hd hi) k
end Go.Proofs.YtjgdmpbaikhflaaDoor
/- Arrays of whole numbers compared. -/
namespace Go.Proofs.YtjgdmpbaikhflaaDoor
open Go.RowKit
theorem all_range_eqI : ∀ (xs ys : List Int), xs.length = ys.length → (List.range xs.length).all (fun i => xs.getD i 0 == ys.getD i 0) = (xs == ys)
  | [], [], _ => rfl
  | x :: xs, y :: ys, h => by
    rw [List.length_cons, List.range_succ_eq_map, List.all_cons, List.all_map]
    have ih := all_range_eqI xs ys (by simpa using h)
    rw [List.cons_beq_cons, ← ih]
    rfl
  | [], _ :: _, h => by simp at h
  | _ :: _, [], h => by simp at h
theorem run_equalIn_ints {P : Program} (w : World) (d : Nat) (t e : TypeId) (n : Nat) (k : IntKind) (ht : P.underlying t = some (.array n e)) (he : P.underlying e = some (.int k)) (hsz : ∀ w, (sizeOf e).run P w = .ok 1 w)
    (xs ys : List Int) (hx : xs.length = n) (hy : ys.length = n) :
    (Op.equalIn (d + 2) t (.agg (xs.map (Value.int k)).toArray) (.agg (ys.map (Value.int k)).toArray)).run P w = .ok (xs == ys) w := by
  rw [← all_range_eqI xs ys (hx.trans hy.symm), hx, List.range_eq_range', Op.equalIn]
  simp only [Sem.run_bind, run_underlying ht, Result.andThen_ok, hsz, Std.Legacy.Range.forIn_eq_forIn_range', Std.Legacy.Range.size, Nat.sub_zero, Nat.add_sub_cancel, Nat.div_one]
  have hl : ∀ i ∈ List.range' 0 n 1, i < n := fun i hi => by simpa using (List.mem_range'_1.1 hi).2
  generalize List.range' 0 n 1 = l at hl ⊢
  induction l with
  | nil => simp
  | cons i l ih =>
    have hi : i < n := hl i (by simp)
    have px : (part e (xs.map (Value.int k)).toArray (i * 1)).run P w = .ok (Value.int k (xs.getD i 0)) w := by
      simp [part, isAgg, run_underlying he, List.getD, List.getElem?_eq_getElem (show i < xs.length by omega)]
    have py : (part e (ys.map (Value.int k)).toArray (i * 1)).run P w = .ok (Value.int k (ys.getD i 0)) w := by
      simp [part, isAgg, run_underlying he, List.getD, List.getElem?_eq_getElem (show i < ys.length by omega)]
    have pe : (Op.equalIn (d + 1) e (Value.int k (xs.getD i 0)) (Value.int k (ys.getD i 0))).run P w = .ok (xs.getD i 0 == ys.getD i 0) w := by
      rw [run_equalIn_int w d e k k _ _ he]
    simp only [List.forIn_cons, Sem.run_bind, px, py, pe, Result.andThen_ok, List.all_cons]
    cases hb : (xs.getD i 0 == ys.getD i 0)
    · simp
    · simp only [Bool.not_true, Bool.false_eq_true, if_false, Sem.run_pure, Result.andThen_ok, Bool.true_and]
      exact ih fun j hj => hl j (by simp [hj])
end Go.Proofs.YtjgdmpbaikhflaaDoor

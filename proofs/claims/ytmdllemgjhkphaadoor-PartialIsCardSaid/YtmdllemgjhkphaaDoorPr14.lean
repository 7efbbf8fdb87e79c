/- Gn; Row: put together for the claim. -/
import Derived.Test.YtmdllemgjhkphaaDoorRelG
import Derived.Test.YtmdllemgjhkphaaDoorPr6
import Derived.Test.YtmdllemgjhkphaaDoorPr2
import Derived.Test.YtmdllemgjhkphaaDoorPr13
/- A struct result beside a plain one; guarded loads of rows, guarded operations. -/
namespace Go.Proofs.YtmdllemgjhkphaaDoor
open Go.RowKit
theorem results_cellU {fn : Func} {p u : Tmp} {ty : TypeId} (h : fn.results = #[.cell p ty, .tmp u]) {tmps : Array Value} {P : Program} {w : World} {g : Nat} {t : TypeId} {C : List Value} (hp : tmps.getD p undef = .pointer (some ⟨g, 0, none⟩)) (ha : Av w g t C) (d : TypeDesc) (hu : P.underlying ty = some d) (hd : d.isRow = true)
    (n : Nat) (hn : C.length = n) (hi : (P.info? ty).map (·.size) = some n) :
    (results fn tmps).run P w = .ok (.tuple #[.agg C.toArray, tmps.getD u undef]) w := by
  rw [results_cell_tmp h, hp]
  simp only [asAddr, Sem.run_pure, Result.andThen_ok, run_loadVar_row w g t ty _ _ d ha hu (by cases d <;> first | rfl | (simp [TypeDesc.isRow] at hd)) (by rw [List.size_toArray, hn]; exact hi)]
theorem wpList_binG {P : Program} {ops : Array Oper} {rest : List Oper} {a : Act} {w : World} {Q : Exit → Act → World → Prop} {d tp pos af gd} {op : BinOp} {ty ty' : TypeId} {x y : Operand} (hw : Region.wanted ⟨d, .binOp op ty x y ty', tp, pos, af, gd⟩ (yielded ops a.tmps) = true) {X Y : Value} (hx : a.eval x = X) (hy : a.eval y = Y) {c : Value}
    (h : ((do eqGuard op ty x y X Y; binOp op ty X Y : Sem Value)).run P w = .ok c w) (k : wpList P ops Q rest (a.put d c) w) : wpList P ops Q (⟨d, .binOp op ty x y ty', tp, pos, af, gd⟩ :: rest) a w := by
  refine wpList_execW hw ?_ k
  have e : execOp a.eval ⟨d, .binOp op ty x y ty', tp, pos, af, gd⟩ = (do pure (.value (← (do eqGuard op ty x y (a.eval x) (a.eval y); binOp op ty (a.eval x) (a.eval y))))) := by
    unfold execOp
    rfl
  rw [e, hx, hy, Sem.run_bind, h]
  rfl
theorem wpList_loadG {P : Program} (ty : TypeId) {w : World} {g : Nat} {t : TypeId} {l : List Value} (h : Av w g t l) {ops : Array Oper} {rest : List Oper} {a : Act} {Q : Exit → Act → World → Prop} {d tp pos af gd} {x : Operand}
    (hw : Region.wanted ⟨d, .load ty x, tp, pos, af, gd⟩ (yielded ops a.tmps) = true) (hx : a.eval x = .pointer (some ⟨g, 0, none⟩)) (dd : TypeDesc) (n : Nat) (hn : l.length = n) (hu : P.underlying ty = some dd) (hd : (match dd with | .struct _ | .array _ _ => true | _ => false) = true) (hi : (P.info? ty).map (·.size) = some n)
    (k : wpList P ops Q rest (a.put d (.agg l.toArray)) w) : wpList P ops Q (⟨d, .load ty x, tp, pos, af, gd⟩ :: rest) a w :=
  wpList_execW hw (exec_loadAv h ty x rfl hx dd n hn hu hd hi) k
end Go.Proofs.YtmdllemgjhkphaaDoor
/- A slice of bytes that came in. -/
namespace Go.Proofs.YtmdllemgjhkphaaDoor
open Go.RowKit

/-- a slice of bytes that came in -/
theorem row_bytes {w : World} {a : Option Addr} {len cap : Nat} {zs : List Int}
    (h : (a = none ∧ len = 0 ∧ cap = 0 ∧ zs = []) ∨ ∃ x, a = some x ∧ len ≤ cap ∧ cap ≤ maxLen ∧ zs.length = cap ∧ (∀ i, i < zs.length → w.cell? (x.add i) = some (.int .u8 (zs.getD i 0))) ∧ ∀ n ∈ zs, (Lit.int .u8 n).wf = true) :
    ∃ bs : List UInt8, bs.length = len ∧ len ≤ cap ∧ cap ≤ maxLen ∧ Rd w a (bs.map bv) := by
  rcases h with ⟨rfl, rfl, rfl, rfl⟩ | ⟨x, rfl, hl, hm, hz, hc, hw⟩
  · exact ⟨[], rfl, Nat.le_refl _, by simp [maxLen], Rd.nil _ _⟩
  · refine ⟨(zs.take len).map fun n => UInt8.ofNat n.toNat, by rw [List.length_map, List.length_take]; omega, hl, hm, ?_⟩
    by_cases h0 : zs.length = 0
    · have : zs = [] := List.eq_nil_of_length_eq_zero h0
      subst this
      simp
      exact Rd.nil _ _
    · have hx : x = ⟨x.block, x.off, none⟩ := by
        have := hc 0 (by omega)
        have hs : x.spot = none := by
          cases hsp : x.spot with
          | none => rfl
          | some s =>
            simp [World.cell?, Addr.add, hsp] at this
            split at this <;> simp at this
        cases x
        simp_all
      refine .inr ⟨x.block, x.off, by rw [← hx], fun j u hu => ?_⟩
      simp only [List.map_map, List.getElem?_map, List.getElem?_take] at hu
      split at hu
      · cases hz2 : zs[j]? with
        | none => rw [hz2] at hu; simp at hu
        | some n =>
          rw [hz2] at hu
          have hj := (List.getElem?_eq_some_iff.1 hz2).1
          have hcj := hc j hj
          rw [hx, addr_add] at hcj
          rw [hcj]
          have hn := hw n (List.mem_of_getElem? hz2)
          have hb : 0 ≤ n ∧ n ≤ 255 := by simpa [Lit.wf, IntKind.min, IntKind.max, IntKind.signed, IntKind.bits] using hn
          have hg : zs.getD j 0 = n := by simp [List.getD, hz2]
          simp only [Option.map_some, Option.some.injEq, Function.comp] at hu
          have e : ((UInt8.ofNat n.toNat).toNat : Int) = n := by rw [Cm.u8_ofNat n.toNat (by omega)]; omega
          rw [hg, ← hu, bv, e]
      · simp at hu
end Go.Proofs.YtmdllemgjhkphaaDoor

/- Loads and stores of whole rows, by the operation's own form. -/
import Derived.Test.YtngindljhlbglaaDoorBld
namespace Go.Proofs.YtngindljhlbglaaDoor
open Go.RowKit
/-- loads and stores of rows, known by the operation's own form and its type's number: no other operation is tried -/
theorem wpList_loadF {P : Program} (ty : TypeId) {w : World} {g : Nat} {t : TypeId} {l : List Value} (h : Av w g t l) {ops : Array Oper} {rest : List Oper} {a : Act} {Q : Exit → Act → World → Prop} {d tp pos af} {x : Operand}
    (hx : a.eval x = .pointer (some ⟨g, 0, none⟩)) (dd : TypeDesc) (n : Nat) (hn : l.length = n) (hu : P.underlying ty = some dd) (hd : (match dd with | .struct _ | .array _ _ => true | _ => false) = true) (hi : (P.info? ty).map (·.size) = some n)
    (k : wpList P ops Q rest (a.put d (.agg l.toArray)) w) : wpList P ops Q (⟨d, .load ty x, tp, pos, af, none⟩ :: rest) a w :=
  wpList_loadAv h rfl ty x rfl hx dd n hn hu hd hi k
theorem wpList_loadMF {P : Program} (ty : TypeId) {w : World} {b off : Nat} (cs : List Value) (hc : w.rangeAt b off cs) {ops : Array Oper} {rest : List Oper} {a : Act} {Q : Exit → Act → World → Prop} {d tp pos af} {x : Operand}
    (hx : a.eval x = .pointer (some ⟨b, off, none⟩)) (dd : TypeDesc) (hu : P.underlying ty = some dd) (hd : dd.isRow = true) (hi : (P.info? ty).map (·.size) = some cs.length)
    (k : wpList P ops Q rest (a.put d (.agg cs.toArray)) w) : wpList P ops Q (⟨d, .load ty x, tp, pos, af, none⟩ :: rest) a w :=
  wpList_execW rfl (exec_load_mid ty x rfl b off hx cs dd hc hu hd hi) k
theorem wpList_storeF {P : Program} (ty : TypeId) {w w0 : World} {B g : Nat} {t : TypeId} {old : Array Value} (hb : Below B w0 w) (h : w.heap[g]? = some (.cells old t (0, 0))) (hB : B ≤ g) (l : List Value) {ops : Array Oper} {rest : List Oper} {a : Act} {Q : Exit → Act → World → Prop} {d tp pos af} {x y : Operand}
    (hx : a.eval x = .pointer (some ⟨g, 0, none⟩)) (hy : a.eval y = .agg l.toArray) (n : Nat) (hn : l.length = n) (hi : (P.info? ty).map (·.size) = some n) (hold : old.size = n) (h1 : l.all (·.oneCell') = true)
    (k : ∀ w2, Av w2 g t l → Below B w0 w2 → (∀ k, k ≠ g → w2.heap[k]? = w.heap[k]?) → w2.heap.size = w.heap.size → wpList P ops Q rest (a.put d undef) w2) : wpList P ops Q (⟨d, .store ty x y, tp, pos, af, none⟩ :: rest) a w :=
  wpList_storeAv hb h hB rfl ty x y rfl hx l hy n hn hi hold h1 k
theorem wpList_storeFA {P : Program} (ty : TypeId) {w w0 : World} {B g : Nat} {t : TypeId} {old : List Value} (hb : Below B w0 w) (h : Av w g t old) (hB : B ≤ g) (l : List Value) {ops : Array Oper} {rest : List Oper} {a : Act} {Q : Exit → Act → World → Prop} {d tp pos af} {x y : Operand}
    (hx : a.eval x = .pointer (some ⟨g, 0, none⟩)) (hy : a.eval y = .agg l.toArray) (n : Nat) (hn : l.length = n) (hi : (P.info? ty).map (·.size) = some n) (hold : old.length = n) (h1 : l.all (·.oneCell') = true)
    (k : ∀ w2, Av w2 g t l → Below B w0 w2 → (∀ k, k ≠ g → w2.heap[k]? = w.heap[k]?) → w2.heap.size = w.heap.size → wpList P ops Q rest (a.put d undef) w2) : wpList P ops Q (⟨d, .store ty x y, tp, pos, af, none⟩ :: rest) a w :=
  wpList_storeAv hb h hB rfl ty x y rfl hx l hy n hn hi (by simpa using hold) h1 k
end Go.Proofs.YtngindljhlbglaaDoor

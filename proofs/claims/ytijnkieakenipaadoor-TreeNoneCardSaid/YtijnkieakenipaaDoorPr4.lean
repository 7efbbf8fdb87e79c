/- Blf; U: put together for the claim. -/
import Derived.Test.YtijnkieakenipaaDoorBld
import Derived.Test.YtijnkieakenipaaDoorFr
import Derived.Test.YtijnkieakenipaaDoorCMath
import Derived.Test.YtijnkieakenipaaDoorPr3
import Derived.Test.YtijnkieakenipaaDoorRelT
import Derived.Deep.Cut
/- Loads and stores of whole rows, by the operation's own form. -/
namespace Go.Proofs.YtijnkieakenipaaDoor
open Go.RowKit
/-- loads and stores of rows, known by the operation's own form and its type's number: no other operation is tried -/
theorem wpList_loadF {P : Program} (ty : TypeId) {w : World} {g : Nat} {t : TypeId} {l : List Value} (h : Av w g t l) {ops : Array Oper} {rest : List Oper} {a : Act} {Q : Exit → Act → World → Prop} {d tp pos af} {x : Operand}
    (hx : a.eval x = .pointer (some ⟨g, 0, none⟩)) (dd : TypeDesc) (n : Nat) (hn : l.length = n) (hu : P.underlying ty = some dd) (hd : (match dd with | .struct _ | .array _ _ => true | _ => false) = true) (hi : (P.info? ty).map (·.size) = some n)
    (k : wpList P ops Q rest (a.put d (.agg l.toArray)) w) : wpList P ops Q (⟨d, .load ty x, tp, pos, af, none⟩ :: rest) a w :=
  wpList_loadAv h rfl ty x rfl hx dd n hn hu hd hi k
theorem wpList_loadMF {P : Program} (ty : TypeId) {w : World} {b off : Nat} (cs : List Value) (hc : w.rangeAt b off cs) {ops : Array Oper} {rest : List Oper} {a : Act} {Q : Exit → Act → World → Prop} {d tp pos af} {x : Operand}
    (hx : a.eval x = .pointer (some ⟨b, off, none⟩)) (dd : TypeDesc) (hu : P.underlying ty = some dd) (hd : dd.isRow = true) (hi : (P.info? ty).map (·.size) = some cs.length)
    (k : wpList P ops Q rest (a.put d (.agg cs.toArray)) w) : wpList P ops Q (⟨d, .load ty x, tp, pos, af, none⟩ :: rest) a w :=
  wpList_execW rfl (exec_load_mid ty x rfl b off hx cs dd hc hu hd hi) k
theorem wpList_storeF {P : Program} (ty : TypeId) {w w0 : World} {B g : Nat} {t : TypeId} {old : Array Value} (hb : Below B w0 w) (h : w.heap[g]? = some (.cells old t (0, 0))) (hB : B ≤ g) (l : List Value) {ops : Array Oper} {rest : List Oper} {a : Act} {Q : Exit → Act → World → Prop} {d tp pos af} {x y : Operand}
    (hx : a.eval x = .pointer (some ⟨g, 0, none⟩)) (hy : a.eval y = .agg l.toArray) (n : Nat) (hn : l.length = n) (hi : (P.info? ty).map (·.size) = some n) (hold : old.size = n) (h1 : l.all (·.oneCell') = true)
    (k : ∀ w2, Av w2 g t l → Below B w0 w2 → (∀ k, k ≠ g → w2.heap[k]? = w.heap[k]?) → w2.heap.size = w.heap.size → wpList P ops Q rest (a.put d undef) w2) : wpList P ops Q (⟨d, .store ty x y, tp, pos, af, none⟩ :: rest) a w :=
  wpList_storeAv hb h hB rfl ty x y rfl hx l hy n hn hi hold h1 k
theorem wpList_storeFA {P : Program} (ty : TypeId) {w w0 : World} {B g : Nat} {t : TypeId} {old : List Value} (hb : Below B w0 w) (h : Av w g t old) (hB : B ≤ g) (l : List Value) {ops : Array Oper} {rest : List Oper} {a : Act} {Q : Exit → Act → World → Prop} {d tp pos af} {x y : Operand}
    (hx : a.eval x = .pointer (some ⟨g, 0, none⟩)) (hy : a.eval y = .agg l.toArray) (n : Nat) (hn : l.length = n) (hi : (P.info? ty).map (·.size) = some n) (hold : old.length = n) (h1 : l.all (·.oneCell') = true)
    (k : ∀ w2, Av w2 g t l → Below B w0 w2 → (∀ k, k ≠ g → w2.heap[k]? = w.heap[k]?) → w2.heap.size = w.heap.size → wpList P ops Q rest (a.put d undef) w2) : wpList P ops Q (⟨d, .store ty x y, tp, pos, af, none⟩ :: rest) a w :=
  wpList_storeAv hb h hB rfl ty x y rfl hx l hy n hn hi (by simpa using hold) h1 k
end Go.Proofs.YtijnkieakenipaaDoor
/- Numbers of 256 digits of two: their cells; Of. -/
namespace Go.Proofs.YtijnkieakenipaaDoor
open Go.RowKit
/-- the cells of a number, its parts given -/
abbrev uq4 (a b c d : Nat) : List Value := [.int .u64 (a : Int), .int .u64 (b : Int), .int .u64 (c : Int), .int .u64 (d : Int)]
/-- the part i of a number -/
def lim (n i : Nat) : Nat := n / 18446744073709551616 ^ i % 18446744073709551616
/-- the cells of a number -/
def uc (n : Nat) : List Value := uq4 (lim n 0) (lim n 1) (lim n 2) (lim n 3)
theorem lim_lt (n i : Nat) : lim n i < 18446744073709551616 := Nat.mod_lt _ (by decide)
theorem lim_small {n : Nat} (h : n < 18446744073709551616) : lim n 0 = n ∧ lim n 1 = 0 ∧ lim n 2 = 0 ∧ lim n 3 = 0 := by
  unfold lim
  refine ⟨?_, ?_, ?_, ?_⟩
  · rw [Nat.pow_zero, Nat.div_one, Nat.mod_eq_of_lt h]
  · rw [Nat.pow_one, Nat.div_eq_of_lt h]
  · rw [Nat.div_eq_of_lt (by omega)]
  · rw [Nat.div_eq_of_lt (by omega)]
theorem uc_small {n : Nat} (h : n < 18446744073709551616) : uc n = uq4 n 0 0 0 := by
  obtain ⟨h0, h1, h2, h3⟩ := lim_small h
  rw [uc, h0, h1, h2, h3]
theorem lim_sum {n : Nat} (h : n < 115792089237316195423570985008687907853269984665640564039457584007913129639936) :
    n = lim n 0 + 18446744073709551616 * lim n 1 + 340282366920938463463374607431768211456 * lim n 2 + 6277101735386680763835789423207666416102355444464034512896 * lim n 3 := by
  unfold lim
  rw [Nat.pow_zero, Nat.div_one, Nat.pow_one, show 18446744073709551616 ^ 2 = 340282366920938463463374607431768211456 from rfl, show 18446744073709551616 ^ 3 = 6277101735386680763835789423207666416102355444464034512896 from rfl]
  omega
theorem lim_of (a b c d : Nat) (ha : a < 18446744073709551616) (hb : b < 18446744073709551616) (hc : c < 18446744073709551616) (hd : d < 18446744073709551616) :
    ∃ n, n < 115792089237316195423570985008687907853269984665640564039457584007913129639936 ∧ n = a + 18446744073709551616 * b + 340282366920938463463374607431768211456 * c + 6277101735386680763835789423207666416102355444464034512896 * d ∧ lim n 0 = a ∧ lim n 1 = b ∧ lim n 2 = c ∧ lim n 3 = d := by
  refine ⟨_, ?_, rfl, ?_, ?_, ?_, ?_⟩
  · omega
  all_goals unfold lim
  · rw [Nat.pow_zero, Nat.div_one]; omega
  · rw [Nat.pow_one]; omega
  · rw [show 18446744073709551616 ^ 2 = 340282366920938463463374607431768211456 from rfl]; omega
  · rw [show 18446744073709551616 ^ 3 = 6277101735386680763835789423207666416102355444464034512896 from rfl]; omega
theorem u4_one (a b c d : Nat) : (uq4 a b c d).all (·.oneCell') = true := rfl
theorem u4_eq {a b c d a' b' c' d' : Nat} : uq4 a b c d = uq4 a' b' c' d' ↔ a = a' ∧ b = b' ∧ c = c' ∧ d = d' := by
  simp only [uq4, List.cons.injEq, Value.int.injEq, and_true, true_and, Int.natCast_inj]
theorem uc_inj {n m : Nat} (hn : n < 115792089237316195423570985008687907853269984665640564039457584007913129639936) (hm : m < 115792089237316195423570985008687907853269984665640564039457584007913129639936) : uc n = uc m ↔ n = m := by
  constructor
  · intro h
    obtain ⟨h0, h1, h2, h3⟩ := u4_eq.1 h
    rw [lim_sum hn, lim_sum hm, h0, h1, h2, h3]
  · rintro rfl; rfl
set_option maxRecDepth 10000 in
set_option maxHeartbeats 1000000 in
theorem UOf (n : Nat) (h : n < 18446744073709551616) (w : World) : Calls Tryd.prog 28 #[.int .u64 (n : Int)] w fun e w' => e = .returned (.agg (uc n).toArray) ∧ Below w.heap.size w w' := by
  rw [uc_small h]
  go_enter Tryd.func28, Tryd.ntmps28
  go_wp2_with ((with_reducible refine wpList_storeF 39 ((Below.refl w.heap.size w).alloc (Nat.le_refl _) _) (heap_alloc_new _ _) (Nat.le_refl _) (uq4 n 0 0 0) ?_ ?_ 4 ?_ ?_ ?_ ?_ ?_); rfl; rfl; rfl; kernel_rfl; rfl; rfl; intro w6 a6 b6 k6 z6)
  refine bodyPost_ret (results_cell_row rfl _ _ w.heap.size _ _ (0, 0) _ (by rfl) a6 Tryd.underlying39 rfl (by kernel_rfl)) rfl ⟨rfl, b6⟩
end Go.Proofs.YtijnkieakenipaaDoor

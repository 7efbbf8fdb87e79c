/- Blf; HdW: put together for the claim. -/
import Derived.Test.YtjgdmpbaikhflaaDoorBld
import Derived.Test.YtjgdmpbaikhflaaDoorPr6
import Derived.Test.YtjgdmpbaikhflaaDoorRelT
import Derived.Test.YtjgdmpbaikhflaaDoorPr5
/- Loads and stores of whole rows, by the operation's own form. -/
namespace Go.Proofs.YtjgdmpbaikhflaaDoor
open Go.RowKit
/-- loads and stores of rows, known by the operation's own form and its type's number: no other operation is tried -/
theorem wpList_loadF {P : Program} (ty : TypeId) {w : World} {g : Nat} {t : TypeId} {l : List Value} (h : Av w g t l) {ops : Array Oper} {rest : List Oper} {a : Act} {Q : Exit → Act → World → Prop} {d tp pos af} {x : Operand}
    (hx : a.eval x = .pointer (some ⟨g, 0, none⟩)) (dd : TypeDesc) (n : Nat) (hn : l.length = n) (hu : P.underlying ty = some dd) (hd : (match dd with | .struct _ | .array _ _ => true | _ => false) = true) (hi : (P.info? ty).map (·.size) = some n)
    (k : wpList P ops Q rest (a.put d (.agg l.toArray)) w) : wpList P ops Q (⟨d, .load ty x, tp, pos, af, none⟩ :: rest) a w :=
  wpList_loadAv h rfl ty x rfl hx dd n hn hu hd hi k
theorem wpList_loadMF {P : Program} (ty : TypeId) {w : World} {b off : Nat} (cs : List Value) (hc : w.rangeAt b off cs) {ops : Array Oper} {rest : List Oper} {a : Act} {Q : Exit → Act → World → Prop} {d tp pos af} {x : Operand}
    (hx : a.eval x = .pointer (some ⟨b, off, none⟩)) (dd : TypeDesc) (hu : P.underlying ty = some dd) (hd : dd.isRow = true) (hi : (P.info? ty).map (·.size) = some cs.length)
    (k : wpList P ops Q rest (a.put d (.agg cs.toArray)) w) : wpList P ops Q (⟨d, .load ty x, tp, pos, af, none⟩ :: rest) a w :=
  wpList_execW rfl (exec_load_mid ty x rfl b off hx cs dd hc hu hd hi) k
theorem wpList_storeF {P : Program} (ty : TypeId) {w w0 : World} {B g : Nat} {t : TypeId} {old : Array Value} (hb : Below B w0 w) (h : w.heap[g]? = some (.cells old t (0, 0))) (hB : B ≤ g) (l : List Value) {ops : Array Oper} {rest : List Oper} {a : Act} {Q : Exit → Act → World → Prop} {d tp pos af} {x y : Operand}
    (hx : a.eval x = .pointer (some ⟨g, 0, none⟩)) (hy : a.eval y = .agg l.toArray) (n : Nat) (hn : l.length = n) (hi : (P.info? ty).map (·.size) = some n) (hold : old.size = n) (h1 : l.all (·.oneCell') = true)
    (k : ∀ w2, Av w2 g t l → Below B w0 w2 → (∀ k, k ≠ g → w2.heap[k]? = w.heap[k]?) → w2.heap.size = w.heap.size → wpList P ops Q rest (a.put d undef) w2) : wpList P ops Q (⟨d, .store ty x y, tp, pos, af, none⟩ :: rest) a w :=
  wpList_storeAv hb h hB rfl ty x y rfl hx l hy n hn hi hold h1 k
theorem wpList_storeFA {P : Program} (ty : TypeId) {w w0 : World} {B g : Nat} {t : TypeId} {old : List Value} (hb : Below B w0 w) (h : Av w g t old) (hB : B ≤ g) (l : List Value) {ops : Array Oper} {rest : List Oper} {a : Act} {Q : Exit → Act → World → Prop} {d tp pos af} {x y : Operand}
    (hx : a.eval x = .pointer (some ⟨g, 0, none⟩)) (hy : a.eval y = .agg l.toArray) (n : Nat) (hn : l.length = n) (hi : (P.info? ty).map (·.size) = some n) (hold : old.length = n) (h1 : l.all (·.oneCell') = true)
    (k : ∀ w2, Av w2 g t l → Below B w0 w2 → (∀ k, k ≠ g → w2.heap[k]? = w.heap[k]?) → w2.heap.size = w.heap.size → wpList P ops Q rest (a.put d undef) w2) : wpList P ops Q (⟨d, .store ty x y, tp, pos, af, none⟩ :: rest) a w :=
  wpList_storeAv hb h hB rfl ty x y rfl hx l hy n hn hi (by simpa using hold) h1 k
end Go.Proofs.YtjgdmpbaikhflaaDoor
/- header.lay, array, Put, Id, number. -/
namespace Go.Proofs.YtjgdmpbaikhflaaDoor
open Go.RowKit
theorem byte_of32 (n k : Nat) : IntKind.u8.wrap ((n : Int) / 2 ^ (8 * k)) = ((UInt8.ofNat (n / 256 ^ k)).toNat : Int) := by
  have h := byte_at (n : Int) (by omega) k
  rw [IntKind.wrap_u8, h]
  simp
/-- 'copy(d, s)' known by its form -/
theorem wpList_copyF {P : Program} {w : World} {g : Nat} {t : TypeId} {l : List Value} (h : Av w g t l) {dT sT : TypeId} (elem : TypeId) (hu : P.underlying dT = some (.slice elem)) (hs : (P.info? elem).map (·.size) = some 1) (off dLen dCap : Nat) (A : Option Addr) (m c : Nat) (xs : List Value)
    (hr : Rd w A xs) (hl : xs.length = min m dLen) (hfit : off + xs.length ≤ l.length) (h1 : ∀ v ∈ xs, v.oneCell' = true) {ops : Array Oper} {rest : List Oper} {a : Act} {Q : Exit → Act → World → Prop} {d tp pos af} {x y : Operand}
    (hx : a.eval x = .slice (some ⟨g, off, none⟩) dLen dCap) (hy : a.eval y = .slice A m c)
    (k : ∀ w', Av w' g t (l.take off ++ xs ++ l.drop (off + xs.length)) → Fr (fun k => k = g) w w' → wpList P ops Q rest (a.put d (goInt xs.length)) w') :
    wpList P ops Q (⟨d, .call { callee := .builtin .copy, args := #[x, y], argTypes := #[dT, sT] }, tp, pos, af, none⟩ :: rest) a w := by
  obtain ⟨w', hrun, h2, h3, _⟩ := exec_copyAv h dT sT elem hu hs off dLen dCap A m c xs hr hl hfit h1 ⟨d, .call { callee := .builtin .copy, args := #[x, y], argTypes := #[dT, sT] }, tp, pos, af, none⟩ x y rfl hx hy
  exact wpList_execW rfl hrun (k w' h2 h3)
theorem fill_at (pre xs post : List Value) (N k o : Nat) (ho : pre.length = o) (hx : xs.length = 4) (hk : k < 4) :
    (pre ++ ((Cm.lo k N).map bv ++ (xs.drop k ++ post))).set (o + k) (bv (UInt8.ofNat (N / 256 ^ k))) = pre ++ ((Cm.lo (k + 1) N).map bv ++ (xs.drop (k + 1) ++ post)) := by
  obtain ⟨x, hx2⟩ : ∃ x, xs.drop k = x :: xs.drop (k + 1) := by
    refine ⟨xs[k]'(by omega), ?_⟩
    rw [List.getElem_cons_drop]
  rw [hx2, Cm.lo_snoc, List.map_append, List.set_append_right _ _ (by omega), List.set_append_right _ _ (by simp [Cm.lo_length]; omega)]
  simp [Cm.lo_length, ← ho]
set_option maxRecDepth 10000 in
set_option maxHeartbeats 1000000 in
/-- a number is laid into four bytes of a block of the caller's -/
theorem Lay (g o n c : Nat) (t : TypeId) (pre xs post : List Value) (ho : pre.length = o) (hx : xs.length = 4) (hn : 4 ≤ n) (N : Nat) (w : World) (hA : Av w g t (pre ++ (xs ++ post))) :
    Calls Tryd.prog 44 #[.slice (some ⟨g, o, none⟩) n c, .int .u32 (N : Int)] w fun e w' => (∃ r, e = .returned r) ∧ Av w' g t (pre ++ ((Cm.lo 4 N).map bv ++ post)) ∧ Fr (fun k => k = g) w w' := by
  go_enter Tryd.func44, Tryd.ntmps44
  go_wp2
  go_loopw [5] (fun i wr => ∃ k : Nat, k ≤ 4 ∧ i = .int .i64 (k : Int) ∧ Av wr g t (pre ++ ((Cm.lo k N).map bv ++ (xs.drop k ++ post))) ∧ Fr (fun k => k = g) w wr) (fun i _ => 4 - (intOf i).toNat)
  case atStart => exact ⟨0, by omega, rfl, by simpa [Cm.lo] using hA, Fr.refl _ _⟩
  case round =>
    obtain ⟨k, hk, rfl, ha, hf⟩ := hrel
    by_cases hlt : k < 4
    · have t1 : decide ((k : Int) < 4) = true := by simp; omega
      have e1 : IntKind.i64.wrap (8 * (k : Int)) = 8 * (k : Int) := by rw [IntKind.wrap_i64]; omega
      have e2 : 0 ≤ 8 * (k : Int) := by omega
      have e3 : 8 * (k : Int) < 32 := by omega
      have e4 : (8 * (k : Int)).toNat = 8 * k := by omega
      have e5 := byte_of32 N k
      have e6 : (k : Int) < (n : Int) := by omega
      have hlen : (pre ++ ((Cm.lo k N).map bv ++ (xs.drop k ++ post))).length = pre.length + 4 + post.length := by simp [Cm.lo_length, hx]; omega
      obtain ⟨C, hC⟩ : ∃ C, C = pre ++ ((Cm.lo k N).map bv ++ (xs.drop k ++ post)) := ⟨_, rfl⟩
      rw [← hC] at ha hlen
      have hset := fill_at pre xs post N k o ho hx hlt
      rw [← hC] at hset
      obtain ⟨u, hu⟩ : ∃ u, C[o + k]? = some u := ⟨_, List.getElem?_eq_getElem (by omega)⟩
      have hc := ha.cell (o + k) u hu
      have hfz := frozen_of_row wr g (o + k) _ _ ha
      have a2 := ha.set (o + k) (bv (UInt8.ofNat (N / 256 ^ k)))
      rw [hset] at a2
      have f2 := hf.trans (Fr.setCell wr ⟨g, o + k, none⟩ (bv (UInt8.ofNat (N / 256 ^ k))))
      replace hset := Lib.hid hset
      replace hC := Lib.hid hC
      replace hu := Lib.hid hu
      replace hlen := Lib.hid hlen
      go_wp2
      refine ⟨⟨k + 1, by omega, by go_num, a2, f2⟩, ?_⟩
      simp [intOf]; omega
    · obtain rfl : k = 4 := by omega
      go_wp2
      go_end0
      refine ⟨⟨_, rfl⟩, ?_, hf⟩
      rw [List.drop_eq_nil_of_le (by omega), List.nil_append] at ha
      exact ha
end Go.Proofs.YtjgdmpbaikhflaaDoor

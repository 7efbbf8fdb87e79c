import Derived.Test.YtobjgebojhjhnaaDoorOpb
import Derived.Test.YtobjgebojhjhnaaDoorQr5
import Derived.Lib.SmallJoins
namespace Go.Proofs.YtobjgebojhjhnaaDoor
open Go.RowKit Go.ChangeShapes Go.WideShapes Go.ChangeAt
instance : Inhabited (TIn × Sl) := ⟨(⟨[], 0, [], 0⟩, (none, 0))⟩
instance : Inhabited (TOut × Sl) := ⟨(⟨0, []⟩, (none, 0))⟩
section
variable {H : Type} {enc : TypeId × Value → H} {w : World} {base : Nat} {spare : Nat → Bool} {held : Bool}
theorem cells_in : Tryd.prog.cellsOf 125 = 35 := by kernel_rfl
theorem cells_out : Tryd.prog.cellsOf 126 = 2 := by kernel_rfl
theorem cells_u32 : Tryd.prog.cellsOf 28 = 1 := by kernel_rfl
theorem cells_u64 : Tryd.prog.cellsOf 102 = 1 := by kernel_rfl
theorem cells_bs : Tryd.prog.cellsOf 33 = 1 := by kernel_rfl
theorem one_of {cs : List Value} {i : Nat} {v : Value} (h : (cs.drop i).take 1 = [v]) : cs[i]? = some v := by
 have : ((cs.drop i).take 1)[0]? = some v := by rw [h]; rfl
 simpa using this
theorem open_one_bytes {fuel : Nat} {cs : List Value} {x : DataW H × List MemPlace} (h : DataW.trod enc Tryd.prog w base spare held fuel 33 cs = some x) : ∃ (bs : List UInt8) (A : Option Addr) (c : Nat), cs = [.slice A bs.length c] ∧ bs.length ≤ c ∧ Rd w A (bs.map bv) := by
 have hcs : ∃ A n c, cs = [.slice A n c] := by
  rcases Go.Deep.open_slice Tryd.underlying33 h with ⟨hcs, _⟩ | ⟨a, len, cap, m, k, D, Pl, hcs, _⟩
  ·exact ⟨none, 0, 0, hcs⟩
  ·exact ⟨_, _, _, hcs⟩
 obtain ⟨A, n, c, rfl⟩ := hcs
 obtain ⟨bs, h1, h2, _, h4⟩ := open_bytes h
 exact ⟨bs, A, c, by rw [h1], by omega, h4⟩
theorem open_in (fuel : Nat) (cs : List Value) (y : DataW H × List MemPlace) (h : DataW.trod enc Tryd.prog w base spare held fuel 125 cs = some y) : ∃ x : TIn × Sl, cs = inc x ∧ InAt w x := by
 obtain ⟨y0, y1, y2, y3, n, _, hl, h0, h1, h2, h3⟩ := Go.Joins.trod_struct4 Tryd.underlying125 h
 rw [cells_in] at hl
 dsimp only at h0 h1 h2 h3
 rw [cells_h] at h0
 rw [cells_u32] at h1 h3
 rw [cells_bs] at h2
 obtain ⟨p, hp, e0⟩ := open_hash h0
 obtain ⟨i, e1, _, w1⟩ := DataW.trod_int Tryd.underlying28 h1
 obtain ⟨s, A, c, e2, hc, hr⟩ := open_one_bytes h2
 obtain ⟨q, e3, _, w3⟩ := DataW.trod_int Tryd.underlying28 h3
 have b1 : 0 ≤ i ∧ i ≤ 4294967295 := by simpa [Lit.wf, IntKind.min, IntKind.max, IntKind.signed, IntKind.bits] using w1
 have b3 : 0 ≤ q ∧ q ≤ 4294967295 := by simpa [Lit.wf, IntKind.min, IntKind.max, IntKind.signed, IntKind.bits] using w3
 refine ⟨(⟨p, i.toNat, s, q.toNat⟩, (A, c)), ?_, ⟨hp, by show i.toNat < 4294967296; omega, by show q.toNat < 4294967296; omega⟩, hr, hc⟩
 have g1 := one_of e1
 have g2 := one_of e2
 have g3 := one_of e3
 have e0' : cs.take 32 = p.map bv := by simpa using e0
 rw [← List.take_append_drop 32 cs, e0', inc]
 congr 1
 have hd : (cs.drop 32).length = 3 := by rw [List.length_drop, hl]
 have k1 : (cs.drop 32)[0]? = some (.int .u32 i) := by rw [List.getElem?_drop]; exact g1
 have k2 : (cs.drop 32)[1]? = some (.slice A s.length c) := by rw [List.getElem?_drop]; exact g2
 have k3 : (cs.drop 32)[2]? = some (.int .u32 q) := by rw [List.getElem?_drop]; exact g3
 match hcs : cs.drop 32, hd with
 | [a, b, d], _ =>
  rw [hcs] at k1 k2 k3
  simp only [List.getElem?_cons_zero, List.getElem?_cons_succ, Option.some.injEq] at k1 k2 k3
  rw [k1, k2, k3]
  rw [show ((i.toNat : Nat) : Int) = i by omega, show ((q.toNat : Nat) : Int) = q by omega]
theorem open_out (fuel : Nat) (cs : List Value) (y : DataW H × List MemPlace) (h : DataW.trod enc Tryd.prog w base spare held fuel 126 cs = some y) : ∃ x : TOut × Sl, cs = outc x ∧ OutAt w x := by
 obtain ⟨y0, y1, n, _, hl, h0, h1⟩ := trod_struct2 Tryd.underlying126 h
 rw [cells_out] at hl
 dsimp only at h0 h1
 rw [cells_u64] at h0
 rw [cells_bs] at h1
 obtain ⟨i, e0, _, w0⟩ := DataW.trod_int Tryd.underlying102 h0
 obtain ⟨s, A, c, e1, hc, hr⟩ := open_one_bytes h1
 have b0 : 0 ≤ i ∧ i ≤ 18446744073709551615 := by simpa [Lit.wf, IntKind.min, IntKind.max, IntKind.signed, IntKind.bits] using w0
 refine ⟨(⟨i.toNat, s⟩, (A, c)), ?_, by show i.toNat < 18446744073709551616; omega, hr, hc⟩
 have g0 := one_of e0
 have g1 := one_of e1
 match cs, hl with
 | [a, b], _ =>
  simp only [List.getElem?_cons_zero, List.getElem?_cons_succ, Option.some.injEq] at g0 g1
  rw [g0, g1, outc, show ((i.toNat : Nat) : Int) = i by omega]
theorem open_tx {fuel : Nat} {cs : List Value} {y : DataW H × List MemPlace} (h : DataW.trod enc Tryd.prog w base spare held fuel 66 cs = some y) :
  ∃ (ver lock : Nat) (l : List (TIn × Sl)) (m : List (TOut × Sl)) (A1 A2 : Option Addr) (n1 n2 c1 c2 : Nat), cs = [.int .u32 (ver : Int), .slice A1 n1 c1, .slice A2 n2 c2, .int .u32 (lock : Int)] ∧ l.length = n1 ∧ m.length = n2 ∧ n1 ≤ c1 ∧ n2 ≤ c2 ∧ c1 ≤ maxLen ∧ c2 ≤ maxLen ∧ RdIns w A1 l ∧ RdOuts w A2 m ∧ ver < 4294967296 ∧ lock < 4294967296 := by
 obtain ⟨y0, y1, y2, y3, n, _, hl, h0, h1, h2, h3⟩ := Go.Joins.trod_struct4 Tryd.underlying66 h
 rw [show Tryd.prog.cellsOf 66 = 4 by kernel_rfl] at hl
 dsimp only at h0 h1 h2 h3
 rw [cells_u32] at h0 h3
 rw [show Tryd.prog.cellsOf 63 = 1 by kernel_rfl] at h1
 rw [show Tryd.prog.cellsOf 64 = 1 by kernel_rfl] at h2
 obtain ⟨i, e0, _, w0⟩ := DataW.trod_int Tryd.underlying28 h0
 obtain ⟨q, e3, _, w3⟩ := DataW.trod_int Tryd.underlying28 h3
 have b0 : 0 ≤ i ∧ i ≤ 4294967295 := by simpa [Lit.wf, IntKind.min, IntKind.max, IntKind.signed, IntKind.bits] using w0
 have b3 : 0 ≤ q ∧ q ≤ 4294967295 := by simpa [Lit.wf, IntKind.min, IntKind.max, IntKind.signed, IntKind.bits] using w3
 have s1 : ∃ A n c, (cs.drop 1).take 1 = [.slice A n c] := by
  rcases Go.Deep.open_slice Tryd.underlying63 h1 with ⟨hcs, _⟩ | ⟨a, len, cap, m, k, D, Pl, hcs, _⟩
  ·exact ⟨none, 0, 0, hcs⟩
  ·exact ⟨_, _, _, hcs⟩
 have s2 : ∃ A n c, (cs.drop 2).take 1 = [.slice A n c] := by
  rcases Go.Deep.open_slice Tryd.underlying64 h2 with ⟨hcs, _⟩ | ⟨a, len, cap, m, k, D, Pl, hcs, _⟩
  ·exact ⟨none, 0, 0, hcs⟩
  ·exact ⟨_, _, _, hcs⟩
 obtain ⟨A1, n1, c1, e1⟩ := s1
 obtain ⟨A2, n2, c2, e2⟩ := s2
 rw [e1] at h1
 rw [e2] at h2
 obtain ⟨l, l1, l2, l3, l4, l5⟩ := open_elems Tryd.underlying63 cells_in (by decide) inc (fun x => InAt w x) (fun x hx => inc_length hx) open_in h1
 obtain ⟨m, m1, m2, m3, m4, m5⟩ := open_elems Tryd.underlying64 cells_out (by decide) outc (fun x => OutAt w x) (fun x _ => outc_length x) open_out h2
 have g0 := one_of e0
 have g1 := one_of e1
 have g2 := one_of e2
 have g3 := one_of e3
 refine ⟨i.toNat, q.toNat, l, m, A1, A2, n1, n2, c1, c2, ?_, l1, m1, l2, m2, l3, m3, ⟨l4, l5⟩, ⟨m4, m5⟩, by omega, by omega⟩
 match cs, hl with
 | [a, b, d, e], _ =>
  simp only [List.getElem?_cons_zero, List.getElem?_cons_succ, Option.some.injEq] at g0 g1 g2 g3
  rw [g0, g1, g2, g3, show ((i.toNat : Nat) : Int) = i by omega, show ((q.toNat : Nat) : Int) = q by omega]
end
end Go.Proofs.YtobjgebojhjhnaaDoor

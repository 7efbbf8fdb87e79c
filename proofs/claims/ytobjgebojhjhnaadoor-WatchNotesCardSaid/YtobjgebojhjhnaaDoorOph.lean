import Derived.Test.YtobjgebojhjhnaaDoorOpb
import Derived.Test.YtobjgebojhjhnaaDoorQr8
namespace Go.Proofs.YtobjgebojhjhnaaDoor
open Go.RowKit Go.ChangeShapes Go.WideShapes Go.ChangeAt
section
variable {H : Type} {enc : TypeId × Value → H} {w : World} {base : Nat} {spare : Nat → Bool} {held : Bool}
theorem cells_hd : Tryd.prog.cellsOf 32 = 68 := by kernel_rfl
theorem cells_u32h : Tryd.prog.cellsOf 28 = 1 := by kernel_rfl
theorem one_ofh {cs : List Value} {i : Nat} {v : Value} (h : (cs.drop i).take 1 = [v]) : cs[i]? = some v := by
 have : ((cs.drop i).take 1)[0]? = some v := by rw [h]; rfl
 simpa using this
theorem u32_ofh {fuel : Nat} {cs : List Value} {x : DataW H × List MemPlace} (h : DataW.trod enc Tryd.prog w base spare held fuel 28 cs = some x) : ∃ n : Nat, cs = [.int .u32 (n : Int)] ∧ n < 4294967296 := by
 obtain ⟨i, e1, _, w1⟩ := DataW.trod_int Tryd.underlying28 h
 have b1 : 0 ≤ i ∧ i ≤ 4294967295 := by simpa [Lit.wf, IntKind.min, IntKind.max, IntKind.signed, IntKind.bits] using w1
 exact ⟨i.toNat, by rw [e1, show ((i.toNat : Nat) : Int) = i by omega], by omega⟩
theorem open_hd (fuel : Nat) (cs : List Value) (y : DataW H × List MemPlace) (h : DataW.trod enc Tryd.prog w base spare held fuel 32 cs = some y) : ∃ x : Hd, cs = hdc x ∧ x.ok := by
 obtain ⟨xs, n, _, rfl, hl, hlen, hf⟩ := DataW.trod_struct Tryd.underlying32 h
 rw [cells_hd] at hl
 match xs, hlen with
 | [y0, y1, y2, y3, y4, y5], _ =>
  have h0 : DataW.trod enc Tryd.prog w base spare held n 28 ((cs.drop 0).take (Tryd.prog.cellsOf 28)) = some y0 := by simpa using hf 0 _ rfl
  have h1 : DataW.trod enc Tryd.prog w base spare held n 30 ((cs.drop 1).take (Tryd.prog.cellsOf 30)) = some y1 := by simpa using hf 1 _ rfl
  have h2 : DataW.trod enc Tryd.prog w base spare held n 30 ((cs.drop 33).take (Tryd.prog.cellsOf 30)) = some y2 := by simpa using hf 2 _ rfl
  have h3 : DataW.trod enc Tryd.prog w base spare held n 28 ((cs.drop 65).take (Tryd.prog.cellsOf 28)) = some y3 := by simpa using hf 3 _ rfl
  have h4 : DataW.trod enc Tryd.prog w base spare held n 28 ((cs.drop 66).take (Tryd.prog.cellsOf 28)) = some y4 := by simpa using hf 4 _ rfl
  have h5 : DataW.trod enc Tryd.prog w base spare held n 28 ((cs.drop 67).take (Tryd.prog.cellsOf 28)) = some y5 := by simpa using hf 5 _ rfl
  rw [cells_u32h] at h0 h3 h4 h5
  rw [cells_h] at h1 h2
  obtain ⟨a0, e0, b0⟩ := u32_ofh h0
  obtain ⟨p, hp, e1⟩ := open_hash h1
  obtain ⟨r, hr, e2⟩ := open_hash h2
  obtain ⟨a3, e3, b3⟩ := u32_ofh h3
  obtain ⟨a4, e4, b4⟩ := u32_ofh h4
  obtain ⟨a5, e5, b5⟩ := u32_ofh h5
  refine ⟨⟨a0, p, r, a3, a4, a5⟩, ?_, b0, hp, hr, b3, b4, b5⟩
  rw [List.drop_zero] at e0
  have d1 := List.take_append_drop 32 (cs.drop 1)
  have d2 := List.take_append_drop 32 (cs.drop 33)
  rw [e1, List.drop_drop] at d1
  rw [e2, List.drop_drop] at d2
  have g0 := List.take_append_drop 1 cs
  rw [e0] at g0
  have k3 := one_ofh e3
  have k4 := one_ofh e4
  have k5 := one_ofh e5
  have hd : (cs.drop 65).length = 3 := by rw [List.length_drop, hl]
  have l3 : (cs.drop 65)[0]? = some (.int .u32 (a3 : Int)) := by rw [List.getElem?_drop]; exact k3
  have l4 : (cs.drop 65)[1]? = some (.int .u32 (a4 : Int)) := by rw [List.getElem?_drop]; exact k4
  have l5 : (cs.drop 65)[2]? = some (.int .u32 (a5 : Int)) := by rw [List.getElem?_drop]; exact k5
  have d3 : cs.drop 65 = [.int .u32 (a3 : Int), .int .u32 (a4 : Int), .int .u32 (a5 : Int)] := by
   match hcs : cs.drop 65, hd with
   | [a, b, d], _ =>
    rw [hcs] at l3 l4 l5
    simp only [List.getElem?_cons_zero, List.getElem?_cons_succ, Option.some.injEq] at l3 l4 l5
    rw [l3, l4, l5]
  rw [← g0, ← d1, ← d2, d3]
  rfl
theorem open_hds {fuel : Nat} {A : Option Addr} {n c : Nat} {x : DataW H × List MemPlace} (h : DataW.trod enc Tryd.prog w base spare held fuel 27 [.slice A n c] = some x) : ∃ l : List Hd, l.length = n ∧ n ≤ c ∧ c ≤ maxLen ∧ RdHds w A l := by
 obtain ⟨l, h1, h2, h3, h4, h5⟩ := open_elems Tryd.underlying27 cells_hd (by decide) hdc Hd.ok (fun x hx => hdc_length hx) open_hd h
 exact ⟨l, h1, h2, h3, h4, h5⟩
end
end Go.Proofs.YtobjgebojhjhnaaDoor

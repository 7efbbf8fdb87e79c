/- Pad of SHA-256. -/
import Derived.Test.YtijnkieakenipaaDoorShP
import Derived.Test.YtijnkieakenipaaDoorApp
namespace Go.Proofs.YtijnkieakenipaaDoor
open Go.RowKit
def padZ (N : Nat) : Nat := if 55 < N % 64 then 119 - N % 64 else 55 - N % 64
def padByte (N k : Nat) : UInt8 := UInt8.ofNat (8 * N % 18446744073709551616 / 2 ^ (56 - 8 * k))
def pfill (N : Nat) : Nat → List UInt8
  | 0 => 128 :: List.replicate (padZ N + 8) 0
  | k + 1 => (pfill N k).set (1 + padZ N + k) (padByte N k)
theorem pfill_length (N k : Nat) : (pfill N k).length = padZ N + 9 := by
  induction k with
  | zero => simp [pfill]
  | succ k ih => rw [pfill, List.length_set, ih]
/-- what is put behind N bytes -/
def padOf (N : Nat) : List UInt8 := pfill N 8
theorem madeCells_bytes (M : Nat) : madeCells #[.int .u8 0] M = ((List.replicate M (0 : UInt8)).map bv).toArray := by
  apply Array.ext
  · simp [size_madeCells]
  · intro i h1 h2
    have e : i % 1 = 0 := Nat.mod_one i
    simp [madeCells, bv, e]
theorem pad_start (N z : Nat) (hz : z = padZ N) (w : World) : Av (w.alloc (.cells ((Array.replicate (z + 9) (bv 0)).setIfInBounds 0 (.int .u8 128)) 5)) w.heap.size 5 ((pfill N 0).map bv) := by
  unfold Av
  rw [heap_alloc_new]
  have e : (Array.replicate (z + 9) (bv 0)).setIfInBounds 0 (.int .u8 128) = ((pfill N 0).map bv).toArray := by
    apply Array.ext'
    simp [pfill, ← hz, List.replicate_succ]
  rw [e]
theorem pad_byte (N k : Nat) : IntKind.u64.wrap ((N : Int) * 8) / 2 ^ (56 - 8 * k) % 256 = ((padByte N k).toNat : Int) := by
  have e : (padByte N k).toNat = 8 * N % 18446744073709551616 / 2 ^ (56 - 8 * k) % 256 := UInt8.toNat_ofNat'
  rw [e, IntKind.wrap_u64, Int.mul_comm]
  simp
set_option maxHeartbeats 1000000 in
theorem Pad (N : Nat) (hN : N < 18446744073709551616) (w : World) :
    Calls Tryd.prog 43 #[.int .u64 N] w fun e w' =>
      e = .returned (.slice (some ⟨w.heap.size, 0, none⟩) (padZ N + 9) (padZ N + 9)) ∧ Rd w' (some ⟨w.heap.size, 0, none⟩) ((padOf N).map bv) ∧ Below w.heap.size w w' := by
  have hr0 : 0 ≤ (N : Int) % 64 := by omega
  have hr1 : (N : Int) % 64 < 64 := by omega
  obtain ⟨z, hz⟩ : ∃ z, z = padZ N := ⟨_, rfl⟩
  have hz64 : z < 64 := by rw [hz, padZ]; split <;> omega
  have hcase : (decide (55 - (N : Int) % 64 < 0) = true ∧ 55 - (N : Int) % 64 + 64 = (z : Int)) ∨ (decide (55 - (N : Int) % 64 < 0) = false ∧ 55 - (N : Int) % 64 = (z : Int)) := by
    rw [hz, padZ]
    by_cases h : 55 < N % 64
    · rw [if_pos h]; exact .inl ⟨by simp; omega, by omega⟩
    · rw [if_neg h]; exact .inr ⟨by simp; omega, by omega⟩
  have hmk : ∀ u : World, (Instr.makeSlice 67 (.int .i64 (1 + (z : Int) + 8)) (.int .i64 (1 + (z : Int) + 8))).run Tryd.prog u = .ok (.slice (some ⟨u.heap.size, 0, none⟩) (z + 9) (z + 9)) (u.alloc (.cells ((List.replicate (z + 9) (0 : UInt8)).map bv).toArray 5)) := fun u => by
    obtain ⟨i0, hi, hz0, hz1, hz2⟩ := info_parts info_u8
    have h := run_make (P := Tryd.prog) u 67 5 i0 (.int .u8 0) Tryd.underlying67 hi hz0 .i64 .i64 (1 + (z : Int) + 8) (1 + (z : Int) + 8) (by omega) (by omega) (by rw [hz2]; omega) (by omega)
    have e : (1 + (z : Int) + 8).toNat = z + 9 := by omega
    rw [e] at h
    simpa [hz1, Value.cells, madeCells_bytes] using h
  replace hz := Lib.hid hz
  rcases hcase with ⟨e1, e2⟩ | ⟨e1, e2⟩
  · go_enter Tryd.func43, Tryd.ntmps43
    go_wp2
    go_loopw [22] (fun i wr => ∃ k : Nat, k ≤ 8 ∧ i = .int .i64 k ∧ Below w.heap.size w wr ∧ Av wr w.heap.size 5 ((pfill N k).map bv)) (fun i _ => 8 - (intOf i).toNat)
    case atStart => exact ⟨0, by omega, rfl, (Below.refl _ _).alloc (Nat.le_refl _) _, pad_start N z hz.out w⟩
    case round =>
      obtain ⟨k, hk, rfl, hb, ha⟩ := hrel
      by_cases hk8 : k < 8
      · have hk0 : 0 ≤ (k : Int) := by omega
        have hk1 : (k : Int) < 8 := by omega
        have hfz : wr.frozen? ⟨w.heap.size, 1 + z + k, none⟩ = false := frozen_of_row _ _ _ _ _ ha
        have hc := ha.cell (1 + z + k) (bv ((pfill N k).getD (1 + z + k) 0)) (by simp [List.getElem?_eq_getElem (show 1 + z + k < (pfill N k).length by rw [pfill_length, ← hz.out]; omega)])
        go_wp2
        rw [pad_byte]
        refine ⟨⟨k + 1, by omega, by go_num, hb.setCell (Nat.le_refl _) _, ?_⟩, ?_⟩
        · rw [pfill, ← hz.out, List.map_set]; exact ha.set _ _
        · simp [intOf]; omega
      · obtain rfl : k = 8 := by omega
        go_wp2
        go_ret
        exact ⟨by rw [← hz.out]; rfl, .inr ⟨_, _, rfl, fun j u hu => by simpa using ha.cell j u hu⟩, hb⟩
  · go_enter Tryd.func43, Tryd.ntmps43
    go_wp2
    go_loopw [22] (fun i wr => ∃ k : Nat, k ≤ 8 ∧ i = .int .i64 k ∧ Below w.heap.size w wr ∧ Av wr w.heap.size 5 ((pfill N k).map bv)) (fun i _ => 8 - (intOf i).toNat)
    case atStart => exact ⟨0, by omega, rfl, (Below.refl _ _).alloc (Nat.le_refl _) _, pad_start N z hz.out w⟩
    case round =>
      obtain ⟨k, hk, rfl, hb, ha⟩ := hrel
      by_cases hk8 : k < 8
      · have hk0 : 0 ≤ (k : Int) := by omega
        have hk1 : (k : Int) < 8 := by omega
        have hfz : wr.frozen? ⟨w.heap.size, 1 + z + k, none⟩ = false := frozen_of_row _ _ _ _ _ ha
        have hc := ha.cell (1 + z + k) (bv ((pfill N k).getD (1 + z + k) 0)) (by simp [List.getElem?_eq_getElem (show 1 + z + k < (pfill N k).length by rw [pfill_length, ← hz.out]; omega)])
        go_wp2
        rw [pad_byte]
        refine ⟨⟨k + 1, by omega, by go_num, hb.setCell (Nat.le_refl _) _, ?_⟩, ?_⟩
        · rw [pfill, ← hz.out, List.map_set]; exact ha.set _ _
        · simp [intOf]; omega
      · obtain rfl : k = 8 := by omega
        go_wp2
        go_ret
        exact ⟨by rw [← hz.out]; rfl, .inr ⟨_, _, rfl, fun j u hu => by simpa using ha.cell j u hu⟩, hb⟩
end Go.Proofs.YtijnkieakenipaaDoor

/- ShPad; Rc: put together for the claim. -/
import Derived.Test.YtmdllemgjhkphaaDoorPr2
import Derived.Test.YtmdllemgjhkphaaDoorRb
/- Pad of SHA-256. -/
namespace Go.Proofs.YtmdllemgjhkphaaDoor
open Go.RowKit
def padZ (N : Nat) : Nat := if 55 < N % 64 then 119 - N % 64 else 55 - N % 64
def padByte (N k : Nat) : UInt8 := UInt8.ofNat (8 * N % 18446744073709551616 / 2 ^ (56 - 8 * k))
def pfill (N : Nat) : Nat → List UInt8
  | 0 => 128 :: List.replicate (padZ N + 8) 0
  | k + 1 => (pfill N k).set (1 + padZ N + k) (padByte N k)
theorem pfill_length (N k : Nat) : (pfill N k).length = padZ N + 9 := by
  induction k with
  | zero => simp [pfill]
  | succ k ih => rw [pfill, List.length_set, ih]
/-- what is put behind N bytes -/
def padOf (N : Nat) : List UInt8 := pfill N 8
theorem madeCells_bytes (M : Nat) : madeCells #[.int .u8 0] M = ((List.replicate M (0 : UInt8)).map bv).toArray := by
  apply Array.ext
  · simp [size_madeCells]
  · intro i h1 h2
    have e : i % 1 = 0 := Nat.mod_one i
    simp [madeCells, bv, e]
theorem pad_start (N z : Nat) (hz : z = padZ N) (w : World) : Av (w.alloc (.cells ((Array.replicate (z + 9) (bv 0)).setIfInBounds 0 (.int .u8 128)) 5)) w.heap.size 5 ((pfill N 0).map bv) := by
  unfold Av
  rw [heap_alloc_new]
  have e : (Array.replicate (z + 9) (bv 0)).setIfInBounds 0 (.int .u8 128) = ((pfill N 0).map bv).toArray := by
    apply Array.ext'
    simp [pfill, ← hz, List.replicate_succ]
  rw [e]
theorem pad_byte (N k : Nat) : IntKind.u64.wrap ((N : Int) * 8) / 2 ^ (56 - 8 * k) % 256 = ((padByte N k).toNat : Int) := by
  have e : (padByte N k).toNat = 8 * N % 18446744073709551616 / 2 ^ (56 - 8 * k) % 256 := UInt8.toNat_ofNat'
  rw [e, IntKind.wrap_u64, Int.mul_comm]
  simp
set_option maxHeartbeats 1000000 in
theorem Pad (N : Nat) (hN : N < 18446744073709551616) (w : World) :
    Calls Tryd.prog 64 #[.int .u64 N] w fun e w' =>
      e = .returned (.slice (some ⟨w.heap.size, 0, none⟩) (padZ N + 9) (padZ N + 9)) ∧ Rd w' (some ⟨w.heap.size, 0, none⟩) ((padOf N).map bv) ∧ Below w.heap.size w w' := by
  have hr0 : 0 ≤ (N : Int) % 64 := by omega
  have hr1 : (N : Int) % 64 < 64 := by omega
  obtain ⟨z, hz⟩ : ∃ z, z = padZ N := ⟨_, rfl⟩
  have hz64 : z < 64 := by rw [hz, padZ]; split <;> omega
  have hcase : (decide (55 - (N : Int) % 64 < 0) = true ∧ 55 - (N : Int) % 64 + 64 = (z : Int)) ∨ (decide (55 - (N : Int) % 64 < 0) = false ∧ 55 - (N : Int) % 64 = (z : Int)) := by
    rw [hz, padZ]
    by_cases h : 55 < N % 64
    · rw [if_pos h]; exact .inl ⟨by simp; omega, by omega⟩
    · rw [if_neg h]; exact .inr ⟨by simp; omega, by omega⟩
  have hmk : ∀ u : World, (Instr.makeSlice 24 (.int .i64 (1 + (z : Int) + 8)) (.int .i64 (1 + (z : Int) + 8))).run Tryd.prog u = .ok (.slice (some ⟨u.heap.size, 0, none⟩) (z + 9) (z + 9)) (u.alloc (.cells ((List.replicate (z + 9) (0 : UInt8)).map bv).toArray 5)) := fun u => by
    obtain ⟨i0, hi, hz0, hz1, hz2⟩ := info_parts info_u8
    have h := run_make (P := Tryd.prog) u 24 5 i0 (.int .u8 0) Tryd.underlying24 hi hz0 .i64 .i64 (1 + (z : Int) + 8) (1 + (z : Int) + 8) (by omega) (by omega) (by rw [hz2]; omega) (by omega)
    have e : (1 + (z : Int) + 8).toNat = z + 9 := by omega
    rw [e] at h
    simpa [hz1, Value.cells, madeCells_bytes] using h
  replace hz := Lib.hid hz
  rcases hcase with ⟨e1, e2⟩ | ⟨e1, e2⟩
  · go_enter Tryd.func64, Tryd.ntmps64
    go_wp2
    go_loopw [22] (fun i wr => ∃ k : Nat, k ≤ 8 ∧ i = .int .i64 k ∧ Below w.heap.size w wr ∧ Av wr w.heap.size 5 ((pfill N k).map bv)) (fun i _ => 8 - (intOf i).toNat)
    case atStart => exact ⟨0, by omega, rfl, (Below.refl _ _).alloc (Nat.le_refl _) _, pad_start N z hz.out w⟩
    case round =>
      obtain ⟨k, hk, rfl, hb, ha⟩ := hrel
      by_cases hk8 : k < 8
      · have hk0 : 0 ≤ (k : Int) := by omega
        have hk1 : (k : Int) < 8 := by omega
        have hfz : wr.frozen? ⟨w.heap.size, 1 + z + k, none⟩ = false := frozen_of_row _ _ _ _ _ ha
        have hc := ha.cell (1 + z + k) (bv ((pfill N k).getD (1 + z + k) 0)) (by simp [List.getElem?_eq_getElem (show 1 + z + k < (pfill N k).length by rw [pfill_length, ← hz.out]; omega)])
        go_wp2
        rw [pad_byte]
        refine ⟨⟨k + 1, by omega, by go_num, hb.setCell (Nat.le_refl _) _, ?_⟩, ?_⟩
        · rw [pfill, ← hz.out, List.map_set]; exact ha.set _ _
        · simp [intOf]; omega
      · obtain rfl : k = 8 := by omega
        go_wp2
        go_ret
        exact ⟨by rw [← hz.out]; rfl, .inr ⟨_, _, rfl, fun j u hu => by simpa using ha.cell j u hu⟩, hb⟩
  · go_enter Tryd.func64, Tryd.ntmps64
    go_wp2
    go_loopw [22] (fun i wr => ∃ k : Nat, k ≤ 8 ∧ i = .int .i64 k ∧ Below w.heap.size w wr ∧ Av wr w.heap.size 5 ((pfill N k).map bv)) (fun i _ => 8 - (intOf i).toNat)
    case atStart => exact ⟨0, by omega, rfl, (Below.refl _ _).alloc (Nat.le_refl _) _, pad_start N z hz.out w⟩
    case round =>
      obtain ⟨k, hk, rfl, hb, ha⟩ := hrel
      by_cases hk8 : k < 8
      · have hk0 : 0 ≤ (k : Int) := by omega
        have hk1 : (k : Int) < 8 := by omega
        have hfz : wr.frozen? ⟨w.heap.size, 1 + z + k, none⟩ = false := frozen_of_row _ _ _ _ _ ha
        have hc := ha.cell (1 + z + k) (bv ((pfill N k).getD (1 + z + k) 0)) (by simp [List.getElem?_eq_getElem (show 1 + z + k < (pfill N k).length by rw [pfill_length, ← hz.out]; omega)])
        go_wp2
        rw [pad_byte]
        refine ⟨⟨k + 1, by omega, by go_num, hb.setCell (Nat.le_refl _) _, ?_⟩, ?_⟩
        · rw [pfill, ← hz.out, List.map_set]; exact ha.set _ _
        · simp [intOf]; omega
      · obtain rfl : k = 8 := by omega
        go_wp2
        go_ret
        exact ⟨by rw [← hz.out]; rfl, .inr ⟨_, _, rfl, fun j u hu => by simpa using ha.cell j u hu⟩, hb⟩
end Go.Proofs.YtmdllemgjhkphaaDoor
/- florinref02.Pad. -/
namespace Go.Proofs.YtmdllemgjhkphaaDoor
open Go.RowKit
theorem pfill_form (N k : Nat) (hk : k ≤ 8) : pfill N k = 128 :: (List.replicate (padZ N) 0 ++ (List.range k).map (padByte N) ++ List.replicate (8 - k) 0) := by
  induction k with
  | zero => rw [pfill]; simp only [List.range_zero, List.map_nil, List.append_nil, Nat.sub_zero, List.replicate_append_replicate]
  | succ k ih =>
    rw [pfill, ih (by omega), show 8 - k = (8 - (k + 1)) + 1 by omega, List.replicate_succ, show 1 + padZ N + k = (padZ N + k) + 1 by omega, List.set_cons_succ]
    congr 1
    rw [List.append_assoc, List.append_assoc, List.set_append_right _ _ (by simp), List.set_append_right _ _ (by simp)]
    simp only [List.length_replicate, List.length_map, List.length_range, Nat.add_sub_cancel_left, Nat.sub_self, List.set_cons_zero]
    rw [List.range_succ, List.map_append, List.append_assoc]
    rfl
theorem padOf_form (N : Nat) : padOf N = 128 :: List.replicate (padZ N) 0 ++ (List.range 8).map (padByte N) := by
  rw [padOf, pfill_form N 8 (by omega)]
  simp
/-- when the zeros are enough -/
theorem pad_more (N z : Nat) (hz : z ≤ padZ N) : (((N : Int) % 64 + ((z : Int) + 1) + 8) % 64 != 0) = decide (z < padZ N) := by
  have hp : padZ N = if 55 < N % 64 then 119 - N % 64 else 55 - N % 64 := rfl
  have h64 : N % 64 < 64 := Nat.mod_lt _ (by omega)
  by_cases h : z < padZ N
  · rw [decide_eq_true h]
    simp only [bne_iff_ne, ne_eq]
    split at hp <;> omega
  · rw [decide_eq_false h]
    simp only [bne_eq_false_iff_eq]
    split at hp <;> omega
theorem OwnB.one (w : World) (base : Nat) (hb : base ≤ w.heap.size) (b : UInt8) : OwnB (w.alloc (.cells #[bv b] 5)) base (.slice (some ⟨w.heap.size, 0, none⟩) 1 1) [b] := by
  unfold OwnB World.ownsRow
  refine ⟨by simp [bv], Or.inr ⟨w.heap.size, 1, #[bv b], rfl, hb, ?_, ?_⟩⟩
  · rw [heap_alloc_new]
  · simp [maxLen]
def slenR : Value → Nat
  | .slice _ n _ => n
  | _ => 0
set_option maxRecDepth 10000 in
set_option maxHeartbeats 4000000 in
theorem PadR (N : Nat) (hN : N < 18446744073709551616) (w : World) :
    Calls Tryd.prog 68 #[.int .u64 N] w fun e w' => ∃ v, e = .returned v ∧ OwnB w' w.heap.size v (padOf N) ∧ Below w.heap.size w w' := by
  have hZ : padZ N < 64 := by rw [padZ]; split <;> omega
  have hform := padOf_form N
  have hmore := pad_more N
  have hbyte := pad_byte N
  obtain ⟨Z, hZZ⟩ : ∃ Z, Z = padZ N := ⟨_, rfl⟩
  rw [← hZZ] at hZ hform hmore
  replace hform := Lib.hid hform
  replace hbyte := Lib.hid hbyte
  replace hmore := Lib.hid hmore
  clear hZZ
  go_enter Tryd.func68, Tryd.ntmps68
  go_wp2
  go_loopw [3] (fun v wr => ∃ z : Nat, z ≤ Z ∧ OwnB wr w.heap.size v (128 :: List.replicate z 0) ∧ Below w.heap.size w wr) (fun v _ => 100 - slenR v)
  case atStart => exact ⟨0, by omega, OwnB.one w _ (Nat.le_refl _) 128, (Below.refl _ _).alloc (Nat.le_refl _) _⟩
  case round =>
    obtain ⟨z, hz, ho, hb⟩ := hrel
    obtain ⟨A, c, rfl, hc1, hc2⟩ := ho.formN (z + 1) (by simp)
    have hm := hmore.out z hz
    by_cases hzZ : z < Z
    · rw [decide_eq_true hzZ] at hm
      go_wp2_with (at_builtin; refine wpList_appB1 ho hb hb.size 0 rfl (by simp; omega) rfl (.tmp 16) (.tmp 17) rfl rfl rfl ?_; intro v3 w3 hown3 hb4 hz4)
      go_roundw
      case rel => exact ⟨z + 1, by omega, by rw [List.replicate_succ']; simpa using hown3, hb4⟩
      case measure => 
        obtain ⟨A', c', rfl, _, _⟩ := hown3.formN (z + 2) (by simp)
        simp [slenR]; omega
    · obtain rfl : z = Z := by omega
      rw [decide_eq_false hzZ] at hm
      clear hzZ hz hc1 hc2 hmore
      obtain ⟨P, hP⟩ : ∃ P : List UInt8, P = 128 :: List.replicate z 0 := ⟨_, rfl⟩
      rw [← hP] at ho
      have hPl : P.length ≤ 100 := by rw [hP]; simp; omega
      have hq := Lib.hid (show P ++ (List.range 8).map (padByte N) = padOf N by rw [hform.out, hP])
      replace hP := Lib.hid hP
      replace hPl := Lib.hid hPl
      obtain ⟨L, hL⟩ : ∃ L, P.length = L := ⟨_, rfl⟩
      replace hL := Lib.hid hL
      obtain ⟨M, hM⟩ : ∃ M : Int, M = IntKind.u64.wrap ((N : Int) * 8) := ⟨_, rfl⟩
      have hM0 : 0 ≤ M := by rw [hM, IntKind.wrap_u64]; omega
      rw [← hM] at hbyte
      have hM' := hM.symm
      replace hM := Lib.hid hM
      go_wp2
      go_loopw [3, 5] (fun v i wr => ∃ k : Nat, k ≤ 8 ∧ i = .int .i64 (7 - (k : Int)) ∧ OwnB wr w.heap.size v (P ++ (List.range k).map (padByte N)) ∧ Below w.heap.size w wr) (fun _ i _ => (intOf i + 1).toNat)
      case atStart => exact ⟨0, by omega, rfl, by simpa using ho, hb⟩
      case round =>
        clear ho hb
        obtain ⟨k, hk, rfl, ho, hb⟩ := hrel
        obtain ⟨A, c, rfl, hc1, hc2⟩ := ho.formN (L + k) (by simp [hL.out])
        by_cases hk8 : k < 8
        · obtain ⟨i, hi⟩ : ∃ i : Int, i = 7 - (k : Int) := ⟨_, rfl⟩
          rw [← hi]
          have i0 : 0 ≤ i := by omega
          have e1 : IntKind.i64.wrap (8 * i) = 8 * i := by rw [IntKind.wrap_i64]; omega
          have e2 : IntKind.u64.wrap (8 * i) = 8 * i := by rw [IntKind.wrap_u64]; omega
          have e3 : min ((8 * i)).toNat IntKind.u64.bits = 56 - 8 * k := by simp only [IntKind.bits]; omega
          have e4 : 0 ≤ 8 * i := by omega
          have hb2 : M / 2 ^ (8 * (7 - k)) % 256 = ((padByte N k).toNat : Int) := by rw [show 8 * (7 - k) = 56 - 8 * k by omega]; exact hbyte.out k
          replace hb2 := Lib.hid hb2
          have hlen : L + k + 1 ≤ 140737488355328 := by have := hPl.out; have := hL.out; omega
          replace hlen := Lib.hid hlen
          have e5 : IntKind.i64.wrap (i - 1) = i - 1 := by rw [IntKind.wrap_i64]; omega
          go_wp2_with (at_builtin; refine wpList_appB1 ho hb hb.size (padByte N k) hb2.out (by have := hlen.out; have := hL.out; simp; omega) rfl (.tmp 25) (.tmp 32) rfl rfl rfl ?_; intro v3 w3 hown3 hb4 hz4)
          go_roundw
          case rel => exact ⟨k + 1, by omega, by go_num, by rw [List.range_succ, List.map_append, ← List.append_assoc]; exact hown3, hb4⟩
          case measure => simp [intOf]; omega
        · obtain rfl : k = 8 := by omega
          go_wp2
          go_ret
          exact ⟨_, rfl, by rw [← hq.out]; exact ho, hb⟩
end Go.Proofs.YtmdllemgjhkphaaDoor

/- florinref02.Pad. -/
import Derived.Test.YtngindljhlbglaaDoorRb
import Derived.Test.YtngindljhlbglaaDoorShPad
namespace Go.Proofs.YtngindljhlbglaaDoor
open Go.RowKit
theorem pfill_form (N k : Nat) (hk : k ≤ 8) : pfill N k = 128 :: (List.replicate (padZ N) 0 ++ (List.range k).map (padByte N) ++ List.replicate (8 - k) 0) := by
  induction k with
  | zero => rw [pfill]; simp only [List.range_zero, List.map_nil, List.append_nil, Nat.sub_zero, List.replicate_append_replicate]
  | succ k ih =>
    rw [pfill, ih (by omega), show 8 - k = (8 - (k + 1)) + 1 by omega, List.replicate_succ, show 1 + padZ N + k = (padZ N + k) + 1 by omega, List.set_cons_succ]
    congr 1
    rw [List.append_assoc, List.append_assoc, List.set_append_right _ _ (by simp), List.set_append_right _ _ (by simp)]
    simp only [List.length_replicate, List.length_map, List.length_range, Nat.add_sub_cancel_left, Nat.sub_self, List.set_cons_zero]
    rw [List.range_succ, List.map_append, List.append_assoc]
    rfl
theorem padOf_form (N : Nat) : padOf N = 128 :: List.replicate (padZ N) 0 ++ (List.range 8).map (padByte N) := by
  rw [padOf, pfill_form N 8 (by omega)]
  simp
/-- when the zeros are enough -/
theorem pad_more (N z : Nat) (hz : z ≤ padZ N) : (((N : Int) % 64 + ((z : Int) + 1) + 8) % 64 != 0) = decide (z < padZ N) := by
  have hp : padZ N = if 55 < N % 64 then 119 - N % 64 else 55 - N % 64 := rfl
  have h64 : N % 64 < 64 := Nat.mod_lt _ (by omega)
  by_cases h : z < padZ N
  · rw [decide_eq_true h]
    simp only [bne_iff_ne, ne_eq]
    split at hp <;> omega
  · rw [decide_eq_false h]
    simp only [bne_eq_false_iff_eq]
    split at hp <;> omega
theorem OwnB.one (w : World) (base : Nat) (hb : base ≤ w.heap.size) (b : UInt8) : OwnB (w.alloc (.cells #[bv b] 5)) base (.slice (some ⟨w.heap.size, 0, none⟩) 1 1) [b] := by
  unfold OwnB World.ownsRow
  refine ⟨by simp [bv], Or.inr ⟨w.heap.size, 1, #[bv b], rfl, hb, ?_, ?_⟩⟩
  · rw [heap_alloc_new]
  · simp [maxLen]
def slenR : Value → Nat
  | .slice _ n _ => n
  | _ => 0
set_option maxRecDepth 10000 in
set_option maxHeartbeats 4000000 in
theorem PadR (N : Nat) (hN : N < 18446744073709551616) (w : World) :
    Calls Tryd.prog 50 #[.int .u64 N] w fun e w' => ∃ v, e = .returned v ∧ OwnB w' w.heap.size v (padOf N) ∧ Below w.heap.size w w' := by
  have hZ : padZ N < 64 := by rw [padZ]; split <;> omega
  have hform := padOf_form N
  have hmore := pad_more N
  have hbyte := pad_byte N
  obtain ⟨Z, hZZ⟩ : ∃ Z, Z = padZ N := ⟨_, rfl⟩
  rw [← hZZ] at hZ hform hmore
  replace hform := Lib.hid hform
  replace hbyte := Lib.hid hbyte
  replace hmore := Lib.hid hmore
  clear hZZ
  go_enter Tryd.func50, Tryd.ntmps50
  go_wp2
  go_loopw [3] (fun v wr => ∃ z : Nat, z ≤ Z ∧ OwnB wr w.heap.size v (128 :: List.replicate z 0) ∧ Below w.heap.size w wr) (fun v _ => 100 - slenR v)
  case atStart => exact ⟨0, by omega, OwnB.one w _ (Nat.le_refl _) 128, (Below.refl _ _).alloc (Nat.le_refl _) _⟩
  case round =>
    obtain ⟨z, hz, ho, hb⟩ := hrel
    obtain ⟨A, c, rfl, hc1, hc2⟩ := ho.formN (z + 1) (by simp)
    have hm := hmore.out z hz
    by_cases hzZ : z < Z
    · rw [decide_eq_true hzZ] at hm
      go_wp2_with (at_builtin; refine wpList_appB1 ho hb hb.size 0 rfl (by simp; omega) rfl (.tmp 16) (.tmp 17) rfl rfl rfl ?_; intro v3 w3 hown3 hb4 hz4)
      go_roundw
      case rel => exact ⟨z + 1, by omega, by rw [List.replicate_succ']; simpa using hown3, hb4⟩
      case measure => 
        obtain ⟨A', c', rfl, _, _⟩ := hown3.formN (z + 2) (by simp)
        simp [slenR]; omega
    · obtain rfl : z = Z := by omega
      rw [decide_eq_false hzZ] at hm
      clear hzZ hz hc1 hc2 hmore
      obtain ⟨P, hP⟩ : ∃ P : List UInt8, P = 128 :: List.replicate z 0 := ⟨_, rfl⟩
      rw [← hP] at ho
      have hPl : P.length ≤ 100 := by rw [hP]; simp; omega
      have hq := Lib.hid (show P ++ (List.range 8).map (padByte N) = padOf N by rw [hform.out, hP])
      replace hP := Lib.hid hP
      replace hPl := Lib.hid hPl
      obtain ⟨L, hL⟩ : ∃ L, P.length = L := ⟨_, rfl⟩
      replace hL := Lib.hid hL
      obtain ⟨M, hM⟩ : ∃ M : Int, M = IntKind.u64.wrap ((N : Int) * 8) := ⟨_, rfl⟩
      have hM0 : 0 ≤ M := by rw [hM, IntKind.wrap_u64]; omega
      rw [← hM] at hbyte
      have hM' := hM.symm
      replace hM := Lib.hid hM
      go_wp2
      go_loopw [3, 5] (fun v i wr => ∃ k : Nat, k ≤ 8 ∧ i = .int .i64 (7 - (k : Int)) ∧ OwnB wr w.heap.size v (P ++ (List.range k).map (padByte N)) ∧ Below w.heap.size w wr) (fun _ i _ => (intOf i + 1).toNat)
      case atStart => exact ⟨0, by omega, rfl, by simpa using ho, hb⟩
      case round =>
        clear ho hb
        obtain ⟨k, hk, rfl, ho, hb⟩ := hrel
        obtain ⟨A, c, rfl, hc1, hc2⟩ := ho.formN (L + k) (by simp [hL.out])
        by_cases hk8 : k < 8
        · obtain ⟨i, hi⟩ : ∃ i : Int, i = 7 - (k : Int) := ⟨_, rfl⟩
          rw [← hi]
          have i0 : 0 ≤ i := by omega
          have e1 : IntKind.i64.wrap (8 * i) = 8 * i := by rw [IntKind.wrap_i64]; omega
          have e2 : IntKind.u64.wrap (8 * i) = 8 * i := by rw [IntKind.wrap_u64]; omega
          have e3 : min ((8 * i)).toNat IntKind.u64.bits = 56 - 8 * k := by simp only [IntKind.bits]; omega
          have e4 : 0 ≤ 8 * i := by omega
          have hb2 : M / 2 ^ (8 * (7 - k)) % 256 = ((padByte N k).toNat : Int) := by rw [show 8 * (7 - k) = 56 - 8 * k by omega]; exact hbyte.out k
          replace hb2 := Lib.hid hb2
          have hlen : L + k + 1 ≤ 140737488355328 := by have := hPl.out; have := hL.out; omega
          replace hlen := Lib.hid hlen
          have e5 : IntKind.i64.wrap (i - 1) = i - 1 := by rw [IntKind.wrap_i64]; omega
          go_wp2_with (at_builtin; refine wpList_appB1 ho hb hb.size (padByte N k) hb2.out (by have := hlen.out; have := hL.out; simp; omega) rfl (.tmp 25) (.tmp 32) rfl rfl rfl ?_; intro v3 w3 hown3 hb4 hz4)
          go_roundw
          case rel => exact ⟨k + 1, by omega, by go_num, by rw [List.range_succ, List.map_append, ← List.append_assoc]; exact hown3, hb4⟩
          case measure => simp [intOf]; omega
        · obtain rfl : k = 8 := by omega
          go_wp2
          go_ret
          exact ⟨_, rfl, by rw [← hq.out]; exact ho, hb⟩
end Go.Proofs.YtngindljhlbglaaDoor

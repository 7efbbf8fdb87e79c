/- Rc; Rd: put together for the claim. -/
import Derived.Test.YtjgdmpbaikhflaaDoorRb
import Derived.Test.YtjgdmpbaikhflaaDoorPr4
/- florinref02.Pad. -/
namespace Go.Proofs.YtjgdmpbaikhflaaDoor
open Go.RowKit
theorem pfill_form (N k : Nat) (hk : k ≤ 8) : pfill N k = 128 :: (List.replicate (padZ N) 0 ++ (List.range k).map (padByte N) ++ List.replicate (8 - k) 0) := by
  induction k with
  | zero => rw [pfill]; simp only [List.range_zero, List.map_nil, List.append_nil, Nat.sub_zero, List.replicate_append_replicate]
  | succ k ih =>
    rw [pfill, ih (by omega), show 8 - k = (8 - (k + 1)) + 1 by omega, List.replicate_succ, show 1 + padZ N + k = (padZ N + k) + 1 by omega, List.set_cons_succ]
    congr 1
    rw [List.append_assoc, List.append_assoc, List.set_append_right _ _ (by simp), List.set_append_right _ _ (by simp)]
    simp only [List.length_replicate, List.length_map, List.length_range, Nat.add_sub_cancel_left, Nat.sub_self, List.set_cons_zero]
    rw [List.range_succ, List.map_append, List.append_assoc]
    rfl
theorem padOf_form (N : Nat) : padOf N = 128 :: List.replicate (padZ N) 0 ++ (List.range 8).map (padByte N) := by
  rw [padOf, pfill_form N 8 (by omega)]
  simp
/-- when the zeros are enough -/
theorem pad_more (N z : Nat) (hz : z ≤ padZ N) : (((N : Int) % 64 + ((z : Int) + 1) + 8) % 64 != 0) = decide (z < padZ N) := by
  have hp : padZ N = if 55 < N % 64 then 119 - N % 64 else 55 - N % 64 := rfl
  have h64 : N % 64 < 64 := Nat.mod_lt _ (by omega)
  by_cases h : z < padZ N
  · rw [decide_eq_true h]
    simp only [bne_iff_ne, ne_eq]
    split at hp <;> omega
  · rw [decide_eq_false h]
    simp only [bne_eq_false_iff_eq]
    split at hp <;> omega
theorem OwnB.one (w : World) (base : Nat) (hb : base ≤ w.heap.size) (b : UInt8) : OwnB (w.alloc (.cells #[bv b] 5)) base (.slice (some ⟨w.heap.size, 0, none⟩) 1 1) [b] := by
  unfold OwnB World.ownsRow
  refine ⟨by simp [bv], Or.inr ⟨w.heap.size, 1, #[bv b], rfl, hb, ?_, ?_⟩⟩
  · rw [heap_alloc_new]
  · simp [maxLen]
def slenR : Value → Nat
  | .slice _ n _ => n
  | _ => 0
set_option maxRecDepth 10000 in
set_option maxHeartbeats 4000000 in
theorem PadR (N : Nat) (hN : N < 18446744073709551616) (w : World) :
    Calls Tryd.prog 76 #[.int .u64 N] w fun e w' => ∃ v, e = .returned v ∧ OwnB w' w.heap.size v (padOf N) ∧ Below w.heap.size w w' := by
  have hZ : padZ N < 64 := by rw [padZ]; split <;> omega
  have hform := padOf_form N
  have hmore := pad_more N
  have hbyte := pad_byte N
  obtain ⟨Z, hZZ⟩ : ∃ Z, Z = padZ N := ⟨_, rfl⟩
  rw [← hZZ] at hZ hform hmore
  replace hform := Lib.hid hform
  replace hbyte := Lib.hid hbyte
  replace hmore := Lib.hid hmore
  clear hZZ
  go_enter Tryd.func76, Tryd.ntmps76
  go_wp2
  go_loopw [3] (fun v wr => ∃ z : Nat, z ≤ Z ∧ OwnB wr w.heap.size v (128 :: List.replicate z 0) ∧ Below w.heap.size w wr) (fun v _ => 100 - slenR v)
  case atStart => exact ⟨0, by omega, OwnB.one w _ (Nat.le_refl _) 128, (Below.refl _ _).alloc (Nat.le_refl _) _⟩
  case round =>
    obtain ⟨z, hz, ho, hb⟩ := hrel
    obtain ⟨A, c, rfl, hc1, hc2⟩ := ho.formN (z + 1) (by simp)
    have hm := hmore.out z hz
    by_cases hzZ : z < Z
    · rw [decide_eq_true hzZ] at hm
      go_wp2_with (at_builtin; refine wpList_appB1 ho hb hb.size 0 rfl (by simp; omega) rfl (.tmp 16) (.tmp 17) rfl rfl rfl ?_; intro v3 w3 hown3 hb4 hz4)
      go_roundw
      case rel => exact ⟨z + 1, by omega, by rw [List.replicate_succ']; simpa using hown3, hb4⟩
      case measure => 
        obtain ⟨A', c', rfl, _, _⟩ := hown3.formN (z + 2) (by simp)
        simp [slenR]; omega
    · obtain rfl : z = Z := by omega
      rw [decide_eq_false hzZ] at hm
      clear hzZ hz hc1 hc2 hmore
      obtain ⟨P, hP⟩ : ∃ P : List UInt8, P = 128 :: List.replicate z 0 := ⟨_, rfl⟩
      rw [← hP] at ho
      have hPl : P.length ≤ 100 := by rw [hP]; simp; omega
      have hq := Lib.hid (show P ++ (List.range 8).map (padByte N) = padOf N by rw [hform.out, hP])
      replace hP := Lib.hid hP
      replace hPl := Lib.hid hPl
      obtain ⟨L, hL⟩ : ∃ L, P.length = L := ⟨_, rfl⟩
      replace hL := Lib.hid hL
      obtain ⟨M, hM⟩ : ∃ M : Int, M = IntKind.u64.wrap ((N : Int) * 8) := ⟨_, rfl⟩
      have hM0 : 0 ≤ M := by rw [hM, IntKind.wrap_u64]; omega
      rw [← hM] at hbyte
      have hM' := hM.symm
      replace hM := Lib.hid hM
      go_wp2
      go_loopw [3, 5] (fun v i wr => ∃ k : Nat, k ≤ 8 ∧ i = .int .i64 (7 - (k : Int)) ∧ OwnB wr w.heap.size v (P ++ (List.range k).map (padByte N)) ∧ Below w.heap.size w wr) (fun _ i _ => (intOf i + 1).toNat)
      case atStart => exact ⟨0, by omega, rfl, by simpa using ho, hb⟩
      case round =>
        clear ho hb
        obtain ⟨k, hk, rfl, ho, hb⟩ := hrel
        obtain ⟨A, c, rfl, hc1, hc2⟩ := ho.formN (L + k) (by simp [hL.out])
        by_cases hk8 : k < 8
        · obtain ⟨i, hi⟩ : ∃ i : Int, i = 7 - (k : Int) := ⟨_, rfl⟩
          rw [← hi]
          have i0 : 0 ≤ i := by omega
          have e1 : IntKind.i64.wrap (8 * i) = 8 * i := by rw [IntKind.wrap_i64]; omega
          have e2 : IntKind.u64.wrap (8 * i) = 8 * i := by rw [IntKind.wrap_u64]; omega
          have e3 : min ((8 * i)).toNat IntKind.u64.bits = 56 - 8 * k := by simp only [IntKind.bits]; omega
          have e4 : 0 ≤ 8 * i := by omega
          have hb2 : M / 2 ^ (8 * (7 - k)) % 256 = ((padByte N k).toNat : Int) := by rw [show 8 * (7 - k) = 56 - 8 * k by omega]; exact hbyte.out k
          replace hb2 := Lib.hid hb2
          have hlen : L + k + 1 ≤ 140737488355328 := by have := hPl.out; have := hL.out; omega
          replace hlen := Lib.hid hlen
          have e5 : IntKind.i64.wrap (i - 1) = i - 1 := by rw [IntKind.wrap_i64]; omega
          go_wp2_with (at_builtin; refine wpList_appB1 ho hb hb.size (padByte N k) hb2.out (by have := hlen.out; have := hL.out; simp; omega) rfl (.tmp 25) (.tmp 32) rfl rfl rfl ?_; intro v3 w3 hown3 hb4 hz4)
          go_roundw
          case rel => exact ⟨k + 1, by omega, by go_num, by rw [List.range_succ, List.map_append, ← List.append_assoc]; exact hown3, hb4⟩
          case measure => simp [intOf]; omega
        · obtain rfl : k = 8 := by omega
          go_wp2
          go_ret
          exact ⟨_, rfl, by rw [← hq.out]; exact ho, hb⟩
end Go.Proofs.YtjgdmpbaikhflaaDoor
/- florinref02: Initial, Sane, Start. -/
namespace Go.Proofs.YtjgdmpbaikhflaaDoor
open Go.RowKit
theorem iTab_lt : ∀ i, i < 8 → iTab.getD i 0 < 4294967296 := by decide +kernel
def iWords : List W32 := (List.range 8).map iAt
theorem iWords_at (k : Nat) (hk : k < 8) : iWords.getD k 0 = iAt k := by
  rw [iWords, List.getD_eq_getElem?_getD, List.getElem?_map, List.getElem?_range hk]; rfl
theorem iWords_lits : #[Value.int .u32 1779033703, Value.int .u32 3144134277, Value.int .u32 1013904242, Value.int .u32 2773480762, Value.int .u32 1359893119, Value.int .u32 2600822924, Value.int .u32 528734635, Value.int .u32 1541459225] = wcs iWords := by
  have e : iWords = [BitVec.ofNat 32 1779033703, BitVec.ofNat 32 3144134277, BitVec.ofNat 32 1013904242, BitVec.ofNat 32 2773480762, BitVec.ofNat 32 1359893119, BitVec.ofNat 32 2600822924, BitVec.ofNat 32 528734635, BitVec.ofNat 32 1541459225] := by decide +kernel
  rw [e, wcs]
  simp only [List.map_cons, List.map_nil, wc]
  rw [wn_lit 1779033703 (by decide), wn_lit 3144134277 (by decide), wn_lit 1013904242 (by decide), wn_lit 2773480762 (by decide), wn_lit 1359893119 (by decide), wn_lit 2600822924 (by decide), wn_lit 528734635 (by decide), wn_lit 1541459225 (by decide)]
  rfl
set_option maxRecDepth 10000 in
set_option maxHeartbeats 2000000 in
theorem InitialR (k : Nat) (hk : k < 8) (w : World) : Calls Tryd.prog 78 #[.int .i64 k] w fun e w' => e = .returned (wc (iAt k)) ∧ Below w.heap.size w w' := by
  have hz := iWords_lits
  obtain ⟨l, hl⟩ : ∃ l, l = iWords := ⟨_, rfl⟩
  have hll : l.length = 8 := by rw [hl]; rfl
  have hat : l.getD k 0 = iAt k := by rw [hl]; exact iWords_at k hk
  rw [← hl] at hz
  clear hl
  obtain ⟨x, hx⟩ : ∃ x, x = iAt k := ⟨_, rfl⟩
  rw [← hx] at hat ⊢
  replace hx := Lib.hid hx
  replace hat := Lib.hid hat
  replace hll := Lib.hid hll
  have t1 : decide ((k : Int) < 0) = false := decide_eq_false (by omega)
  have t2 : decide (7 < (k : Int)) = false := decide_eq_false (by omega)
  have hk0 : 0 ≤ (k : Int) := by omega
  have hk1 : (k : Int) < 8 := by omega
  go_enter Tryd.func78, Tryd.ntmps78
  go_wp2_with (first
    | (refine wpList_storeAr ((Below.refl w.heap.size w).alloc (Nat.le_refl _) _) (heap_alloc_new _ _) (Nat.le_refl _) rfl _ _ _ rfl rfl l (by first | exact congrArg Value.agg hz | rfl) 8 hll.out (by kernel_rfl) rfl ?_
       intro w2 a2 b2 k2 z2
       have hc := a2.cell k (by rw [hll.out]; exact hk)
       rw [hat.out] at hc))
  go_ret
  exact ⟨rfl, b2⟩
set_option maxHeartbeats 1000000 in
theorem SaneR (h : List W32) (hh : h.length = 8) (A : Option Addr) (n c : Nat) (N : Int) (h0 : 0 ≤ N) (h1 : N < 18446744073709551616) (hn : (n : Int) < 64) (b : Bool) (hb : b = decide ((n : Int) = N % 64)) (w : World) :
    Calls Tryd.prog 75 #[.agg (stc h A n c N).toArray] w fun e w' => e = .returned (.bool b) ∧ Below w.heap.size w w' := by
  obtain ⟨v0, v1, v2, v3, v4, v5, v6, v7, rfl⟩ := len8 hh
  clear hh
  go_enter Tryd.func75, Tryd.ntmps75
  go_wp2
  go_ret
  exact ⟨by rw [hb]; rfl, (Below.refl _ _).alloc (Nat.le_refl _) _⟩

set_option maxHeartbeats 1000000 in
theorem StartR (w : World) :
    Calls Tryd.prog 69 #[] w fun e w' => e = .returned (.agg (stc shInit none 0 0 0).toArray) ∧ Below w.heap.size w w' := by
  go_enter Tryd.func69, Tryd.ntmps69
  go_wp2
  go_loopw [2] (fun i wr => ∃ k : Nat, k ≤ 8 ∧ i = .int .i64 k ∧ Below w.heap.size w wr ∧ Av wr (w.heap.size + 1) 101 (stc (ifill k) none 0 0 0) ∧ Av wr w.heap.size 101 (stc (ifill 0) none 0 0 0)) (fun i _ => 8 - (intOf i).toNat)
  case atStart =>
    refine ⟨0, by omega, rfl, ((Below.refl _ _).alloc (Nat.le_refl _) _).alloc (by simp) _, ?_, ?_⟩
    · rw [Av, ifill, stc, List.map_replicate, wc, wn_zero]; exact heap_alloc2_new _ _ _
    · rw [Av, ifill, stc, List.map_replicate, wc, wn_zero]; exact heap_alloc2_old _ _ _
  case round =>
    obtain ⟨k, hk, rfl, hb, ha, hr0⟩ := hrel
    by_cases hk8 : k < 8
    · have T := InitialR k hk8 wr
      have hk0 : 0 ≤ (k : Int) := by omega
      have hk1 : (k : Int) < 8 := by omega
      go_wp2_with fail
      refine T.mono ?_
      rintro e w3 ⟨rfl, b3⟩
      replace ha := ha.below b3
      replace hr0 := hr0.below b3
      replace hb := hb.trans (b3.mono hb.size)
      have hfz : w3.frozen? ⟨w.heap.size + 1, k, none⟩ = false := frozen_of_row _ _ _ _ _ ha
      have hc := ha.cell k (wc ((ifill k).getD k 0)) (by rw [stc, List.getElem?_append_left (by simp [ifill_length, hk8])]; simp [List.getElem?_eq_getElem (show k < (ifill k).length by rw [ifill_length]; exact hk8)])
      go_wp2
      refine ⟨⟨k + 1, by omega, by go_num, hb.setCell (by simp) _, ?_, hr0.other _ _ (by simp)⟩, ?_⟩
      · rw [ifill, ← stc_set _ _ _ _ _ _ _ (by rw [ifill_length]; exact hk8)]
        exact ha.set k _
      · simp [intOf]; omega
    · obtain rfl : k = 8 := by omega
      clear hk8 hk
      have hsl : (stc (ifill 8) none 0 0 0).length = 10 := by simp [stc, ifill_length]
      have hl0 : (stc (ifill 0) none 0 0 0).toArray.size = 10 := by simp [stc, ifill_length]
      obtain ⟨l, hl⟩ : ∃ l, l = stc (ifill 8) none 0 0 0 := ⟨_, rfl⟩
      have hall : l.all (·.oneCell') = true := by rw [hl]; simp [stc, Value.oneCell']
      rw [← hl] at ha hsl
      replace hl : Hid (l = stc shInit none 0 0 0) := Lib.hid hl
      replace hl0 := Lib.hid hl0
      go_wp2_with (first
        | refine wpList_loadAv ha rfl _ _ rfl rfl _ 10 hsl Tryd.underlying101 rfl (by kernel_rfl) ?_
        | (refine wpList_storeAv hb hr0 (Nat.le_refl _) rfl _ _ _ rfl rfl l rfl 10 hsl (by kernel_rfl) hl0.out hall ?_
           intro w4 a2 b4 k4 z4))
      exact bodyPost_ret (v := .agg l.toArray) (results_cell_row rfl _ _ w.heap.size _ _ (0, 0) _ rfl a2 Tryd.underlying101 rfl (by rw [List.size_toArray, hsl]; kernel_rfl)) rfl ⟨by rw [← hl.out], b4⟩
end Go.Proofs.YtjgdmpbaikhflaaDoor

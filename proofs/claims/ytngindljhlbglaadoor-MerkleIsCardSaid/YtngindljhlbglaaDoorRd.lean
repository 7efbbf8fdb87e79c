/- florinref02: Initial, Sane, Start. -/
import Derived.Test.YtngindljhlbglaaDoorRc
namespace Go.Proofs.YtngindljhlbglaaDoor
open Go.RowKit
theorem iTab_lt : ∀ i, i < 8 → iTab.getD i 0 < 4294967296 := by decide +kernel
def iWords : List W32 := (List.range 8).map iAt
theorem iWords_at (k : Nat) (hk : k < 8) : iWords.getD k 0 = iAt k := by
  rw [iWords, List.getD_eq_getElem?_getD, List.getElem?_map, List.getElem?_range hk]; rfl
theorem iWords_lits : #[Value.int .u32 1779033703, Value.int .u32 3144134277, Value.int .u32 1013904242, Value.int .u32 2773480762, Value.int .u32 1359893119, Value.int .u32 2600822924, Value.int .u32 528734635, Value.int .u32 1541459225] = wcs iWords := by
  have e : iWords = [BitVec.ofNat 32 1779033703, BitVec.ofNat 32 3144134277, BitVec.ofNat 32 1013904242, BitVec.ofNat 32 2773480762, BitVec.ofNat 32 1359893119, BitVec.ofNat 32 2600822924, BitVec.ofNat 32 528734635, BitVec.ofNat 32 1541459225] := by decide +kernel
  rw [e, wcs]
  simp only [List.map_cons, List.map_nil, wc]
  rw [wn_lit 1779033703 (by decide), wn_lit 3144134277 (by decide), wn_lit 1013904242 (by decide), wn_lit 2773480762 (by decide), wn_lit 1359893119 (by decide), wn_lit 2600822924 (by decide), wn_lit 528734635 (by decide), wn_lit 1541459225 (by decide)]
  rfl
set_option maxRecDepth 10000 in
set_option maxHeartbeats 2000000 in
theorem InitialR (k : Nat) (hk : k < 8) (w : World) : Calls Tryd.prog 52 #[.int .i64 k] w fun e w' => e = .returned (wc (iAt k)) ∧ Below w.heap.size w w' := by
  have hz := iWords_lits
  obtain ⟨l, hl⟩ : ∃ l, l = iWords := ⟨_, rfl⟩
  have hll : l.length = 8 := by rw [hl]; rfl
  have hat : l.getD k 0 = iAt k := by rw [hl]; exact iWords_at k hk
  rw [← hl] at hz
  clear hl
  obtain ⟨x, hx⟩ : ∃ x, x = iAt k := ⟨_, rfl⟩
  rw [← hx] at hat ⊢
  replace hx := Lib.hid hx
  replace hat := Lib.hid hat
  replace hll := Lib.hid hll
  have t1 : decide ((k : Int) < 0) = false := decide_eq_false (by omega)
  have t2 : decide (7 < (k : Int)) = false := decide_eq_false (by omega)
  have hk0 : 0 ≤ (k : Int) := by omega
  have hk1 : (k : Int) < 8 := by omega
  go_enter Tryd.func52, Tryd.ntmps52
  go_wp2_with (first
    | (refine wpList_storeAr ((Below.refl w.heap.size w).alloc (Nat.le_refl _) _) (heap_alloc_new _ _) (Nat.le_refl _) rfl _ _ _ rfl rfl l (by first | exact congrArg Value.agg hz | rfl) 8 hll.out (by kernel_rfl) rfl ?_
       intro w2 a2 b2 k2 z2
       have hc := a2.cell k (by rw [hll.out]; exact hk)
       rw [hat.out] at hc))
  go_ret
  exact ⟨rfl, b2⟩
set_option maxHeartbeats 1000000 in
theorem SaneR (h : List W32) (hh : h.length = 8) (A : Option Addr) (n c : Nat) (N : Int) (h0 : 0 ≤ N) (h1 : N < 18446744073709551616) (hn : (n : Int) < 64) (b : Bool) (hb : b = decide ((n : Int) = N % 64)) (w : World) :
    Calls Tryd.prog 49 #[.agg (stc h A n c N).toArray] w fun e w' => e = .returned (.bool b) ∧ Below w.heap.size w w' := by
  obtain ⟨v0, v1, v2, v3, v4, v5, v6, v7, rfl⟩ := len8 hh
  clear hh
  go_enter Tryd.func49, Tryd.ntmps49
  go_wp2
  go_ret
  exact ⟨by rw [hb]; rfl, (Below.refl _ _).alloc (Nat.le_refl _) _⟩

set_option maxHeartbeats 1000000 in
theorem StartR (w : World) :
    Calls Tryd.prog 45 #[] w fun e w' => e = .returned (.agg (stc shInit none 0 0 0).toArray) ∧ Below w.heap.size w w' := by
  go_enter Tryd.func45, Tryd.ntmps45
  go_wp2
  go_loopw [2] (fun i wr => ∃ k : Nat, k ≤ 8 ∧ i = .int .i64 k ∧ Below w.heap.size w wr ∧ Av wr (w.heap.size + 1) 61 (stc (ifill k) none 0 0 0) ∧ Av wr w.heap.size 61 (stc (ifill 0) none 0 0 0)) (fun i _ => 8 - (intOf i).toNat)
  case atStart =>
    refine ⟨0, by omega, rfl, ((Below.refl _ _).alloc (Nat.le_refl _) _).alloc (by simp) _, ?_, ?_⟩
    · rw [Av, ifill, stc, List.map_replicate, wc, wn_zero]; exact heap_alloc2_new _ _ _
    · rw [Av, ifill, stc, List.map_replicate, wc, wn_zero]; exact heap_alloc2_old _ _ _
  case round =>
    obtain ⟨k, hk, rfl, hb, ha, hr0⟩ := hrel
    by_cases hk8 : k < 8
    · have T := InitialR k hk8 wr
      have hk0 : 0 ≤ (k : Int) := by omega
      have hk1 : (k : Int) < 8 := by omega
      go_wp2_with fail
      refine T.mono ?_
      rintro e w3 ⟨rfl, b3⟩
      replace ha := ha.below b3
      replace hr0 := hr0.below b3
      replace hb := hb.trans (b3.mono hb.size)
      have hfz : w3.frozen? ⟨w.heap.size + 1, k, none⟩ = false := frozen_of_row _ _ _ _ _ ha
      have hc := ha.cell k (wc ((ifill k).getD k 0)) (by rw [stc, List.getElem?_append_left (by simp [ifill_length, hk8])]; simp [List.getElem?_eq_getElem (show k < (ifill k).length by rw [ifill_length]; exact hk8)])
      go_wp2
      refine ⟨⟨k + 1, by omega, by go_num, hb.setCell (by simp) _, ?_, hr0.other _ _ (by simp)⟩, ?_⟩
      · rw [ifill, ← stc_set _ _ _ _ _ _ _ (by rw [ifill_length]; exact hk8)]
        exact ha.set k _
      · simp [intOf]; omega
    · obtain rfl : k = 8 := by omega
      clear hk8 hk
      have hsl : (stc (ifill 8) none 0 0 0).length = 10 := by simp [stc, ifill_length]
      have hl0 : (stc (ifill 0) none 0 0 0).toArray.size = 10 := by simp [stc, ifill_length]
      obtain ⟨l, hl⟩ : ∃ l, l = stc (ifill 8) none 0 0 0 := ⟨_, rfl⟩
      have hall : l.all (·.oneCell') = true := by rw [hl]; simp [stc, Value.oneCell']
      rw [← hl] at ha hsl
      replace hl : Hid (l = stc shInit none 0 0 0) := Lib.hid hl
      replace hl0 := Lib.hid hl0
      go_wp2_with (first
        | refine wpList_loadAv ha rfl _ _ rfl rfl _ 10 hsl Tryd.underlying61 rfl (by kernel_rfl) ?_
        | (refine wpList_storeAv hb hr0 (Nat.le_refl _) rfl _ _ _ rfl rfl l rfl 10 hsl (by kernel_rfl) hl0.out hall ?_
           intro w4 a2 b4 k4 z4))
      exact bodyPost_ret (v := .agg l.toArray) (results_cell_row rfl _ _ w.heap.size _ _ (0, 0) _ rfl a2 Tryd.underlying61 rfl (by rw [List.size_toArray, hsl]; kernel_rfl)) rfl ⟨by rw [← hl.out], b4⟩
end Go.Proofs.YtngindljhlbglaaDoor

import Derived.Test.YtobjgebojhjhnaaDoorQr6
import Derived.Test.YtobjgebojhjhnaaDoorQr3
import Derived.Test.YtobjgebojhjhnaaDoorQr1
import Derived.Deep.MidRow
namespace Go.Proofs.YtobjgebojhjhnaaDoor
open Go.RowKit
abbrev stc (h : List W32) (A : Option Addr) (n c : Nat) (N : Int) : List Value := h.map wc ++ [.slice A n c, .int .u64 N]
set_option maxHeartbeats 1000000 in
theorem Sane (h : List W32) (hh : h.length = 8) (A : Option Addr) (n c : Nat) (N : Int) (h0 : 0 ≤ N) (h1 : N < 18446744073709551616) (hn : (n : Int) < 64) (b : Bool) (hb : b = decide ((n : Int) = N % 64)) (w : World) :
  Calls Tryd.prog 98 #[.agg (stc h A n c N).toArray] w fun e w' => e = .returned (.bool b) ∧ Below w.heap.size w w' := by
 obtain ⟨v0, v1, v2, v3, v4, v5, v6, v7, rfl⟩ := len8 hh
 clear hh
 go_enter Tryd.func98, Tryd.ntmps98
 go_wp2
 go_ret
 exact ⟨by rw [hb]; rfl, (Below.refl _ _).alloc (Nat.le_refl _) _⟩
def ifill : Nat → List W32
 | 0 => List.replicate 8 0
 | k + 1 => (ifill k).set k (iAt k)
theorem ifill_length (k : Nat) : (ifill k).length = 8 := by
 induction k with
 | zero => rfl
 | succ k ih => rw [ifill, List.length_set, ih]
def shInit : List W32 := ifill 8
theorem stc_set (h : List W32) (A : Option Addr) (n c : Nat) (N : Int) (k : Nat) (x : W32) (hk : k < h.length) : (stc h A n c N).set k (wc x) = stc (h.set k x) A n c N := by
 simp [stc, hk, List.map_set]
set_option maxHeartbeats 1000000 in
theorem Start (w : World) (ht : Tabs w) :
    Calls Tryd.prog 89 #[] w fun e w' => e = .returned (.agg (stc shInit none 0 0 0).toArray) ∧ Below w.heap.size w w' := by
  go_enter Tryd.func89, Tryd.ntmps89
  go_wp2
  go_loopw [3] (fun i wr => ∃ k : Nat, k ≤ 8 ∧ i = .int .i64 k ∧ Below w.heap.size w wr ∧ Av wr (w.heap.size + 1) 194 (stc (ifill k) none 0 0 0) ∧ Av wr w.heap.size 194 (stc (ifill 0) none 0 0 0)) (fun i _ => 8 - (intOf i).toNat)
  case atStart =>
    refine ⟨0, by omega, rfl, ((Below.refl _ _).alloc (Nat.le_refl _) _).alloc (by simp) _, ?_, ?_⟩
    · rw [Av, ifill, stc, List.map_replicate, wc, wn_zero]; exact heap_alloc2_new _ _ _
    · rw [Av, ifill, stc, List.map_replicate, wc, wn_zero]; exact heap_alloc2_old _ _ _
  case round =>
    obtain ⟨k, hk, rfl, hb, ha, hr0⟩ := hrel
    by_cases hk8 : k < 8
    · have T := Initial k (by omega) (by omega) wr (ht.below hb)
      rw [show ((k : Int)).toNat = k by omega] at T
      have hk0 : 0 ≤ (k : Int) := by omega
      have hk1 : (k : Int) < 8 := by omega
      have hfz : wr.frozen? ⟨w.heap.size + 1, k, none⟩ = false := frozen_of_row _ _ _ _ _ ha
      have hc := ha.cell k (wc ((ifill k).getD k 0)) (by rw [stc, List.getElem?_append_left (by simp [ifill_length, hk8])]; simp [List.getElem?_eq_getElem (show k < (ifill k).length by rw [ifill_length]; exact hk8)])
      go_wp2_with fail
      refine T.mono ?_
      rintro e w' ⟨rfl, rfl⟩
      go_wp2
      refine ⟨⟨k + 1, by omega, by go_num, hb.setCell (by simp) _, ?_, hr0.other _ _ (by simp)⟩, ?_⟩
      · rw [ifill, ← stc_set _ _ _ _ _ _ _ (by rw [ifill_length]; exact hk8)]
        exact ha.set k _
      · simp [intOf]; omega
    · obtain rfl : k = 8 := by omega
      clear hk8 hk
      have hsl : (stc (ifill 8) none 0 0 0).length = 10 := by simp [stc, ifill_length]
      have hl0 : (stc (ifill 0) none 0 0 0).toArray.size = 10 := by simp [stc, ifill_length]
      obtain ⟨l, hl⟩ : ∃ l, l = stc (ifill 8) none 0 0 0 := ⟨_, rfl⟩
      have hall : l.all (·.oneCell') = true := by rw [hl]; simp [stc, Value.oneCell']
      rw [← hl] at ha hsl
      replace hl : Hid (l = stc shInit none 0 0 0) := Lib.hid hl
      replace hl0 := Lib.hid hl0
      go_wp2_with (first
        | refine wpList_loadAv ha rfl _ _ rfl rfl _ 10 hsl Tryd.underlying194 rfl (by kernel_rfl) ?_
        | (refine wpList_storeAv hb hr0 (Nat.le_refl _) rfl _ _ _ rfl rfl l rfl 10 hsl (by kernel_rfl) hl0.out hall ?_
           intro w4 a2 b4 k4 z4))
      exact bodyPost_ret (v := .agg l.toArray) (results_cell_row rfl _ _ w.heap.size _ _ (0, 0) _ rfl a2 Tryd.underlying194 rfl (by rw [List.size_toArray, hsl]; kernel_rfl)) rfl ⟨by rw [← hl.out], b4⟩
end Go.Proofs.YtobjgebojhjhnaaDoor
namespace Go.Proofs.YtobjgebojhjhnaaDoor
open Go.RowKit
def padZ (N : Nat) : Nat := if 55 < N % 64 then 119 - N % 64 else 55 - N % 64
def padByte (N k : Nat) : UInt8 := UInt8.ofNat (8 * N % 18446744073709551616 / 2 ^ (56 - 8 * k))
def pfill (N : Nat) : Nat → List UInt8
 | 0 => 128 :: List.replicate (padZ N + 8) 0
 | k + 1 => (pfill N k).set (1 + padZ N + k) (padByte N k)
theorem pfill_length (N k : Nat) : (pfill N k).length = padZ N + 9 := by
 induction k with
 | zero => simp [pfill]
 | succ k ih => rw [pfill, List.length_set, ih]
def padOf (N : Nat) : List UInt8 := pfill N 8
theorem madeCells_bytes (M : Nat) : madeCells #[.int .u8 0] M = ((List.replicate M (0 : UInt8)).map bv).toArray := by
 apply Array.ext
 ·simp [size_madeCells]
 ·intro i h1 h2
  have e : i % 1 = 0 := Nat.mod_one i
  simp [madeCells, bv, e]
theorem pad_start (N z : Nat) (hz : z = padZ N) (w : World) : Av (w.alloc (.cells ((Array.replicate (z + 9) (bv 0)).setIfInBounds 0 (.int .u8 128)) 5)) w.heap.size 5 ((pfill N 0).map bv) := by
 unfold Av
 rw [heap_alloc_new]
 have e : (Array.replicate (z + 9) (bv 0)).setIfInBounds 0 (.int .u8 128) = ((pfill N 0).map bv).toArray := by
  apply Array.ext'
  simp [pfill, ← hz, List.replicate_succ]
 rw [e]
theorem pad_byte (N k : Nat) : IntKind.u64.wrap ((N : Int) * 8) / 2 ^ (56 - 8 * k) % 256 = ((padByte N k).toNat : Int) := by
 have e : (padByte N k).toNat = 8 * N % 18446744073709551616 / 2 ^ (56 - 8 * k) % 256 := UInt8.toNat_ofNat'
 rw [e, IntKind.wrap_u64, Int.mul_comm]
 simp
set_option maxHeartbeats 1000000 in
theorem Pad (N : Nat) (hN : N < 18446744073709551616) (w : World) :
  Calls Tryd.prog 99 #[.int .u64 N] w fun e w' =>
   e = .returned (.slice (some ⟨w.heap.size, 0, none⟩) (padZ N + 9) (padZ N + 9)) ∧ Rd w' (some ⟨w.heap.size, 0, none⟩) ((padOf N).map bv) ∧ Below w.heap.size w w' := by
 have hr0 : 0 ≤ (N : Int) % 64 := by omega
 have hr1 : (N : Int) % 64 < 64 := by omega
 obtain ⟨z, hz⟩ : ∃ z, z = padZ N := ⟨_, rfl⟩
 have hz64 : z < 64 := by rw [hz, padZ]; split <;> omega
 have hcase : (decide (55 - (N : Int) % 64 < 0) = true ∧ 55 - (N : Int) % 64 + 64 = (z : Int)) ∨ (decide (55 - (N : Int) % 64 < 0) = false ∧ 55 - (N : Int) % 64 = (z : Int)) := by
  rw [hz, padZ]
  by_cases h : 55 < N % 64
  ·rw [if_pos h]; exact .inl ⟨by simp; omega, by omega⟩
  ·rw [if_neg h]; exact .inr ⟨by simp; omega, by omega⟩
 have hmk : ∀ u : World, (Instr.makeSlice 33 (.int .i64 (1 + (z : Int) + 8)) (.int .i64 (1 + (z : Int) + 8))).run Tryd.prog u = .ok (.slice (some ⟨u.heap.size, 0, none⟩) (z + 9) (z + 9)) (u.alloc (.cells ((List.replicate (z + 9) (0 : UInt8)).map bv).toArray 5)) := fun u => by
  obtain ⟨i0, hi, hz0, hz1, hz2⟩ := info_parts info_u8
  have h := run_make (P := Tryd.prog) u 33 5 i0 (.int .u8 0) Tryd.underlying33 hi hz0 .i64 .i64 (1 + (z : Int) + 8) (1 + (z : Int) + 8) (by omega) (by omega) (by rw [hz2]; omega) (by omega)
  have e : (1 + (z : Int) + 8).toNat = z + 9 := by omega
  rw [e] at h
  simpa [hz1, Value.cells, madeCells_bytes] using h
 replace hz := Lib.hid hz
 rcases hcase with ⟨e1, e2⟩ | ⟨e1, e2⟩
 ·go_enter Tryd.func99, Tryd.ntmps99
  go_wp2
  go_loopw [22] (fun i wr => ∃ k : Nat, k ≤ 8 ∧ i = .int .i64 k ∧ Below w.heap.size w wr ∧ Av wr w.heap.size 5 ((pfill N k).map bv)) (fun i _ => 8 - (intOf i).toNat)
  case atStart => exact ⟨0, by omega, rfl, (Below.refl _ _).alloc (Nat.le_refl _) _, pad_start N z hz.out w⟩
  case round =>
   obtain ⟨k, hk, rfl, hb, ha⟩ := hrel
   by_cases hk8 : k < 8
   ·have hk0 : 0 ≤ (k : Int) := by omega
    have hk1 : (k : Int) < 8 := by omega
    have hfz : wr.frozen? ⟨w.heap.size, 1 + z + k, none⟩ = false := frozen_of_row _ _ _ _ _ ha
    have hc := ha.cell (1 + z + k) (bv ((pfill N k).getD (1 + z + k) 0)) (by simp [List.getElem?_eq_getElem (show 1 + z + k < (pfill N k).length by rw [pfill_length, ← hz.out]; omega)])
    go_wp2
    rw [pad_byte]
    refine ⟨⟨k + 1, by omega, by go_num, hb.setCell (Nat.le_refl _) _, ?_⟩, ?_⟩
    ·rw [pfill, ← hz.out, List.map_set]; exact ha.set _ _
    ·simp [intOf]; omega
   ·obtain rfl : k = 8 := by omega
    go_wp2
    go_ret
    exact ⟨by rw [← hz.out]; rfl, .inr ⟨_, _, rfl, fun j u hu => by simpa using ha.cell j u hu⟩, hb⟩
 ·go_enter Tryd.func99, Tryd.ntmps99
  go_wp2
  go_loopw [22] (fun i wr => ∃ k : Nat, k ≤ 8 ∧ i = .int .i64 k ∧ Below w.heap.size w wr ∧ Av wr w.heap.size 5 ((pfill N k).map bv)) (fun i _ => 8 - (intOf i).toNat)
  case atStart => exact ⟨0, by omega, rfl, (Below.refl _ _).alloc (Nat.le_refl _) _, pad_start N z hz.out w⟩
  case round =>
   obtain ⟨k, hk, rfl, hb, ha⟩ := hrel
   by_cases hk8 : k < 8
   ·have hk0 : 0 ≤ (k : Int) := by omega
    have hk1 : (k : Int) < 8 := by omega
    have hfz : wr.frozen? ⟨w.heap.size, 1 + z + k, none⟩ = false := frozen_of_row _ _ _ _ _ ha
    have hc := ha.cell (1 + z + k) (bv ((pfill N k).getD (1 + z + k) 0)) (by simp [List.getElem?_eq_getElem (show 1 + z + k < (pfill N k).length by rw [pfill_length, ← hz.out]; omega)])
    go_wp2
    rw [pad_byte]
    refine ⟨⟨k + 1, by omega, by go_num, hb.setCell (Nat.le_refl _) _, ?_⟩, ?_⟩
    ·rw [pfill, ← hz.out, List.map_set]; exact ha.set _ _
    ·simp [intOf]; omega
   ·obtain rfl : k = 8 := by omega
    go_wp2
    go_ret
    exact ⟨by rw [← hz.out]; rfl, .inr ⟨_, _, rfl, fun j u hu => by simpa using ha.cell j u hu⟩, hb⟩
end Go.Proofs.YtobjgebojhjhnaaDoor
namespace Go.Proofs.YtobjgebojhjhnaaDoor
def shFold : Nat → List W32 → List UInt8 → List W32
 | 0, h, _ => h
 | k + 1, h, bs => shFold k (shBlock h (bs.take 64)) (bs.drop 64)
theorem shFold_snoc (k : Nat) (h : List W32) (bs : List UInt8) : shFold (k + 1) h bs = shBlock (shFold k h bs) ((bs.drop (64 * k)).take 64) := by
 induction k generalizing h bs with
 | zero => simp [shFold]
 | succ k ih =>
  rw [shFold, ih]
  simp only [shFold, List.drop_drop]
  rw [show 64 + 64 * k = 64 * (k + 1) by omega]
theorem shBlock_length (h : List W32) (bs : List UInt8) (hh : h.length = 8) : (shBlock h bs).length = 8 := by
 rw [shBlock, addv_length, shRounds_length _ _ hh]
theorem shFold_length (k : Nat) (h : List W32) (bs : List UInt8) (hh : h.length = 8) : (shFold k h bs).length = 8 := by
 induction k generalizing h bs with
 | zero => exact hh
 | succ k ih => rw [shFold, ih _ _ (shBlock_length _ _ hh)]
end Go.Proofs.YtobjgebojhjhnaaDoor
namespace Go.Proofs.YtobjgebojhjhnaaDoor
open Go.RowKit
end Go.Proofs.YtobjgebojhjhnaaDoor
namespace Go.Proofs.YtobjgebojhjhnaaDoor
open Go.RowKit
attribute [local go_sem high] slB_lh slB_l slB_h nilB_eq
theorem Rd.sub64 {w : World} {A : Option Addr} {xs : List Value} (h : Rd w A xs) (c : Nat) (hc : xs.length ≤ c) :
  Rd w (if c = 64 then A else A.map fun x => { block := x.block, off := x.off + 64 }) (xs.drop 64) := by
 split
 ·exact .inl (List.drop_eq_nil_of_le (by omega))
 ·rcases h with h | ⟨b, off, rfl, h⟩
  ·exact .inl (by rw [h]; rfl)
  ·exact Rd.drop (.inr ⟨b, off, rfl, h⟩) 64
def sliceLen : Value → Nat
 | .slice _ n _ => n
 | _ => 0
set_option maxRecDepth 10000 in
set_option maxHeartbeats 4000000 in
theorem Write0 (h : List W32) (hh : h.length = 8) (A : Option Addr) (c : Nat) (N : Int) (h0 : 0 ≤ N) (h1 : N < 18446744073709551616) (h64 : N % 64 = 0)
    (bs : List UInt8) (B : Option Addr) (m cb : Nat) (hm : bs.length = m) (hc : m ≤ cb) (w : World) (hr : Rd w B (bs.map bv)) (ht : Tabs w) :
    Calls Tryd.prog 88 #[.agg (stc h A 0 c N).toArray, .slice B m cb] w fun e w' =>
      ∃ A' c', e = .returned (.agg (stc (shFold (m / 64) h bs) A' (m % 64) c' (IntKind.u64.wrap (N + IntKind.u64.wrap (m : Int)))).toArray) ∧ m % 64 ≤ c' ∧ Rd w' A' ((bs.drop (64 * (m / 64))).map bv) ∧ Below w.heap.size w w' := by
  have hs := Sane h hh A 0 c N h0 h1 (by omega) true (by simp [h64])
  obtain ⟨v0, v1, v2, v3, v4, v5, v6, v7, rfl⟩ := len8 hh
  clear hh
  obtain ⟨zs, hzs⟩ : ∃ zs : List Value, zs = stc (List.replicate 8 0) none 0 0 0 := ⟨_, rfl⟩
  have hz : #[Value.int IntKind.u32 0, Value.int IntKind.u32 0, Value.int IntKind.u32 0, Value.int IntKind.u32 0, Value.int IntKind.u32 0, Value.int IntKind.u32 0, Value.int IntKind.u32 0, Value.int IntKind.u32 0, Value.slice none 0 0, Value.int IntKind.u64 0] = zs.toArray := by
    rw [hzs, stc, List.map_replicate, wc, wn_zero]; rfl
  have hzl : zs.length = 10 := by rw [hzs]; rfl
  clear hzs
  obtain ⟨ss, hss⟩ : ∃ ss : List Value, ss = stc [v0, v1, v2, v3, v4, v5, v6, v7] A 0 c N := ⟨_, rfl⟩
  rw [← hss] at hs ⊢
  have hsl : ss.length = 10 := by rw [hss]; rfl
  replace hss := Lib.hid hss
  replace hzl := Lib.hid hzl
  replace hsl := Lib.hid hsl
  go_enter Tryd.func88, Tryd.ntmps88
  have hb0 : Below w.heap.size w ((w.alloc (.cells ss.toArray 194)).alloc (.cells zs.toArray 194)) := ((Below.refl _ _).alloc (Nat.le_refl _) _).alloc (by simp) _
  have ha2 : Av ((w.alloc (.cells ss.toArray 194)).alloc (.cells zs.toArray 194)) w.heap.size 194 ss := heap_alloc2_old _ _ _
  have ha4 : Av ((w.alloc (.cells ss.toArray 194)).alloc (.cells zs.toArray 194)) (w.heap.size + 1) 194 zs := heap_alloc2_new _ _ _
  go_wp2_with (refine wpList_loadAv ha2 rfl _ _ rfl rfl _ 10 hsl.out Tryd.underlying194 rfl (by kernel_rfl) ?_)
  generalize (w.alloc (.cells ss.toArray 194)).alloc (.cells zs.toArray 194) = w0 at *
  refine (hs w0).mono ?_
  rintro e w1 ⟨rfl, b1⟩
  replace ha2 := ha2.below b1
  replace ha4 := ha4.below b1
  replace b1 := hb0.trans (b1.mono hb0.size)
  clear hb0 hs hz
  have ht1 := ht.below b1
  have q4 := Lib.hid ha4.lt
  have c8 : w1.cell? ⟨w.heap.size, 8, none⟩ = some (.slice A 0 c) := ha2.cell 8 _ (by rw [hss.out]; rfl)
  have c9 : w1.cell? ⟨w.heap.size, 9, none⟩ = some (.int .u64 N) := ha2.cell 9 _ (by rw [hss.out]; rfl)
  have r2 : w1.rangeAt w.heap.size 0 [wc v0, wc v1, wc v2, wc v3, wc v4, wc v5, wc v6, wc v7] := Av.rangeAt (pre := []) (rest := [.slice A 0 c, .int .u64 N]) (by rw [hss.out] at ha2; exact ha2) 0 rfl
  go_wp2_with (first
    | refine wpList_load_mid rfl _ _ rfl _ _ rfl _ _ r2 Tryd.underlying192 rfl (by kernel_rfl) ?_
    | (refine wpList_storeAv (b1.alloc b1.size _) (heap_alloc_new _ _) b1.size rfl _ _ _ rfl rfl (stc [v0, v1, v2, v3, v4, v5, v6, v7] none 0 0 _) rfl 10 rfl (by kernel_rfl) rfl rfl ?_
       intro w2 a5 b2 k2 z2
       have d8 : w2.cell? ⟨w.heap.size, 8, none⟩ = some (.slice A 0 c) := ((ha2.alloc _).same (k2 _ (Nat.ne_of_lt ha2.lt))).cell 8 _ (by rw [hss.out]; rfl)
       replace ha4 := (ha4.alloc _).same (k2 _ (Nat.ne_of_lt ha4.lt))
       clear k2 z2 c8 c9 r2 ha2))
  have hr2 := hr.below b2
  obtain ⟨N2, hN2⟩ : ∃ n : Int, n = IntKind.u64.wrap (N + IntKind.u64.wrap (m : Int)) := ⟨_, rfl⟩
  rw [← hN2] at a5 ⊢
  replace hN2 := Lib.hid hN2
  obtain ⟨hv, hhv⟩ : ∃ l, l = [v0, v1, v2, v3, v4, v5, v6, v7] := ⟨_, rfl⟩
  have hvl : hv.length = 8 := by rw [hhv]; rfl
  rw [← hhv] at a5
  replace hhv := Lib.hid hhv
  go_loopw [1] (fun b wr => ∃ (k : Nat) (A' : Option Addr) (c' : Nat), 64 * k ≤ m ∧ b = .slice A' (m - 64 * k) c' ∧ m - 64 * k ≤ c' ∧ Rd w A' ((bs.drop (64 * k)).map bv) ∧ Below w.heap.size w wr ∧ Av wr w1.heap.size 194 (stc (shFold k hv bs) none 0 0 N2) ∧ Av wr (w.heap.size + 1) 194 zs) (fun b _ => sliceLen b)
  case atStart => exact ⟨0, B, cb, by omega, rfl, hc, by simpa using hr, b2, a5, ha4⟩
  case round =>
    clear a5 ha4 b2 d8 hr2
    obtain ⟨k, A', c', hk, rfl, hc', hr', hb, a5, a4⟩ := hrel
    by_cases hk64 : 64 ≤ m - 64 * k
    · have t1 : decide ((64 : Int) ≤ ((m - 64 * k : Nat) : Int)) = true := by simp; omega
      obtain ⟨hk', hhk⟩ : ∃ l, l = shFold k hv bs := ⟨_, rfl⟩
      have hkl : hk'.length = 8 := by rw [hhk, shFold_length _ _ _ hvl]
      rw [← hhk] at a5
      replace hhk := Lib.hid hhk
      obtain ⟨u0, u1, u2, u3, u4', u5, u6', u7', rfl⟩ := len8 hkl
      have c0 : wr.cell? ⟨w1.heap.size, 0, none⟩ = some (wc u0) := a5.cell 0 _ rfl
      have c1 : wr.cell? ⟨w1.heap.size, 1, none⟩ = some (wc u1) := a5.cell 1 _ rfl
      have c2 : wr.cell? ⟨w1.heap.size, 2, none⟩ = some (wc u2) := a5.cell 2 _ rfl
      have c3 : wr.cell? ⟨w1.heap.size, 3, none⟩ = some (wc u3) := a5.cell 3 _ rfl
      have c4 : wr.cell? ⟨w1.heap.size, 4, none⟩ = some (wc u4') := a5.cell 4 _ rfl
      have c5 : wr.cell? ⟨w1.heap.size, 5, none⟩ = some (wc u5) := a5.cell 5 _ rfl
      have c6 : wr.cell? ⟨w1.heap.size, 6, none⟩ = some (wc u6') := a5.cell 6 _ rfl
      have c7 : wr.cell? ⟨w1.heap.size, 7, none⟩ = some (wc u7') := a5.cell 7 _ rfl
      have s1 : (0 : Int) ≤ 64 := by decide
      have s2 : (64 : Int) ≤ (c' : Int) := by omega
      go_wp2
      go_still_tail 4, (by kernel_rfl)
      change wpList _ _ _ _ _ (World.drew _)
      clear c0 c1 c2 c3 c4 c5 c6 c7
      have hr64 : Rd wr.drew A' ((((bs.drop (64 * k)).take 64)).map bv) := by rw [List.map_take]; exact (Rd.take hr' 64).below hb.drew
      replace hb := hb.drew
      replace a5 := a5.drew
      replace a4 := a4.drew
      generalize World.drew wr = wd at *
      have HB := Block [u0, u1, u2, u3, u4', u5, u6', u7'] rfl ((bs.drop (64 * k)).take 64) A' c' (by simp; omega) wd hr64 (ht.below hb)
      obtain ⟨hx, hhx⟩ : ∃ l, l = shBlock [u0, u1, u2, u3, u4', u5, u6', u7'] ((bs.drop (64 * k)).take 64) := ⟨_, rfl⟩
      have hxl : hx.length = 8 := by rw [hhx]; exact shBlock_length _ _ rfl
      rw [← hhx] at HB
      replace hhx := Lib.hid hhx
      replace hxl := Lib.hid hxl
      replace HB := Lib.hid HB
      go_wp2_with fail
      refine HB.out.mono ?_
      rintro e w4 ⟨rfl, b4⟩
      replace a5 := a5.below b4
      replace a4 := a4.below b4
      replace hb := hb.trans (b4.mono hb.size)
      clear HB hr64
      have hth := a5.there 0 8 (by simp)
      go_wp2_with (refine wpList_store_mid rfl _ _ _ rfl _ _ _ rfl rfl (by rw [wcs_size, hxl.out]; exact hth) (by rw [wcs_size, hxl.out]; kernel_rfl) (by simp [wcs, Value.oneCell']) ?_)
      have n4 : w.heap.size + 1 ≠ w1.heap.size := by have := q4.out; omega
      have hg : w.heap.size ≤ w1.heap.size := by have := q4.out; omega
      have a5' : Av (w4.setCells w1.heap.size 0 (wcs hx).toList) w1.heap.size 194 (stc hx none 0 0 N2) :=
        Av.setCells (wcs hx).toList [] ([u0, u1, u2, u3, u4', u5, u6', u7'].map wc) [.slice none 0 0, .int .u64 N2] 0 _ a5 rfl (by simp [wcs, hxl.out])
      have hb' := below_setCells (wcs hx).toList w4 w1.heap.size 0 hb hg
      refine ⟨⟨k + 1, _, _, by omega, by rw [show m - 64 * (k + 1) = m - 64 * k - 64 by omega], by omega, ?_, hb', ?_, a4.same (heap_setCells _ _ _ _ _ n4)⟩, ?_⟩
      · have := Rd.sub64 hr' c' (by simp; omega)
        rw [← List.map_drop, List.drop_drop] at this
        rw [show 64 * (k + 1) = 64 * k + 64 by omega]
        exact this
      · rw [shFold_snoc, ← hhk.out, ← hhx.out]; exact a5'
      · simp only [sliceLen]; omega
    · have t1 : decide ((64 : Int) ≤ ((m - 64 * k : Nat) : Int)) = false := by simp; omega
      obtain ⟨hx, hhx⟩ : ∃ l, l = shFold k hv bs := ⟨_, rfl⟩
      rw [← hhx] at a5
      replace hhx := Lib.hid hhx
      have hmade := OwnB.made wr wr.heap.size (Nat.le_refl _) #[] 0 (by simp only [maxLen]; omega) rfl
      have hbm := (Below.refl wr.heap.size wr).alloc (Nat.le_refl _) (.cells #[] 5)
      have hrm := (hr'.below hb).below hbm
      have hdl : (bs.drop (64 * k)).length = m - 64 * k := by rw [List.length_drop, hm]
      have hle : ([] : List UInt8).length + (m - 64 * k) ≤ 140737488355328 := by simp; omega
      replace hr' := Lib.hid hr'
      have hxl : (stc hx none 0 0 N2).length = 10 := by rw [hhx.out]; simp [stc, shFold_length _ _ _ hvl]
      have hx8 : (stc hx none 0 0 N2)[8]? = some (.slice none 0 0) := by rw [stc, List.getElem?_append_right (by simp [hhx.out, shFold_length _ _ _ hvl])]; simp [hhx.out, shFold_length _ _ _ hvl]
      have hset : ∀ v, (stc hx none 0 0 N2).set 8 v = hx.map wc ++ [v, .int .u64 N2] := fun v => by rw [stc, List.set_append_right _ _ (by simp [hhx.out, shFold_length _ _ _ hvl])]; simp [hhx.out, shFold_length _ _ _ hvl]
      have hl8 : ∀ v : Value, (hx.map wc ++ [v, .int .u64 N2]).length = 10 := fun v => by simp [hhx.out, shFold_length _ _ _ hvl]
      have ho8 : ∀ (a : Option Addr) (n c : Nat), (hx.map wc ++ [Value.slice a n c, Value.int .u64 N2]).all (·.oneCell') = true := fun a n c => by simp [Value.oneCell']
      replace hl8 := Lib.hid hl8
      replace ho8 := Lib.hid ho8
      have n4 : w.heap.size + 1 ≠ w1.heap.size := by have := q4.out; omega
      have hg : w.heap.size ≤ w1.heap.size := by have := q4.out; omega
      replace hxl := Lib.hid hxl
      replace hx8 := Lib.hid hx8
      replace hset := Lib.hid hset
      go_wp2_with (first
        | (at_builtin
           refine wpList_appB hmade hbm hbm.size (m - 64 * k) c' hrm hdl hle rfl (.tmp 67) (.tmp 68) rfl rfl rfl ?_
           intro v5 w5 hown hb5 hz5 hgr
           obtain ⟨A2, c2, rfl, hc2, _⟩ := hown.formN (m - 64 * k) (by simpa using hdl)
           have a6 : Av w5 w1.heap.size 194 (stc hx none 0 0 N2) := (a5.alloc (.cells #[] 5)).same (hgr.block _ (by have := a5.lt; simp; omega) (by have := a5.lt; simp [Value.ownBlock]; omega))
           have a7 : Av w5 (w.heap.size + 1) 194 zs := (a4.alloc (.cells #[] 5)).same (hgr.block _ (by have := a4.lt; simp; omega) (by have := a4.lt; simp [Value.ownBlock]; omega))
           have e8 : w5.cell? ⟨w1.heap.size, 8, none⟩ = some (.slice none 0 0) := a6.cell 8 _ hx8.out
           have hfz : w5.frozen? ⟨w1.heap.size, 8, none⟩ = false := frozen_of_row _ _ _ _ _ a6
           replace hb5 := hb.trans (hb5.mono hb.size)
           have a8 := a6.set 8 (.slice A2 (m - 64 * k) c2)
           rw [hset.out] at a8
           clear hrm hmade hbm)
        | refine wpList_loadAv a8 rfl _ _ rfl rfl _ 10 (hl8.out _) Tryd.underlying194 rfl (by kernel_rfl) ?_
        | (refine wpList_storeAv (hb5.setCell (p := ⟨w1.heap.size, 8, none⟩) hg (.slice A2 (m - 64 * k) c2)) (a7.other ⟨w1.heap.size, 8, none⟩ (.slice A2 (m - 64 * k) c2) n4) (by omega) rfl _ _ _ rfl rfl _ rfl 10 (hl8.out _) (by kernel_rfl) (by rw [List.size_toArray, hzl.out]) (ho8.out _ _ _) ?_
           intro w6 a9 b6 k6 z6))
      have hlt := a5.lt
      have hlt4 := a4.lt
      have hr5 : Rd w6 A2 ((bs.drop (64 * k)).map bv) := by
        have h5 : Rd w5 A2 _ := hown.rd
        rw [List.nil_append] at h5
        rcases h5 with h5 | ⟨b, off, rfl, h5⟩
        · exact .inl h5
        · have hbk := (hown.lt b rfl).1
          refine .inr ⟨b, off, rfl, fun j u hu => ?_⟩
          rw [World.cell?_of_block (w := w5) (by rw [k6 _ (by simp only; omega), heap_setCell_other _ _ _ _ (by simp only; omega)])]
          exact h5 j u hu
      have hk1 : k = m / 64 := by omega
      have hk2 : m - 64 * k = m % 64 := by omega
      refine bodyPost_ret (results_cell_row rfl _ _ (w.heap.size + 1) _ _ (0, 0) _ rfl a9 Tryd.underlying194 rfl (by rw [List.size_toArray, hl8.out]; kernel_rfl)) rfl ⟨A2, c2, ?_, by omega, by rw [← hk1]; exact hr5, b6⟩
      rw [stc, ← hk1, ← hk2, hhx.out, hN2.out, hhv.out]
end Go.Proofs.YtobjgebojhjhnaaDoor
namespace Go.Proofs.YtobjgebojhjhnaaDoor
theorem made_ex (N : Nat) (k : Int) (hk : k = N) (hN : N ≤ 140737488355328) : ∃ cs : Array Value, cs.size = N ∧ ∀ u : World,
  (Instr.makeSlice 33 (.int .i64 0) (.int .i64 k)).run Tryd.prog u = .ok (.slice (some ⟨u.heap.size, 0, none⟩) 0 N) (u.alloc (.cells cs 5)) := by
 subst hk
 obtain ⟨i0, hi, hz0, hz1, hz2⟩ := info_parts info_u8
 refine ⟨madeCells #[.int .u8 0] N, by simp [size_madeCells], fun u => ?_⟩
 have h := run_make (P := Tryd.prog) u 33 5 i0 (.int .u8 0) Tryd.underlying33 hi hz0 .i64 .i64 (0 : Int) (N : Int) (by omega) (by omega) (by rw [hz2]; omega) (by omega)
 rw [Int.toNat_natCast] at h
 simpa [hz1, Value.cells] using h
open Go.RowKit
attribute [local go_sem high] slB_lh slB_l slB_h nilB_eq
set_option maxRecDepth 10000 in
set_option maxHeartbeats 4000000 in
theorem Write1 (h : List W32) (hh : h.length = 8) (rs : List UInt8) (A : Option Addr) (n c : Nat) (hn : rs.length = n) (hn0 : 0 < n) (hn6 : n < 64) (_ : n ≤ c) (N : Int) (h0 : 0 ≤ N) (h1 : N < 18446744073709551616) (h64 : N % 64 = n)
    (bs : List UInt8) (B : Option Addr) (m cb : Nat) (hm : bs.length = m) (hc : m ≤ cb) (hnm : 64 ≤ n + m) (w : World) (hq : Rd w A (rs.map bv)) (hr : Rd w B (bs.map bv)) (ht : Tabs w) :
    Calls Tryd.prog 88 #[.agg (stc h A n c N).toArray, .slice B m cb] w fun e w' =>
      ∃ A' c', e = .returned (.agg (stc (shFold ((n + m) / 64) h (rs ++ bs)) A' ((n + m) % 64) c' (IntKind.u64.wrap (N + IntKind.u64.wrap (m : Int)))).toArray) ∧ (n + m) % 64 ≤ c' ∧ Rd w' A' (((rs ++ bs).drop (64 * ((n + m) / 64))).map bv) ∧ Below w.heap.size w w' := by
  have hs := Sane h hh A n c N h0 h1 (by omega) true (by simp [h64])
  obtain ⟨v0, v1, v2, v3, v4, v5, v6, v7, rfl⟩ := len8 hh
  clear hh
  obtain ⟨zs, hzs⟩ : ∃ zs : List Value, zs = stc (List.replicate 8 0) none 0 0 0 := ⟨_, rfl⟩
  have hz : #[Value.int IntKind.u32 0, Value.int IntKind.u32 0, Value.int IntKind.u32 0, Value.int IntKind.u32 0, Value.int IntKind.u32 0, Value.int IntKind.u32 0, Value.int IntKind.u32 0, Value.int IntKind.u32 0, Value.slice none 0 0, Value.int IntKind.u64 0] = zs.toArray := by
    rw [hzs, stc, List.map_replicate, wc, wn_zero]; rfl
  have hzl : zs.length = 10 := by rw [hzs]; rfl
  clear hzs
  obtain ⟨ss, hss⟩ : ∃ ss : List Value, ss = stc [v0, v1, v2, v3, v4, v5, v6, v7] A n c N := ⟨_, rfl⟩
  rw [← hss] at hs ⊢
  have hsl : ss.length = 10 := by rw [hss]; rfl
  replace hss := Lib.hid hss
  replace hzl := Lib.hid hzl
  replace hsl := Lib.hid hsl
  obtain ⟨mk, hmks, hmk⟩ := made_ex 64 64 rfl (by omega)
  replace hmks := Lib.hid hmks
  go_enter Tryd.func88, Tryd.ntmps88
  have hb0 : Below w.heap.size w ((w.alloc (.cells ss.toArray 194)).alloc (.cells zs.toArray 194)) := ((Below.refl _ _).alloc (Nat.le_refl _) _).alloc (by simp) _
  have ha2 : Av ((w.alloc (.cells ss.toArray 194)).alloc (.cells zs.toArray 194)) w.heap.size 194 ss := heap_alloc2_old _ _ _
  have ha4 : Av ((w.alloc (.cells ss.toArray 194)).alloc (.cells zs.toArray 194)) (w.heap.size + 1) 194 zs := heap_alloc2_new _ _ _
  go_wp2_with (refine wpList_loadAv ha2 rfl _ _ rfl rfl _ 10 hsl.out Tryd.underlying194 rfl (by kernel_rfl) ?_)
  generalize (w.alloc (.cells ss.toArray 194)).alloc (.cells zs.toArray 194) = w0 at *
  refine (hs w0).mono ?_
  rintro e w1 ⟨rfl, b1⟩
  replace ha2 := ha2.below b1
  replace ha4 := ha4.below b1
  replace b1 := hb0.trans (b1.mono hb0.size)
  clear hb0 hs hz
  have ht1 := ht.below b1
  have q4 := Lib.hid ha4.lt
  obtain ⟨d, hd⟩ : ∃ d : Nat, d + n = 64 := ⟨64 - n, by omega⟩
  have t0 : decide ((0 : Int) < (n : Int)) = true := by simp; omega
  have t2 : IntKind.i64.wrap (64 - (n : Int)) = (d : Int) := by rw [show (64 : Int) - n = (d : Int) by omega]; rw [IntKind.wrap_i64]; omega
  have t3 : min (d : Int) (m : Int) = (d : Int) := by omega
  have t4 : (0 : Int) ≤ (d : Int) := by omega
  have t5 : (d : Int) ≤ (cb : Int) := by omega
  have t6 : (d : Int) ≤ (m : Int) := by omega
  obtain ⟨N2, hN2⟩ : ∃ n : Int, IntKind.u64.wrap (N + IntKind.u64.wrap (m : Int)) = n := ⟨_, rfl⟩
  have hn' := Lib.hid hn
  have hm' := Lib.hid hm
  have hdt : (bs.take d).length = d := by rw [List.length_take, hm]; omega
  have hdt' := Lib.hid hdt
  clear hn hm hdt
  have hle : ([] : List UInt8).length + n ≤ 140737488355328 := by simp; omega
  have hle2 : rs.length + d ≤ 140737488355328 := by rw [hn'.out]; omega
  have c8 : w1.cell? ⟨w.heap.size, 8, none⟩ = some (.slice A n c) := ha2.cell 8 _ (by rw [hss.out]; rfl)
  have c9 : w1.cell? ⟨w.heap.size, 9, none⟩ = some (.int .u64 N) := ha2.cell 9 _ (by rw [hss.out]; rfl)
  have r2 : w1.rangeAt w.heap.size 0 [wc v0, wc v1, wc v2, wc v3, wc v4, wc v5, wc v6, wc v7] := Av.rangeAt (pre := []) (rest := [.slice A n c, .int .u64 N]) (by rw [hss.out] at ha2; exact ha2) 0 rfl
  go_wp2_with (first
    | refine wpList_load_mid rfl _ _ rfl _ _ rfl _ _ r2 Tryd.underlying192 rfl (by kernel_rfl) ?_
    | (refine wpList_storeAv (b1.alloc b1.size _) (heap_alloc_new _ _) b1.size rfl _ _ _ rfl rfl (stc [v0, v1, v2, v3, v4, v5, v6, v7] none 0 0 N2) rfl 10 rfl (by kernel_rfl) rfl rfl ?_
       intro w2 a5 b2 k2 z2
       replace ha2 := (ha2.alloc _).same (k2 _ (Nat.ne_of_lt ha2.lt))
       have d8 : w2.cell? ⟨w.heap.size, 8, none⟩ = some (.slice A n c) := ha2.cell 8 _ (by rw [hss.out]; rfl)
       replace ha4 := (ha4.alloc _).same (k2 _ (Nat.ne_of_lt ha4.lt))
       clear k2 z2 c8 c9 r2
       have hmade := OwnB.made w2 w2.heap.size (Nat.le_refl _) mk 64 (by simp only [maxLen]; omega) hmks.out
       have hbm := (Below.refl w2.heap.size w2).alloc (Nat.le_refl _) (.cells mk 5)
       have e8 := (ha2.alloc (.cells mk 5)).cell 8 (.slice A n c) (by rw [hss.out]; rfl)
       have hrm := (hq.below b2).below hbm)
    | (at_builtin
       refine wpList_appB hmade hbm hbm.size n c hrm hn'.out hle rfl (.tmp 33) (.tmp 35) rfl rfl rfl ?_
       intro y3 w3 hown hb3 hz3 hg3
       rw [List.nil_append] at hown
       clear hmade hbm hrm
       have hsm := (hr.below b2).below hb3)
    | (at_builtin
       refine wpList_appB hown hb3 hb3.size d cb (by rw [List.map_take]; exact hsm.take d) hdt'.out hle2 rfl (.tmp 37) (.tmp 40) rfl rfl rfl ?_
       intro v4 w4 hown4 hb4 hz4 hg4
       obtain ⟨A4, c4, rfl, hc4, _⟩ := hown4.formN 64 (by rw [List.length_append, hn'.out, hdt'.out]; omega)
       have hb4' := hb4
       clear hown hb3 hsm hg3
       replace hb4 := b2.trans (hb4.mono b2.size)
       replace a5 := a5.same (hb4'.block _ a5.lt)
       replace ha4 := ha4.same (hb4'.block _ ha4.lt)
       have r5 : w4.rangeAt w1.heap.size 0 [wc v0, wc v1, wc v2, wc v3, wc v4, wc v5, wc v6, wc v7] := Av.rangeAt (pre := []) (rest := [.slice none 0 0, .int .u64 N2]) a5 0 rfl)
    | refine wpList_load_mid rfl _ _ rfl _ _ rfl _ _ r5 Tryd.underlying192 rfl (by kernel_rfl) ?_)
  clear r5 e8 d8 ha2
  have HB := Block [v0, v1, v2, v3, v4, v5, v6, v7] rfl (rs ++ bs.take d) A4 c4 (by rw [List.length_append, hn'.out, hdt'.out]; omega) w4 hown4.rd (ht.below hb4)
  obtain ⟨hv, hhv⟩ : ∃ l, l = shBlock [v0, v1, v2, v3, v4, v5, v6, v7] (rs ++ bs.take d) := ⟨_, rfl⟩
  have hvl : hv.length = 8 := by rw [hhv]; exact shBlock_length _ _ rfl
  rw [← hhv] at HB
  replace hhv := Lib.hid hhv
  replace HB := Lib.hid HB
  go_wp2_with fail
  refine HB.out.mono ?_
  rintro e w5 ⟨rfl, b5⟩
  replace a5 := a5.below b5
  replace ha4 := ha4.below b5
  replace hb4 := hb4.trans (b5.mono hb4.size)
  clear HB hown4
  have hth := a5.there 0 8 (by simp)
  have n4 : w.heap.size + 1 ≠ w1.heap.size := by have := q4.out; omega
  have hg : w.heap.size ≤ w1.heap.size := by have := q4.out; omega
  have a5' : Av (w5.setCells w1.heap.size 0 (wcs hv).toList) w1.heap.size 194 (stc hv none 0 0 N2) :=
    Av.setCells (wcs hv).toList [] ([v0, v1, v2, v3, v4, v5, v6, v7].map wc) [.slice none 0 0, .int .u64 N2] 0 _ a5 rfl (by simp [wcs, hvl])
  have b6 := below_setCells (wcs hv).toList w5 w1.heap.size 0 hb4 hg
  have a4' := ha4.same (heap_setCells (wcs hv).toList _ _ 0 _ n4)
  replace n4 := Lib.hid n4
  replace hvl := Lib.hid hvl
  obtain ⟨m2, hm2⟩ : ∃ m2, m - d = m2 := ⟨_, rfl⟩
  obtain ⟨bs2, hbs2⟩ : ∃ b, b = bs.drop d := ⟨_, rfl⟩
  have hml : bs2.length = m2 := by rw [hbs2, List.length_drop, hm'.out, hm2]
  have hr2 : Rd w (subA B cb d 1) (bs2.map bv) := by
    have := hr.sub cb d 1 (by simp [hm'.out]; omega)
    rw [Nat.mul_one, ← List.map_drop, ← hbs2] at this
    exact this
  replace hml := Lib.hid hml
  replace hbs2 := Lib.hid hbs2
  obtain ⟨cb2, hcb2⟩ : ∃ m2, cb - d = m2 := ⟨_, rfl⟩
  obtain ⟨B2, hB2⟩ : ∃ B2, subA B cb d 1 = B2 := ⟨_, rfl⟩
  rw [hB2] at hr2
  have hc2 : m2 ≤ cb2 := by omega
  go_wp2_with (refine wpList_store_mid rfl _ _ _ rfl _ _ _ rfl rfl (by rw [wcs_size, hvl.out]; exact hth) (by rw [wcs_size, hvl.out]; kernel_rfl) (by simp [wcs, Value.oneCell']) ?_)
  generalize w5.setCells w1.heap.size 0 (wcs hv).toList = w6 at *
  go_loopw [1] (fun b wr => ∃ (k : Nat) (A' : Option Addr) (c' : Nat), 64 * k ≤ m2 ∧ b = .slice A' (m2 - 64 * k) c' ∧ m2 - 64 * k ≤ c' ∧ Rd w A' ((bs2.drop (64 * k)).map bv) ∧ Below w.heap.size w wr ∧ Av wr w1.heap.size 194 (stc (shFold k hv bs2) none 0 0 N2) ∧ Av wr (w.heap.size + 1) 194 zs) (fun b _ => sliceLen b)
  case atStart => exact ⟨0, B2, cb2, by omega, rfl, hc2, by simpa using hr2, b6, a5', a4'⟩
  case round =>
    clear a5 ha4 a5' a4' b6 hr2 hb4 b5 hth hb4' hg4 hz4 hz3 hcb2 hB2 hmk
    have hvl := hvl.out
    obtain ⟨k, A', c', hk, rfl, hc', hr', hb, a5, a4⟩ := hrel
    by_cases hk64 : 64 ≤ m2 - 64 * k
    · have t1 : decide ((64 : Int) ≤ ((m2 - 64 * k : Nat) : Int)) = true := by simp; omega
      obtain ⟨hk', hhk⟩ : ∃ l, l = shFold k hv bs2 := ⟨_, rfl⟩
      have hkl : hk'.length = 8 := by rw [hhk, shFold_length _ _ _ hvl]
      rw [← hhk] at a5
      replace hhk := Lib.hid hhk
      obtain ⟨u0, u1, u2, u3, u4', u5, u6', u7', rfl⟩ := len8 hkl
      have c0 : wr.cell? ⟨w1.heap.size, 0, none⟩ = some (wc u0) := a5.cell 0 _ rfl
      have c1 : wr.cell? ⟨w1.heap.size, 1, none⟩ = some (wc u1) := a5.cell 1 _ rfl
      have c2 : wr.cell? ⟨w1.heap.size, 2, none⟩ = some (wc u2) := a5.cell 2 _ rfl
      have c3 : wr.cell? ⟨w1.heap.size, 3, none⟩ = some (wc u3) := a5.cell 3 _ rfl
      have c4 : wr.cell? ⟨w1.heap.size, 4, none⟩ = some (wc u4') := a5.cell 4 _ rfl
      have c5 : wr.cell? ⟨w1.heap.size, 5, none⟩ = some (wc u5) := a5.cell 5 _ rfl
      have c6 : wr.cell? ⟨w1.heap.size, 6, none⟩ = some (wc u6') := a5.cell 6 _ rfl
      have c7 : wr.cell? ⟨w1.heap.size, 7, none⟩ = some (wc u7') := a5.cell 7 _ rfl
      have s1 : (0 : Int) ≤ 64 := by decide
      have s2 : (64 : Int) ≤ (c' : Int) := by omega
      go_wp2
      go_still_tail 4, (by kernel_rfl)
      change wpList _ _ _ _ _ (World.drew _)
      clear c0 c1 c2 c3 c4 c5 c6 c7
      have hr64 : Rd wr.drew A' ((((bs2.drop (64 * k)).take 64)).map bv) := by rw [List.map_take]; exact (Rd.take hr' 64).below hb.drew
      replace hb := hb.drew
      replace a5 := a5.drew
      replace a4 := a4.drew
      generalize World.drew wr = wd at *
      have HB := Block [u0, u1, u2, u3, u4', u5, u6', u7'] rfl ((bs2.drop (64 * k)).take 64) A' c' (by have := hml.out; simp; omega) wd hr64 (ht.below hb)
      obtain ⟨hx, hhx⟩ : ∃ l, l = shBlock [u0, u1, u2, u3, u4', u5, u6', u7'] ((bs2.drop (64 * k)).take 64) := ⟨_, rfl⟩
      have hxl : hx.length = 8 := by rw [hhx]; exact shBlock_length _ _ rfl
      rw [← hhx] at HB
      replace hhx := Lib.hid hhx
      replace hxl := Lib.hid hxl
      replace HB := Lib.hid HB
      go_wp2_with fail
      refine HB.out.mono ?_
      rintro e w4 ⟨rfl, b4⟩
      replace a5 := a5.below b4
      replace a4 := a4.below b4
      replace hb := hb.trans (b4.mono hb.size)
      clear HB hr64
      have hth := a5.there 0 8 (by simp)
      go_wp2_with (refine wpList_store_mid rfl _ _ _ rfl _ _ _ rfl rfl (by rw [wcs_size, hxl.out]; exact hth) (by rw [wcs_size, hxl.out]; kernel_rfl) (by simp [wcs, Value.oneCell']) ?_)
      have n4 := n4.out
      have a5' : Av (w4.setCells w1.heap.size 0 (wcs hx).toList) w1.heap.size 194 (stc hx none 0 0 N2) :=
        Av.setCells (wcs hx).toList [] ([u0, u1, u2, u3, u4', u5, u6', u7'].map wc) [.slice none 0 0, .int .u64 N2] 0 _ a5 rfl (by simp [wcs, hxl.out])
      have hb' := below_setCells (wcs hx).toList w4 w1.heap.size 0 hb hg
      refine ⟨⟨k + 1, _, _, by omega, by rw [show m2 - 64 * (k + 1) = m2 - 64 * k - 64 by omega], by omega, ?_, hb', ?_, a4.same (heap_setCells _ _ _ _ _ n4)⟩, ?_⟩
      · have := Rd.sub64 hr' c' (by have := hml.out; simp; omega)
        rw [← List.map_drop, List.drop_drop] at this
        rw [show 64 * (k + 1) = 64 * k + 64 by omega]
        exact this
      · rw [shFold_snoc, ← hhk.out, ← hhx.out]; exact a5'
      · simp only [sliceLen]; omega
    · have t1 : decide ((64 : Int) ≤ ((m2 - 64 * k : Nat) : Int)) = false := by simp; omega
      obtain ⟨hx, hhx⟩ : ∃ l, l = shFold k hv bs2 := ⟨_, rfl⟩
      rw [← hhx] at a5
      replace hhx := Lib.hid hhx
      have hmade := OwnB.made wr wr.heap.size (Nat.le_refl _) #[] 0 (by simp only [maxLen]; omega) rfl
      have hbm := (Below.refl wr.heap.size wr).alloc (Nat.le_refl _) (.cells #[] 5)
      have hrm := (hr'.below hb).below hbm
      have hdl : (bs2.drop (64 * k)).length = m2 - 64 * k := by rw [List.length_drop, hml.out]
      have hle : ([] : List UInt8).length + (m2 - 64 * k) ≤ 140737488355328 := by simp; omega
      replace hr' := Lib.hid hr'
      have hxl : (stc hx none 0 0 N2).length = 10 := by rw [hhx.out]; simp [stc, shFold_length _ _ _ hvl]
      have hx8 : (stc hx none 0 0 N2)[8]? = some (.slice none 0 0) := by rw [stc, List.getElem?_append_right (by simp [hhx.out, shFold_length _ _ _ hvl])]; simp [hhx.out, shFold_length _ _ _ hvl]
      have hset : ∀ v, (stc hx none 0 0 N2).set 8 v = hx.map wc ++ [v, .int .u64 N2] := fun v => by rw [stc, List.set_append_right _ _ (by simp [hhx.out, shFold_length _ _ _ hvl])]; simp [hhx.out, shFold_length _ _ _ hvl]
      have hl8 : ∀ v : Value, (hx.map wc ++ [v, .int .u64 N2]).length = 10 := fun v => by simp [hhx.out, shFold_length _ _ _ hvl]
      have ho8 : ∀ (a : Option Addr) (n c : Nat), (hx.map wc ++ [Value.slice a n c, Value.int .u64 N2]).all (·.oneCell') = true := fun a n c => by simp [Value.oneCell']
      replace hl8 := Lib.hid hl8
      replace ho8 := Lib.hid ho8
      have n4 := n4.out
      replace hxl := Lib.hid hxl
      replace hx8 := Lib.hid hx8
      replace hset := Lib.hid hset
      go_wp2_with (first
        | (at_builtin
           refine wpList_appB hmade hbm hbm.size (m2 - 64 * k) c' hrm hdl hle rfl (.tmp 67) (.tmp 68) rfl rfl rfl ?_
           intro v5 w5 hown hb5 hz5 hgr
           obtain ⟨A2, c2, rfl, hc2, _⟩ := hown.formN (m2 - 64 * k) (by simpa using hdl)
           have a6 : Av w5 w1.heap.size 194 (stc hx none 0 0 N2) := (a5.alloc (.cells #[] 5)).same (hgr.block _ (by have := a5.lt; simp; omega) (by have := a5.lt; simp [Value.ownBlock]; omega))
           have a7 : Av w5 (w.heap.size + 1) 194 zs := (a4.alloc (.cells #[] 5)).same (hgr.block _ (by have := a4.lt; simp; omega) (by have := a4.lt; simp [Value.ownBlock]; omega))
           have e8 : w5.cell? ⟨w1.heap.size, 8, none⟩ = some (.slice none 0 0) := a6.cell 8 _ hx8.out
           have hfz : w5.frozen? ⟨w1.heap.size, 8, none⟩ = false := frozen_of_row _ _ _ _ _ a6
           replace hb5 := hb.trans (hb5.mono hb.size)
           have a8 := a6.set 8 (.slice A2 (m2 - 64 * k) c2)
           rw [hset.out] at a8
           clear hrm hmade hbm)
        | refine wpList_loadAv a8 rfl _ _ rfl rfl _ 10 (hl8.out _) Tryd.underlying194 rfl (by kernel_rfl) ?_
        | (refine wpList_storeAv (hb5.setCell (p := ⟨w1.heap.size, 8, none⟩) hg (.slice A2 (m2 - 64 * k) c2)) (a7.other ⟨w1.heap.size, 8, none⟩ (.slice A2 (m2 - 64 * k) c2) n4) (by omega) rfl _ _ _ rfl rfl _ rfl 10 (hl8.out _) (by kernel_rfl) (by rw [List.size_toArray, hzl.out]) (ho8.out _ _ _) ?_
           intro w6 a9 b6 k6 z6))
      have hlt := a5.lt
      have hlt4 := a4.lt
      have hr5 : Rd w6 A2 ((bs2.drop (64 * k)).map bv) := by
        have h5 : Rd w5 A2 _ := hown.rd
        rw [List.nil_append] at h5
        rcases h5 with h5 | ⟨b, off, rfl, h5⟩
        · exact .inl h5
        · have hbk := (hown.lt b rfl).1
          refine .inr ⟨b, off, rfl, fun j u hu => ?_⟩
          rw [World.cell?_of_block (w := w5) (by rw [k6 _ (by simp only; omega), heap_setCell_other _ _ _ _ (by simp only; omega)])]
          exact h5 j u hu
      have hk1 : (n + m) / 64 = k + 1 := by omega
      have hk2 : (n + m) % 64 = m2 - 64 * k := by omega
      have hdd : (rs ++ bs).drop (64 * (k + 1)) = bs2.drop (64 * k) := by
        rw [hbs2.out, List.drop_drop, List.drop_append, List.drop_of_length_le (by rw [hn'.out]; omega), List.nil_append, hn'.out]
        congr 1; omega
      have hff : shFold (k + 1) [v0, v1, v2, v3, v4, v5, v6, v7] (rs ++ bs) = hx := by
        rw [hhx.out, shFold, hhv.out, hbs2.out, List.take_append, List.take_of_length_le (by rw [hn'.out]; omega), List.drop_append, List.drop_of_length_le (by rw [hn'.out]; omega), List.nil_append, hn'.out, show 64 - n = d by omega]
      refine bodyPost_ret (results_cell_row rfl _ _ (w.heap.size + 1) _ _ (0, 0) _ rfl a9 Tryd.underlying194 rfl (by rw [List.size_toArray, hl8.out]; kernel_rfl)) rfl ⟨A2, c2, ?_, by omega, by rw [hk1, hdd]; exact hr5, b6⟩
      rw [hk1, hk2, hff, hN2]
end Go.Proofs.YtobjgebojhjhnaaDoor

/- ShP; ShPad; ShM; Sl; Mid: put together for the claim. -/
import Derived.Test.YtjgdmpbaikhflaaDoorShB
import Derived.Test.YtjgdmpbaikhflaaDoorPr1
import Derived.Test.YtjgdmpbaikhflaaDoorPr2
import Derived.Lib.SliceRun
import Derived.Deep.MidRow
/- Start, Sane and Pad of SHA-256. -/
namespace Go.Proofs.YtjgdmpbaikhflaaDoor
open Go.RowKit

/-- the cells of a State -/
abbrev stc (h : List W32) (A : Option Addr) (n c : Nat) (N : Int) : List Value := h.map wc ++ [.slice A n c, .int .u64 N]

set_option maxHeartbeats 1000000 in
theorem Sane (h : List W32) (hh : h.length = 8) (A : Option Addr) (n c : Nat) (N : Int) (h0 : 0 ≤ N) (h1 : N < 18446744073709551616) (hn : (n : Int) < 64) (b : Bool) (hb : b = decide ((n : Int) = N % 64)) (w : World) :
    Calls Tryd.prog 57 #[.agg (stc h A n c N).toArray] w fun e w' => e = .returned (.bool b) ∧ Below w.heap.size w w' := by
  obtain ⟨v0, v1, v2, v3, v4, v5, v6, v7, rfl⟩ := len8 hh
  clear hh
  go_enter Tryd.func57, Tryd.ntmps57
  go_wp2
  go_ret
  exact ⟨by rw [hb]; rfl, (Below.refl _ _).alloc (Nat.le_refl _) _⟩

def ifill : Nat → List W32
  | 0 => List.replicate 8 0
  | k + 1 => (ifill k).set k (iAt k)
theorem ifill_length (k : Nat) : (ifill k).length = 8 := by
  induction k with
  | zero => rfl
  | succ k ih => rw [ifill, List.length_set, ih]
/-- the initial words -/
def shInit : List W32 := ifill 8
theorem stc_set (h : List W32) (A : Option Addr) (n c : Nat) (N : Int) (k : Nat) (x : W32) (hk : k < h.length) : (stc h A n c N).set k (wc x) = stc (h.set k x) A n c N := by
  simp [stc, hk, List.map_set]
set_option maxHeartbeats 1000000 in
theorem Start (w : World) (ht : Tabs w) :
    Calls Tryd.prog 47 #[] w fun e w' => e = .returned (.agg (stc shInit none 0 0 0).toArray) ∧ Below w.heap.size w w' := by
  go_enter Tryd.func47, Tryd.ntmps47
  go_wp2
  go_loopw [3] (fun i wr => ∃ k : Nat, k ≤ 8 ∧ i = .int .i64 k ∧ Below w.heap.size w wr ∧ Av wr (w.heap.size + 1) 75 (stc (ifill k) none 0 0 0) ∧ Av wr w.heap.size 75 (stc (ifill 0) none 0 0 0)) (fun i _ => 8 - (intOf i).toNat)
  case atStart =>
    refine ⟨0, by omega, rfl, ((Below.refl _ _).alloc (Nat.le_refl _) _).alloc (by simp) _, ?_, ?_⟩
    · rw [Av, ifill, stc, List.map_replicate, wc, wn_zero]; exact heap_alloc2_new _ _ _
    · rw [Av, ifill, stc, List.map_replicate, wc, wn_zero]; exact heap_alloc2_old _ _ _
  case round =>
    obtain ⟨k, hk, rfl, hb, ha, hr0⟩ := hrel
    by_cases hk8 : k < 8
    · have T := Initial k (by omega) (by omega) wr (ht.below hb)
      rw [show ((k : Int)).toNat = k by omega] at T
      have hk0 : 0 ≤ (k : Int) := by omega
      have hk1 : (k : Int) < 8 := by omega
      have hfz : wr.frozen? ⟨w.heap.size + 1, k, none⟩ = false := frozen_of_row _ _ _ _ _ ha
      have hc := ha.cell k (wc ((ifill k).getD k 0)) (by rw [stc, List.getElem?_append_left (by simp [ifill_length, hk8])]; simp [List.getElem?_eq_getElem (show k < (ifill k).length by rw [ifill_length]; exact hk8)])
      go_wp2_with fail
      refine T.mono ?_
      rintro e w' ⟨rfl, rfl⟩
      go_wp2
      refine ⟨⟨k + 1, by omega, by go_num, hb.setCell (by simp) _, ?_, hr0.other _ _ (by simp)⟩, ?_⟩
      · rw [ifill, ← stc_set _ _ _ _ _ _ _ (by rw [ifill_length]; exact hk8)]
        exact ha.set k _
      · simp [intOf]; omega
    · obtain rfl : k = 8 := by omega
      clear hk8 hk
      have hsl : (stc (ifill 8) none 0 0 0).length = 10 := by simp [stc, ifill_length]
      have hl0 : (stc (ifill 0) none 0 0 0).toArray.size = 10 := by simp [stc, ifill_length]
      obtain ⟨l, hl⟩ : ∃ l, l = stc (ifill 8) none 0 0 0 := ⟨_, rfl⟩
      have hall : l.all (·.oneCell') = true := by rw [hl]; simp [stc, Value.oneCell']
      rw [← hl] at ha hsl
      replace hl : Hid (l = stc shInit none 0 0 0) := Lib.hid hl
      replace hl0 := Lib.hid hl0
      go_wp2_with (first
        | refine wpList_loadAv ha rfl _ _ rfl rfl _ 10 hsl Tryd.underlying75 rfl (by kernel_rfl) ?_
        | (refine wpList_storeAv hb hr0 (Nat.le_refl _) rfl _ _ _ rfl rfl l rfl 10 hsl (by kernel_rfl) hl0.out hall ?_
           intro w4 a2 b4 k4 z4))
      exact bodyPost_ret (v := .agg l.toArray) (results_cell_row rfl _ _ w.heap.size _ _ (0, 0) _ rfl a2 Tryd.underlying75 rfl (by rw [List.size_toArray, hsl]; kernel_rfl)) rfl ⟨by rw [← hl.out], b4⟩
end Go.Proofs.YtjgdmpbaikhflaaDoor
/- Pad of SHA-256. -/
namespace Go.Proofs.YtjgdmpbaikhflaaDoor
open Go.RowKit
def padZ (N : Nat) : Nat := if 55 < N % 64 then 119 - N % 64 else 55 - N % 64
def padByte (N k : Nat) : UInt8 := UInt8.ofNat (8 * N % 18446744073709551616 / 2 ^ (56 - 8 * k))
def pfill (N : Nat) : Nat → List UInt8
  | 0 => 128 :: List.replicate (padZ N + 8) 0
  | k + 1 => (pfill N k).set (1 + padZ N + k) (padByte N k)
theorem pfill_length (N k : Nat) : (pfill N k).length = padZ N + 9 := by
  induction k with
  | zero => simp [pfill]
  | succ k ih => rw [pfill, List.length_set, ih]
/-- what is put behind N bytes -/
def padOf (N : Nat) : List UInt8 := pfill N 8
theorem madeCells_bytes (M : Nat) : madeCells #[.int .u8 0] M = ((List.replicate M (0 : UInt8)).map bv).toArray := by
  apply Array.ext
  · simp [size_madeCells]
  · intro i h1 h2
    have e : i % 1 = 0 := Nat.mod_one i
    simp [madeCells, bv, e]
theorem pad_start (N z : Nat) (hz : z = padZ N) (w : World) : Av (w.alloc (.cells ((Array.replicate (z + 9) (bv 0)).setIfInBounds 0 (.int .u8 128)) 5)) w.heap.size 5 ((pfill N 0).map bv) := by
  unfold Av
  rw [heap_alloc_new]
  have e : (Array.replicate (z + 9) (bv 0)).setIfInBounds 0 (.int .u8 128) = ((pfill N 0).map bv).toArray := by
    apply Array.ext'
    simp [pfill, ← hz, List.replicate_succ]
  rw [e]
theorem pad_byte (N k : Nat) : IntKind.u64.wrap ((N : Int) * 8) / 2 ^ (56 - 8 * k) % 256 = ((padByte N k).toNat : Int) := by
  have e : (padByte N k).toNat = 8 * N % 18446744073709551616 / 2 ^ (56 - 8 * k) % 256 := UInt8.toNat_ofNat'
  rw [e, IntKind.wrap_u64, Int.mul_comm]
  simp
set_option maxHeartbeats 1000000 in
theorem Pad (N : Nat) (hN : N < 18446744073709551616) (w : World) :
    Calls Tryd.prog 58 #[.int .u64 N] w fun e w' =>
      e = .returned (.slice (some ⟨w.heap.size, 0, none⟩) (padZ N + 9) (padZ N + 9)) ∧ Rd w' (some ⟨w.heap.size, 0, none⟩) ((padOf N).map bv) ∧ Below w.heap.size w w' := by
  have hr0 : 0 ≤ (N : Int) % 64 := by omega
  have hr1 : (N : Int) % 64 < 64 := by omega
  obtain ⟨z, hz⟩ : ∃ z, z = padZ N := ⟨_, rfl⟩
  have hz64 : z < 64 := by rw [hz, padZ]; split <;> omega
  have hcase : (decide (55 - (N : Int) % 64 < 0) = true ∧ 55 - (N : Int) % 64 + 64 = (z : Int)) ∨ (decide (55 - (N : Int) % 64 < 0) = false ∧ 55 - (N : Int) % 64 = (z : Int)) := by
    rw [hz, padZ]
    by_cases h : 55 < N % 64
    · rw [if_pos h]; exact .inl ⟨by simp; omega, by omega⟩
    · rw [if_neg h]; exact .inr ⟨by simp; omega, by omega⟩
  have hmk : ∀ u : World, (Instr.makeSlice 37 (.int .i64 (1 + (z : Int) + 8)) (.int .i64 (1 + (z : Int) + 8))).run Tryd.prog u = .ok (.slice (some ⟨u.heap.size, 0, none⟩) (z + 9) (z + 9)) (u.alloc (.cells ((List.replicate (z + 9) (0 : UInt8)).map bv).toArray 5)) := fun u => by
    obtain ⟨i0, hi, hz0, hz1, hz2⟩ := info_parts info_u8
    have h := run_make (P := Tryd.prog) u 37 5 i0 (.int .u8 0) Tryd.underlying37 hi hz0 .i64 .i64 (1 + (z : Int) + 8) (1 + (z : Int) + 8) (by omega) (by omega) (by rw [hz2]; omega) (by omega)
    have e : (1 + (z : Int) + 8).toNat = z + 9 := by omega
    rw [e] at h
    simpa [hz1, Value.cells, madeCells_bytes] using h
  replace hz := Lib.hid hz
  rcases hcase with ⟨e1, e2⟩ | ⟨e1, e2⟩
  · go_enter Tryd.func58, Tryd.ntmps58
    go_wp2
    go_loopw [22] (fun i wr => ∃ k : Nat, k ≤ 8 ∧ i = .int .i64 k ∧ Below w.heap.size w wr ∧ Av wr w.heap.size 5 ((pfill N k).map bv)) (fun i _ => 8 - (intOf i).toNat)
    case atStart => exact ⟨0, by omega, rfl, (Below.refl _ _).alloc (Nat.le_refl _) _, pad_start N z hz.out w⟩
    case round =>
      obtain ⟨k, hk, rfl, hb, ha⟩ := hrel
      by_cases hk8 : k < 8
      · have hk0 : 0 ≤ (k : Int) := by omega
        have hk1 : (k : Int) < 8 := by omega
        have hfz : wr.frozen? ⟨w.heap.size, 1 + z + k, none⟩ = false := frozen_of_row _ _ _ _ _ ha
        have hc := ha.cell (1 + z + k) (bv ((pfill N k).getD (1 + z + k) 0)) (by simp [List.getElem?_eq_getElem (show 1 + z + k < (pfill N k).length by rw [pfill_length, ← hz.out]; omega)])
        go_wp2
        rw [pad_byte]
        refine ⟨⟨k + 1, by omega, by go_num, hb.setCell (Nat.le_refl _) _, ?_⟩, ?_⟩
        · rw [pfill, ← hz.out, List.map_set]; exact ha.set _ _
        · simp [intOf]; omega
      · obtain rfl : k = 8 := by omega
        go_wp2
        go_ret
        exact ⟨by rw [← hz.out]; rfl, .inr ⟨_, _, rfl, fun j u hu => by simpa using ha.cell j u hu⟩, hb⟩
  · go_enter Tryd.func58, Tryd.ntmps58
    go_wp2
    go_loopw [22] (fun i wr => ∃ k : Nat, k ≤ 8 ∧ i = .int .i64 k ∧ Below w.heap.size w wr ∧ Av wr w.heap.size 5 ((pfill N k).map bv)) (fun i _ => 8 - (intOf i).toNat)
    case atStart => exact ⟨0, by omega, rfl, (Below.refl _ _).alloc (Nat.le_refl _) _, pad_start N z hz.out w⟩
    case round =>
      obtain ⟨k, hk, rfl, hb, ha⟩ := hrel
      by_cases hk8 : k < 8
      · have hk0 : 0 ≤ (k : Int) := by omega
        have hk1 : (k : Int) < 8 := by omega
        have hfz : wr.frozen? ⟨w.heap.size, 1 + z + k, none⟩ = false := frozen_of_row _ _ _ _ _ ha
        have hc := ha.cell (1 + z + k) (bv ((pfill N k).getD (1 + z + k) 0)) (by simp [List.getElem?_eq_getElem (show 1 + z + k < (pfill N k).length by rw [pfill_length, ← hz.out]; omega)])
        go_wp2
        rw [pad_byte]
        refine ⟨⟨k + 1, by omega, by go_num, hb.setCell (Nat.le_refl _) _, ?_⟩, ?_⟩
        · rw [pfill, ← hz.out, List.map_set]; exact ha.set _ _
        · simp [intOf]; omega
      · obtain rfl : k = 8 := by omega
        go_wp2
        go_ret
        exact ⟨by rw [← hz.out]; rfl, .inr ⟨_, _, rfl, fun j u hu => by simpa using ha.cell j u hu⟩, hb⟩
end Go.Proofs.YtjgdmpbaikhflaaDoor
/- Plain law: the blocks of a text, one behind the other. -/
namespace Go.Proofs.YtjgdmpbaikhflaaDoor
/-- k blocks of 64 bytes, one behind the other -/
def shFold : Nat → List W32 → List UInt8 → List W32
  | 0, h, _ => h
  | k + 1, h, bs => shFold k (shBlock h (bs.take 64)) (bs.drop 64)
theorem shFold_snoc (k : Nat) (h : List W32) (bs : List UInt8) : shFold (k + 1) h bs = shBlock (shFold k h bs) ((bs.drop (64 * k)).take 64) := by
  induction k generalizing h bs with
  | zero => simp [shFold]
  | succ k ih =>
    rw [shFold, ih]
    simp only [shFold, List.drop_drop]
    rw [show 64 + 64 * k = 64 * (k + 1) by omega]
theorem shBlock_length (h : List W32) (bs : List UInt8) (hh : h.length = 8) : (shBlock h bs).length = 8 := by
  rw [shBlock, addv_length, shRounds_length _ _ hh]
theorem shFold_length (k : Nat) (h : List W32) (bs : List UInt8) (hh : h.length = 8) : (shFold k h bs).length = 8 := by
  induction k generalizing h bs with
  | zero => exact hh
  | succ k ih => rw [shFold, ih _ _ (shBlock_length _ _ hh)]
/-- only the first 64 k bytes count -/
theorem shFold_append (k : Nat) (h : List W32) (bs cs : List UInt8) (hb : 64 * k ≤ bs.length) : shFold k h (bs ++ cs) = shFold k h bs := by
  induction k generalizing h bs with
  | zero => rfl
  | succ k ih =>
    rw [shFold, shFold, List.take_append_of_le_length (by omega), List.drop_append_of_le_length (by omega), ih _ _ (by rw [List.length_drop]; omega)]
theorem shFold_add (j k : Nat) (h : List W32) (bs : List UInt8) : shFold (j + k) h bs = shFold k (shFold j h bs) (bs.drop (64 * j)) := by
  induction j generalizing h bs with
  | zero => simp [shFold]
  | succ j ih =>
    rw [show j + 1 + k = (j + k) + 1 by omega, shFold, ih, shFold, List.drop_drop, show 64 + 64 * j = 64 * (j + 1) by omega]
end Go.Proofs.YtjgdmpbaikhflaaDoor
/- Slice expressions: the result under a name that the walk does not open. -/
namespace Go.Proofs.YtjgdmpbaikhflaaDoor
open Go.RowKit

/-- where 'b[lo:..]' begins (s: cells an element; c: the capacity) -/
def subA (A : Option Addr) (c lo s : Nat) : Option Addr := if c = lo then A else A.map (·.add (lo * s))

theorem Rd.sub {w : World} {A : Option Addr} {xs : List Value} (h : Rd w A xs) (c lo s : Nat) (hc : xs.length ≤ c * s) : Rd w (subA A c lo s) (xs.drop (lo * s)) := by
  unfold subA
  split
  · rename_i e
    subst e
    rw [List.drop_of_length_le hc]
    exact Rd.nil w A
  · rcases h with h | ⟨b, off, rfl, hcell⟩
    · subst h
      rw [List.drop_nil]
      exact Rd.nil w _
    · have : (Option.map (fun x : Addr => x.add (lo * s)) (some ⟨b, off, none⟩)) = some ⟨b, off + lo * s, none⟩ := by
        rw [Option.map_some, addr_add]
      rw [this]
      exact Rd.drop (.inr ⟨b, off, rfl, hcell⟩) _

section
variable {P : Program} (w : World) (t e : TypeId) (A : Option Addr) (n c s : Nat)
theorem run_slice_lh_sub (ht : P.underlying t = some (.slice e)) (hs : (P.info? e).map (·.size) = some s) (kl kh : IntKind) (l h : Int) (h0 : 0 ≤ l) (h1 : l ≤ h) (h2 : h ≤ c) :
    (Instr.slice t (.slice A n c) (some (.int kl l)) (some (.int kh h)) none).run P w = .ok (.slice (subA A c l.toNat s) (h.toNat - l.toNat) (c - l.toNat)) w := by
  obtain ⟨i, hi, rfl⟩ := Option.map_eq_some_iff.1 hs
  have hel : P.elem t = e := by simp [Program.elem, ht]
  rw [run_slice_lh (P := P) w t A n c (by rw [hel]; exact ht) kl kh l h h0 h1 h2, hel]
  simp [sizeOf, typeInfo, hi, sliced, subA]
theorem run_slice_l_sub (ht : P.underlying t = some (.slice e)) (hs : (P.info? e).map (·.size) = some s) (kl : IntKind) (l : Int) (h0 : 0 ≤ l) (h1 : l ≤ n) :
    (Instr.slice t (.slice A n c) (some (.int kl l)) none none).run P w = .ok (.slice (subA A c l.toNat s) (n - l.toNat) (c - l.toNat)) w := by
  obtain ⟨i, hi, rfl⟩ := Option.map_eq_some_iff.1 hs
  have hel : P.elem t = e := by simp [Program.elem, ht]
  rw [run_slice_l (P := P) w t A n c (by rw [hel]; exact ht) kl l h0 h1, hel]
  simp [sizeOf, typeInfo, hi, sliced, subA]
theorem run_slice_h_sub (ht : P.underlying t = some (.slice e)) (hs : (P.info? e).map (·.size) = some s) (kh : IntKind) (h : Int) (h0 : 0 ≤ h) (h2 : h ≤ c) :
    (Instr.slice t (.slice A n c) none (some (.int kh h)) none).run P w = .ok (.slice A h.toNat c) w := by
  obtain ⟨i, hi, rfl⟩ := Option.map_eq_some_iff.1 hs
  have hel : P.elem t = e := by simp [Program.elem, ht]
  rw [run_slice_h (P := P) w t A n c (by rw [hel]; exact ht) kh h h0 h2, hel]
  have hA : Option.map (fun x : Addr => x.add 0) A = A := by cases A <;> simp [Addr.add]
  simp [sizeOf, typeInfo, hi, sliced, hA]
end

theorem size_u8 : (Tryd.prog.info? 5).map (·.size) = some 1 := by kernel_rfl
section
variable (w : World) (A : Option Addr) (n c : Nat)
theorem slB_lh (kl kh : IntKind) (l h : Int) (h0 : 0 ≤ l) (h1 : l ≤ h) (h2 : h ≤ c) :
    (Instr.slice 37 (.slice A n c) (some (.int kl l)) (some (.int kh h)) none).run Tryd.prog w = .ok (.slice (subA A c l.toNat 1) (h.toNat - l.toNat) (c - l.toNat)) w :=
  run_slice_lh_sub w _ _ A n c 1 Tryd.underlying37 size_u8 kl kh l h h0 h1 h2
theorem slB_l (kl : IntKind) (l : Int) (h0 : 0 ≤ l) (h1 : l ≤ n) :
    (Instr.slice 37 (.slice A n c) (some (.int kl l)) none none).run Tryd.prog w = .ok (.slice (subA A c l.toNat 1) (n - l.toNat) (c - l.toNat)) w :=
  run_slice_l_sub w _ _ A n c 1 Tryd.underlying37 size_u8 kl l h0 h1
theorem slB_h (kh : IntKind) (h : Int) (h0 : 0 ≤ h) (h2 : h ≤ c) :
    (Instr.slice 37 (.slice A n c) none (some (.int kh h)) none).run Tryd.prog w = .ok (.slice A h.toNat c) w :=
  run_slice_h_sub w _ _ A n c 1 Tryd.underlying37 size_u8 kh h h0 h2
/-- a slice of bytes against nil -/
theorem nilB_eq (n' c' : Nat) : (binOp .eql 37 (.slice A n c) (.slice none n' c')).run Tryd.prog w = .ok (.bool A.isNone) w :=
  Lib.run_eql_slice_nil w _ _ A n c n' c' Tryd.underlying37
end

theorem strOf_bytes (bs : List UInt8) : strOfNums (bs.map fun b => (b.toNat : Int)) = ⟨bs.toArray⟩ := by
  unfold strOfNums
  congr 1
  simp only [List.map_map]
  congr 1
  conv => rhs; rw [← List.map_id bs]
  refine List.map_congr_left fun b _ => ?_
  simp
/-- 'string(b)' -/
theorem conv_str {w : World} {A : Option Addr} {bs : List UInt8} {n : Nat} (hr : Rd w A (bs.map bv)) (hn : bs.length = n) (c : Nat) :
    (convert 37 9 (.slice A n c)).run Tryd.prog w = .ok (.string ⟨bs.toArray⟩) w := by
  rw [run_convert_bytes_string w _ _ _ A n c Tryd.underlying37 Tryd.underlying5 Tryd.underlying9]
  cases A with
  | none =>
    have hb : bs = [] := by
      rcases hr with h | ⟨_, _, h, _⟩
      · simpa using h
      · cases h
    subst hb
    simp [Conv.bytesToString]
    rfl
  | some a =>
    have hl : (loadCells a n).run Tryd.prog w = .ok ((bs.map fun b => (b.toNat : Int)).map (Value.int .u8)).toArray w := by
      have h := run_loadCells_list (P := Tryd.prog) w a (bs.map bv) (fun j u hu => by
        rcases hr with h | ⟨b, off, hA, hc⟩
        · rw [h] at hu; simp at hu
        · cases hA
          rw [addr_add]
          exact hc j u hu)
      rw [List.length_map, hn] at h
      rw [h, List.map_map]
      rfl
    rw [run_bytesToString w a n c _ hl, foldl_push_bytes]
    have e := strOf_bytes bs
    unfold strOfNums at e
    rw [ByteArray.mk.injEq] at e
    rw [e]
    simp [ByteArray.empty, ByteArray.emptyWithCapacity]
    rfl
end Go.Proofs.YtjgdmpbaikhflaaDoor
/- Parts of a struct in memory: a load and a store of some of its cells. -/
namespace Go.Proofs.YtjgdmpbaikhflaaDoor
open Go.RowKit

end Go.Proofs.YtjgdmpbaikhflaaDoor

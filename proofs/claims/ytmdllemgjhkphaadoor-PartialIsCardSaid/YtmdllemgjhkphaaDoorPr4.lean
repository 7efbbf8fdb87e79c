/- Rd; ShM; Sl; Mid: put together for the claim. -/
import Derived.Test.YtmdllemgjhkphaaDoorPr3
import Derived.Test.YtmdllemgjhkphaaDoorShB
import Derived.Test.YtmdllemgjhkphaaDoorPr2
import Derived.Lib.SliceRun
import Derived.Deep.MidRow
/- florinref02: Initial, Sane, Start. -/
namespace Go.Proofs.YtmdllemgjhkphaaDoor
open Go.RowKit
theorem iTab_lt : ∀ i, i < 8 → iTab.getD i 0 < 4294967296 := by decide +kernel
def iWords : List W32 := (List.range 8).map iAt
theorem iWords_at (k : Nat) (hk : k < 8) : iWords.getD k 0 = iAt k := by
  rw [iWords, List.getD_eq_getElem?_getD, List.getElem?_map, List.getElem?_range hk]; rfl
theorem iWords_lits : #[Value.int .u32 1779033703, Value.int .u32 3144134277, Value.int .u32 1013904242, Value.int .u32 2773480762, Value.int .u32 1359893119, Value.int .u32 2600822924, Value.int .u32 528734635, Value.int .u32 1541459225] = wcs iWords := by
  have e : iWords = [BitVec.ofNat 32 1779033703, BitVec.ofNat 32 3144134277, BitVec.ofNat 32 1013904242, BitVec.ofNat 32 2773480762, BitVec.ofNat 32 1359893119, BitVec.ofNat 32 2600822924, BitVec.ofNat 32 528734635, BitVec.ofNat 32 1541459225] := by decide +kernel
  rw [e, wcs]
  simp only [List.map_cons, List.map_nil, wc]
  rw [wn_lit 1779033703 (by decide), wn_lit 3144134277 (by decide), wn_lit 1013904242 (by decide), wn_lit 2773480762 (by decide), wn_lit 1359893119 (by decide), wn_lit 2600822924 (by decide), wn_lit 528734635 (by decide), wn_lit 1541459225 (by decide)]
  rfl
set_option maxRecDepth 10000 in
set_option maxHeartbeats 2000000 in
theorem InitialR (k : Nat) (hk : k < 8) (w : World) : Calls Tryd.prog 70 #[.int .i64 k] w fun e w' => e = .returned (wc (iAt k)) ∧ Below w.heap.size w w' := by
  have hz := iWords_lits
  obtain ⟨l, hl⟩ : ∃ l, l = iWords := ⟨_, rfl⟩
  have hll : l.length = 8 := by rw [hl]; rfl
  have hat : l.getD k 0 = iAt k := by rw [hl]; exact iWords_at k hk
  rw [← hl] at hz
  clear hl
  obtain ⟨x, hx⟩ : ∃ x, x = iAt k := ⟨_, rfl⟩
  rw [← hx] at hat ⊢
  replace hx := Lib.hid hx
  replace hat := Lib.hid hat
  replace hll := Lib.hid hll
  have t1 : decide ((k : Int) < 0) = false := decide_eq_false (by omega)
  have t2 : decide (7 < (k : Int)) = false := decide_eq_false (by omega)
  have hk0 : 0 ≤ (k : Int) := by omega
  have hk1 : (k : Int) < 8 := by omega
  go_enter Tryd.func70, Tryd.ntmps70
  go_wp2_with (first
    | (refine wpList_storeAr ((Below.refl w.heap.size w).alloc (Nat.le_refl _) _) (heap_alloc_new _ _) (Nat.le_refl _) rfl _ _ _ rfl rfl l (by first | exact congrArg Value.agg hz | rfl) 8 hll.out (by kernel_rfl) rfl ?_
       intro w2 a2 b2 k2 z2
       have hc := a2.cell k (by rw [hll.out]; exact hk)
       rw [hat.out] at hc))
  go_ret
  exact ⟨rfl, b2⟩
set_option maxHeartbeats 1000000 in
theorem SaneR (h : List W32) (hh : h.length = 8) (A : Option Addr) (n c : Nat) (N : Int) (h0 : 0 ≤ N) (h1 : N < 18446744073709551616) (hn : (n : Int) < 64) (b : Bool) (hb : b = decide ((n : Int) = N % 64)) (w : World) :
    Calls Tryd.prog 67 #[.agg (stc h A n c N).toArray] w fun e w' => e = .returned (.bool b) ∧ Below w.heap.size w w' := by
  obtain ⟨v0, v1, v2, v3, v4, v5, v6, v7, rfl⟩ := len8 hh
  clear hh
  go_enter Tryd.func67, Tryd.ntmps67
  go_wp2
  go_ret
  exact ⟨by rw [hb]; rfl, (Below.refl _ _).alloc (Nat.le_refl _) _⟩

set_option maxHeartbeats 1000000 in
theorem StartR (w : World) :
    Calls Tryd.prog 62 #[] w fun e w' => e = .returned (.agg (stc shInit none 0 0 0).toArray) ∧ Below w.heap.size w w' := by
  go_enter Tryd.func62, Tryd.ntmps62
  go_wp2
  go_loopw [2] (fun i wr => ∃ k : Nat, k ≤ 8 ∧ i = .int .i64 k ∧ Below w.heap.size w wr ∧ Av wr (w.heap.size + 1) 112 (stc (ifill k) none 0 0 0) ∧ Av wr w.heap.size 112 (stc (ifill 0) none 0 0 0)) (fun i _ => 8 - (intOf i).toNat)
  case atStart =>
    refine ⟨0, by omega, rfl, ((Below.refl _ _).alloc (Nat.le_refl _) _).alloc (by simp) _, ?_, ?_⟩
    · rw [Av, ifill, stc, List.map_replicate, wc, wn_zero]; exact heap_alloc2_new _ _ _
    · rw [Av, ifill, stc, List.map_replicate, wc, wn_zero]; exact heap_alloc2_old _ _ _
  case round =>
    obtain ⟨k, hk, rfl, hb, ha, hr0⟩ := hrel
    by_cases hk8 : k < 8
    · have T := InitialR k hk8 wr
      have hk0 : 0 ≤ (k : Int) := by omega
      have hk1 : (k : Int) < 8 := by omega
      go_wp2_with fail
      refine T.mono ?_
      rintro e w3 ⟨rfl, b3⟩
      replace ha := ha.below b3
      replace hr0 := hr0.below b3
      replace hb := hb.trans (b3.mono hb.size)
      have hfz : w3.frozen? ⟨w.heap.size + 1, k, none⟩ = false := frozen_of_row _ _ _ _ _ ha
      have hc := ha.cell k (wc ((ifill k).getD k 0)) (by rw [stc, List.getElem?_append_left (by simp [ifill_length, hk8])]; simp [List.getElem?_eq_getElem (show k < (ifill k).length by rw [ifill_length]; exact hk8)])
      go_wp2
      refine ⟨⟨k + 1, by omega, by go_num, hb.setCell (by simp) _, ?_, hr0.other _ _ (by simp)⟩, ?_⟩
      · rw [ifill, ← stc_set _ _ _ _ _ _ _ (by rw [ifill_length]; exact hk8)]
        exact ha.set k _
      · simp [intOf]; omega
    · obtain rfl : k = 8 := by omega
      clear hk8 hk
      have hsl : (stc (ifill 8) none 0 0 0).length = 10 := by simp [stc, ifill_length]
      have hl0 : (stc (ifill 0) none 0 0 0).toArray.size = 10 := by simp [stc, ifill_length]
      obtain ⟨l, hl⟩ : ∃ l, l = stc (ifill 8) none 0 0 0 := ⟨_, rfl⟩
      have hall : l.all (·.oneCell') = true := by rw [hl]; simp [stc, Value.oneCell']
      rw [← hl] at ha hsl
      replace hl : Hid (l = stc shInit none 0 0 0) := Lib.hid hl
      replace hl0 := Lib.hid hl0
      go_wp2_with (first
        | refine wpList_loadAv ha rfl _ _ rfl rfl _ 10 hsl Tryd.underlying112 rfl (by kernel_rfl) ?_
        | (refine wpList_storeAv hb hr0 (Nat.le_refl _) rfl _ _ _ rfl rfl l rfl 10 hsl (by kernel_rfl) hl0.out hall ?_
           intro w4 a2 b4 k4 z4))
      exact bodyPost_ret (v := .agg l.toArray) (results_cell_row rfl _ _ w.heap.size _ _ (0, 0) _ rfl a2 Tryd.underlying112 rfl (by rw [List.size_toArray, hsl]; kernel_rfl)) rfl ⟨by rw [← hl.out], b4⟩
end Go.Proofs.YtmdllemgjhkphaaDoor
/- Plain law: the blocks of a text, one behind the other. -/
namespace Go.Proofs.YtmdllemgjhkphaaDoor
/-- k blocks of 64 bytes, one behind the other -/
def shFold : Nat → List W32 → List UInt8 → List W32
  | 0, h, _ => h
  | k + 1, h, bs => shFold k (shBlock h (bs.take 64)) (bs.drop 64)
theorem shFold_snoc (k : Nat) (h : List W32) (bs : List UInt8) : shFold (k + 1) h bs = shBlock (shFold k h bs) ((bs.drop (64 * k)).take 64) := by
  induction k generalizing h bs with
  | zero => simp [shFold]
  | succ k ih =>
    rw [shFold, ih]
    simp only [shFold, List.drop_drop]
    rw [show 64 + 64 * k = 64 * (k + 1) by omega]
theorem shBlock_length (h : List W32) (bs : List UInt8) (hh : h.length = 8) : (shBlock h bs).length = 8 := by
  rw [shBlock, addv_length, shRounds_length _ _ hh]
theorem shFold_length (k : Nat) (h : List W32) (bs : List UInt8) (hh : h.length = 8) : (shFold k h bs).length = 8 := by
  induction k generalizing h bs with
  | zero => exact hh
  | succ k ih => rw [shFold, ih _ _ (shBlock_length _ _ hh)]
/-- only the first 64 k bytes count -/
theorem shFold_append (k : Nat) (h : List W32) (bs cs : List UInt8) (hb : 64 * k ≤ bs.length) : shFold k h (bs ++ cs) = shFold k h bs := by
  induction k generalizing h bs with
  | zero => rfl
  | succ k ih =>
    rw [shFold, shFold, List.take_append_of_le_length (by omega), List.drop_append_of_le_length (by omega), ih _ _ (by rw [List.length_drop]; omega)]
theorem shFold_add (j k : Nat) (h : List W32) (bs : List UInt8) : shFold (j + k) h bs = shFold k (shFold j h bs) (bs.drop (64 * j)) := by
  induction j generalizing h bs with
  | zero => simp [shFold]
  | succ j ih =>
    rw [show j + 1 + k = (j + k) + 1 by omega, shFold, ih, shFold, List.drop_drop, show 64 + 64 * j = 64 * (j + 1) by omega]
end Go.Proofs.YtmdllemgjhkphaaDoor
/- Slice expressions: the result under a name that the walk does not open. -/
namespace Go.Proofs.YtmdllemgjhkphaaDoor
open Go.RowKit

/-- where 'b[lo:..]' begins (s: cells an element; c: the capacity) -/
def subA (A : Option Addr) (c lo s : Nat) : Option Addr := if c = lo then A else A.map (·.add (lo * s))

theorem Rd.sub {w : World} {A : Option Addr} {xs : List Value} (h : Rd w A xs) (c lo s : Nat) (hc : xs.length ≤ c * s) : Rd w (subA A c lo s) (xs.drop (lo * s)) := by
  unfold subA
  split
  · rename_i e
    subst e
    rw [List.drop_of_length_le hc]
    exact Rd.nil w A
  · rcases h with h | ⟨b, off, rfl, hcell⟩
    · subst h
      rw [List.drop_nil]
      exact Rd.nil w _
    · have : (Option.map (fun x : Addr => x.add (lo * s)) (some ⟨b, off, none⟩)) = some ⟨b, off + lo * s, none⟩ := by
        rw [Option.map_some, addr_add]
      rw [this]
      exact Rd.drop (.inr ⟨b, off, rfl, hcell⟩) _

section
variable {P : Program} (w : World) (t e : TypeId) (A : Option Addr) (n c s : Nat)
theorem run_slice_lh_sub (ht : P.underlying t = some (.slice e)) (hs : (P.info? e).map (·.size) = some s) (kl kh : IntKind) (l h : Int) (h0 : 0 ≤ l) (h1 : l ≤ h) (h2 : h ≤ c) :
    (Instr.slice t (.slice A n c) (some (.int kl l)) (some (.int kh h)) none).run P w = .ok (.slice (subA A c l.toNat s) (h.toNat - l.toNat) (c - l.toNat)) w := by
  obtain ⟨i, hi, rfl⟩ := Option.map_eq_some_iff.1 hs
  have hel : P.elem t = e := by simp [Program.elem, ht]
  rw [run_slice_lh (P := P) w t A n c (by rw [hel]; exact ht) kl kh l h h0 h1 h2, hel]
  simp [sizeOf, typeInfo, hi, sliced, subA]
theorem run_slice_l_sub (ht : P.underlying t = some (.slice e)) (hs : (P.info? e).map (·.size) = some s) (kl : IntKind) (l : Int) (h0 : 0 ≤ l) (h1 : l ≤ n) :
    (Instr.slice t (.slice A n c) (some (.int kl l)) none none).run P w = .ok (.slice (subA A c l.toNat s) (n - l.toNat) (c - l.toNat)) w := by
  obtain ⟨i, hi, rfl⟩ := Option.map_eq_some_iff.1 hs
  have hel : P.elem t = e := by simp [Program.elem, ht]
  rw [run_slice_l (P := P) w t A n c (by rw [hel]; exact ht) kl l h0 h1, hel]
  simp [sizeOf, typeInfo, hi, sliced, subA]
theorem run_slice_h_sub (ht : P.underlying t = some (.slice e)) (hs : (P.info? e).map (·.size) = some s) (kh : IntKind) (h : Int) (h0 : 0 ≤ h) (h2 : h ≤ c) :
    (Instr.slice t (.slice A n c) none (some (.int kh h)) none).run P w = .ok (.slice A h.toNat c) w := by
  obtain ⟨i, hi, rfl⟩ := Option.map_eq_some_iff.1 hs
  have hel : P.elem t = e := by simp [Program.elem, ht]
  rw [run_slice_h (P := P) w t A n c (by rw [hel]; exact ht) kh h h0 h2, hel]
  have hA : Option.map (fun x : Addr => x.add 0) A = A := by cases A <;> simp [Addr.add]
  simp [sizeOf, typeInfo, hi, sliced, hA]
end

theorem size_u8 : (Tryd.prog.info? 5).map (·.size) = some 1 := by kernel_rfl
section
variable (w : World) (A : Option Addr) (n c : Nat)
theorem slB_lh (kl kh : IntKind) (l h : Int) (h0 : 0 ≤ l) (h1 : l ≤ h) (h2 : h ≤ c) :
    (Instr.slice 24 (.slice A n c) (some (.int kl l)) (some (.int kh h)) none).run Tryd.prog w = .ok (.slice (subA A c l.toNat 1) (h.toNat - l.toNat) (c - l.toNat)) w :=
  run_slice_lh_sub w _ _ A n c 1 Tryd.underlying24 size_u8 kl kh l h h0 h1 h2
theorem slB_l (kl : IntKind) (l : Int) (h0 : 0 ≤ l) (h1 : l ≤ n) :
    (Instr.slice 24 (.slice A n c) (some (.int kl l)) none none).run Tryd.prog w = .ok (.slice (subA A c l.toNat 1) (n - l.toNat) (c - l.toNat)) w :=
  run_slice_l_sub w _ _ A n c 1 Tryd.underlying24 size_u8 kl l h0 h1
theorem slB_h (kh : IntKind) (h : Int) (h0 : 0 ≤ h) (h2 : h ≤ c) :
    (Instr.slice 24 (.slice A n c) none (some (.int kh h)) none).run Tryd.prog w = .ok (.slice A h.toNat c) w :=
  run_slice_h_sub w _ _ A n c 1 Tryd.underlying24 size_u8 kh h h0 h2
/-- a slice of bytes against nil -/
theorem nilB_eq (n' c' : Nat) : (binOp .eql 24 (.slice A n c) (.slice none n' c')).run Tryd.prog w = .ok (.bool A.isNone) w :=
  Lib.run_eql_slice_nil w _ _ A n c n' c' Tryd.underlying24
end

theorem strOf_bytes (bs : List UInt8) : strOfNums (bs.map fun b => (b.toNat : Int)) = ⟨bs.toArray⟩ := by
  unfold strOfNums
  congr 1
  simp only [List.map_map]
  congr 1
  conv => rhs; rw [← List.map_id bs]
  refine List.map_congr_left fun b _ => ?_
  simp
/-- 'string(b)' -/
theorem conv_str {w : World} {A : Option Addr} {bs : List UInt8} {n : Nat} (hr : Rd w A (bs.map bv)) (hn : bs.length = n) (c : Nat) :
    (convert 24 9 (.slice A n c)).run Tryd.prog w = .ok (.string ⟨bs.toArray⟩) w := by
  rw [run_convert_bytes_string w _ _ _ A n c Tryd.underlying24 Tryd.underlying5 Tryd.underlying9]
  cases A with
  | none =>
    have hb : bs = [] := by
      rcases hr with h | ⟨_, _, h, _⟩
      · simpa using h
      · cases h
    subst hb
    simp [Conv.bytesToString]
    rfl
  | some a =>
    have hl : (loadCells a n).run Tryd.prog w = .ok ((bs.map fun b => (b.toNat : Int)).map (Value.int .u8)).toArray w := by
      have h := run_loadCells_list (P := Tryd.prog) w a (bs.map bv) (fun j u hu => by
        rcases hr with h | ⟨b, off, hA, hc⟩
        · rw [h] at hu; simp at hu
        · cases hA
          rw [addr_add]
          exact hc j u hu)
      rw [List.length_map, hn] at h
      rw [h, List.map_map]
      rfl
    rw [run_bytesToString w a n c _ hl, foldl_push_bytes]
    have e := strOf_bytes bs
    unfold strOfNums at e
    rw [ByteArray.mk.injEq] at e
    rw [e]
    simp [ByteArray.empty, ByteArray.emptyWithCapacity]
    rfl
end Go.Proofs.YtmdllemgjhkphaaDoor
/- Parts of a struct in memory: a load and a store of some of its cells. -/
namespace Go.Proofs.YtmdllemgjhkphaaDoor
open Go.RowKit

end Go.Proofs.YtmdllemgjhkphaaDoor

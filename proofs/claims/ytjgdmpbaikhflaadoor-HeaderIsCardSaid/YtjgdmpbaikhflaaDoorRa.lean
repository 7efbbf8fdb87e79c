/- florinref02: turn, constants, words. -/
import Derived.Test.YtjgdmpbaikhflaaDoorShB
namespace Go.Proofs.YtjgdmpbaikhflaaDoor
open Go.RowKit
attribute [local go_sem high] bits_or_wn shl_wn shr_wn
theorem turnR (x : W32) (k : Nat) (m : Int) (hm : m = k) (hk : 0 < k) (hk2 : k < 32) (w : World) :
    Calls Tryd.prog 82 #[.int .u32 (wn x), .int .u64 m] w fun e w' => e = .returned (.int .u32 (wn (rotr x k))) ∧ w' = w := by
  obtain rfl := hm
  have e0 : (0 : Int) ≤ k := by omega
  have e1 : IntKind.u64.wrap (32 - (k : Int)) = ((32 - k : Nat) : Int) := by rw [IntKind.wrap_u64]; omega
  have e2 : min ((k : Int)).toNat IntKind.u32.bits = k := by simp only [IntKind.bits]; omega
  have e3 : min (((32 - k : Nat) : Int)).toNat IntKind.u32.bits = 32 - k := by simp only [IntKind.bits]; omega
  have e4 : (0 : Int) ≤ ((32 - k : Nat) : Int) := by omega
  have e5 : rotr x k = x >>> k ||| x <<< (32 - k) := by rw [rotr, BitVec.or_comm]
  rw [e5]
  go_enter Tryd.func82, Tryd.ntmps82
  go_wp2
  go_ret
  exact ⟨rfl, rfl⟩
end Go.Proofs.YtjgdmpbaikhflaaDoor
namespace Go.Proofs.YtjgdmpbaikhflaaDoor
open Go.RowKit
attribute [local go_sem high] bits_xor_wn bits_or_wn bits_and_wn wrap_add_wn
attribute [local go_sem high] shr3 shr10
/-- the words of the constants -/
def kWords : List W32 := (List.range 64).map kAt
theorem kWords_len : kWords.length = 64 := rfl
theorem kWords_at (k : Nat) (hk : k < 64) : kWords.getD k 0 = kAt k := by
  rw [kWords, List.getD_eq_getElem?_getD, List.getElem?_map, List.getElem?_range hk]; rfl
theorem kTab_lt : ∀ i, i < 64 → kTab.getD i 0 < 4294967296 := by decide +kernel
set_option maxRecDepth 10000 in
set_option maxHeartbeats 2000000 in
theorem constantsR (w : World) : Calls Tryd.prog 81 #[] w fun e w' => e = .returned (.agg (wcs kWords)) ∧ Below w.heap.size w w' := by
  have hk : ∀ i, i < 64 → wn (kAt i) = ((kTab.getD i 0 : Nat) : Int) := fun i hi => by
    rw [kAt, wn_lit]
    exact kTab_lt i hi
  have hz : (kTab.map fun x : Nat => Value.int .u32 (x : Int)).toArray = wcs kWords := by
    rw [wcs, kWords, List.map_map]
    congr 1
    apply List.ext_getElem? 
    intro i
    by_cases hi : i < 64
    · rw [List.getElem?_map, List.getElem?_map, List.getElem?_range hi]
      have := hk i hi
      rw [List.getD_eq_getElem?_getD] at this
      have hl : i < kTab.length := hi
      rw [List.getElem?_eq_getElem hl] at this ⊢
      simp only [Option.map_some, Function.comp, Option.getD_some] at this ⊢
      rw [wc, this]
    · rw [List.getElem?_eq_none (by rw [List.length_map]; exact Nat.le_of_not_lt hi), List.getElem?_eq_none (by rw [List.length_map, List.length_range]; exact Nat.le_of_not_lt hi)]
  have hkl := kWords_len
  obtain ⟨ks, hks⟩ : ∃ l, l = kWords := ⟨_, rfl⟩
  rw [← hks] at hz hkl ⊢
  clear hks hk
  replace hz : #[Value.int .u32 1116352408, Value.int .u32 1899447441, Value.int .u32 3049323471, Value.int .u32 3921009573, Value.int .u32 961987163, Value.int .u32 1508970993, Value.int .u32 2453635748, Value.int .u32 2870763221, Value.int .u32 3624381080, Value.int .u32 310598401, Value.int .u32 607225278, Value.int .u32 1426881987, Value.int .u32 1925078388, Value.int .u32 2162078206, Value.int .u32 2614888103, Value.int .u32 3248222580, Value.int .u32 3835390401, Value.int .u32 4022224774, Value.int .u32 264347078, Value.int .u32 604807628, Value.int .u32 770255983, Value.int .u32 1249150122, Value.int .u32 1555081692, Value.int .u32 1996064986, Value.int .u32 2554220882, Value.int .u32 2821834349, Value.int .u32 2952996808, Value.int .u32 3210313671, Value.int .u32 3336571891, Value.int .u32 3584528711, Value.int .u32 113926993, Value.int .u32 338241895, Value.int .u32 666307205, Value.int .u32 773529912, Value.int .u32 1294757372, Value.int .u32 1396182291, Value.int .u32 1695183700, Value.int .u32 1986661051, Value.int .u32 2177026350, Value.int .u32 2456956037, Value.int .u32 2730485921, Value.int .u32 2820302411, Value.int .u32 3259730800, Value.int .u32 3345764771, Value.int .u32 3516065817, Value.int .u32 3600352804, Value.int .u32 4094571909, Value.int .u32 275423344, Value.int .u32 430227734, Value.int .u32 506948616, Value.int .u32 659060556, Value.int .u32 883997877, Value.int .u32 958139571, Value.int .u32 1322822218, Value.int .u32 1537002063, Value.int .u32 1747873779, Value.int .u32 1955562222, Value.int .u32 2024104815, Value.int .u32 2227730452, Value.int .u32 2361852424, Value.int .u32 2428436474, Value.int .u32 2756734187, Value.int .u32 3204031479, Value.int .u32 3329325298] = wcs ks := (show #[Value.int .u32 1116352408, Value.int .u32 1899447441, Value.int .u32 3049323471, Value.int .u32 3921009573, Value.int .u32 961987163, Value.int .u32 1508970993, Value.int .u32 2453635748, Value.int .u32 2870763221, Value.int .u32 3624381080, Value.int .u32 310598401, Value.int .u32 607225278, Value.int .u32 1426881987, Value.int .u32 1925078388, Value.int .u32 2162078206, Value.int .u32 2614888103, Value.int .u32 3248222580, Value.int .u32 3835390401, Value.int .u32 4022224774, Value.int .u32 264347078, Value.int .u32 604807628, Value.int .u32 770255983, Value.int .u32 1249150122, Value.int .u32 1555081692, Value.int .u32 1996064986, Value.int .u32 2554220882, Value.int .u32 2821834349, Value.int .u32 2952996808, Value.int .u32 3210313671, Value.int .u32 3336571891, Value.int .u32 3584528711, Value.int .u32 113926993, Value.int .u32 338241895, Value.int .u32 666307205, Value.int .u32 773529912, Value.int .u32 1294757372, Value.int .u32 1396182291, Value.int .u32 1695183700, Value.int .u32 1986661051, Value.int .u32 2177026350, Value.int .u32 2456956037, Value.int .u32 2730485921, Value.int .u32 2820302411, Value.int .u32 3259730800, Value.int .u32 3345764771, Value.int .u32 3516065817, Value.int .u32 3600352804, Value.int .u32 4094571909, Value.int .u32 275423344, Value.int .u32 430227734, Value.int .u32 506948616, Value.int .u32 659060556, Value.int .u32 883997877, Value.int .u32 958139571, Value.int .u32 1322822218, Value.int .u32 1537002063, Value.int .u32 1747873779, Value.int .u32 1955562222, Value.int .u32 2024104815, Value.int .u32 2227730452, Value.int .u32 2361852424, Value.int .u32 2428436474, Value.int .u32 2756734187, Value.int .u32 3204031479, Value.int .u32 3329325298] = (kTab.map fun x : Nat => Value.int .u32 (x : Int)).toArray by kernel_rfl).trans hz
  replace hkl := Lib.hid hkl
  go_enter Tryd.func81, Tryd.ntmps81
  go_wp2_with (first
    | (refine wpList_storeAr ((Below.refl w.heap.size w).alloc (Nat.le_refl _) _) (heap_alloc_new _ _) (Nat.le_refl _) rfl _ _ _ rfl rfl ks (by first | exact congrArg Value.agg hz | rfl) 64 hkl.out (by kernel_rfl) rfl ?_
       intro w2 a2 b2 k2 z2))
  exact bodyPost_ret (v := .agg (wcs ks)) (results_cell_row rfl _ _ w.heap.size _ _ (0, 0) _ rfl a2 Tryd.underlying104 rfl (by rw [wcs_size, hkl.out]; kernel_rfl)) rfl ⟨rfl, b2⟩
end Go.Proofs.YtjgdmpbaikhflaaDoor
namespace Go.Proofs.YtjgdmpbaikhflaaDoor
open Go.RowKit
attribute [local go_sem high] shr3 shr10 bits_xor_wn bits_or_wn bits_and_wn wrap_add_wn
set_option maxRecDepth 10000 in
set_option maxHeartbeats 1000000 in
theorem wordsR (bs : List UInt8) (A : Option Addr) (c : Nat) (hl : bs.length = 64) (w : World) (hr : Rd w A (bs.map bv)) :
    Calls Tryd.prog 80 #[.slice A 64 c] w fun e w' => e = .returned (.agg (wcs (shW bs))) ∧ Below w.heap.size w w' := by
  obtain ⟨blk, off, rfl, hbc⟩ : ∃ b off, A = some ⟨b, off, none⟩ ∧ ∀ j u, (bs.map bv)[j]? = some u → w.cell? ⟨b, off + j, none⟩ = some u := by
    rcases hr with h | h
    · simp at h; subst h; simp at hl
    · exact h
  have Hbc := Lib.hid hbc
  clear hbc hr
  go_enter Tryd.func80, Tryd.ntmps80
  go_wp2
  go_loopw [4] (fun i wr => ∃ k : Nat, k ≤ 16 ∧ i = .int .i64 k ∧ Below w.heap.size w wr ∧ Ar wr (w.heap.size + 1) 104 (fill1 bs k) ∧ Ar wr w.heap.size 104 (List.replicate 64 0)) (fun i _ => 16 - (intOf i).toNat)
  case atStart =>
    refine ⟨0, by omega, rfl, ((Below.refl _ _).alloc (Nat.le_refl _) _).alloc (by simp) _, ?_, ?_⟩
    · rw [Ar, fill1, wcs_zeros]; exact heap_alloc2_new _ _ _
    · rw [Ar, wcs_zeros]; exact heap_alloc2_old _ _ _
  case round =>
    obtain ⟨k, hk, rfl, hb, ha, hr0⟩ := hrel
    by_cases hk16 : k < 16
    · have byte : ∀ i : Nat, i < 64 → wr.cell? ⟨blk, off + i, none⟩ = some (bv (bs.getD i 0)) := fun i hi => by
        have h := Hbc.out i (bv (bs.getD i 0)) (by simp [List.getElem?_eq_getElem (show i < bs.length by omega)])
        exact (hb.cell (p := ⟨blk, off + i, none⟩) (World.block_lt_of_cell? w _ h)).trans h
      have cell : ∀ i : Nat, i < 4 → ∃ (a : Int) (x : UInt8), a = 4 * (k : Int) + i ∧ x = bs.getD (4 * k + i) 0 ∧ 0 ≤ a ∧ a < 64 ∧ wr.cell? ⟨blk, off + a.toNat, none⟩ = some (bv x) := fun i hi =>
        ⟨_, _, rfl, rfl, by omega, by omega, by rw [show (4 * (k : Int) + i).toNat = 4 * k + i by omega]; exact byte _ (by omega)⟩
      obtain ⟨a0, x0, ha0, hx0, p0, q0, c0⟩ := cell 0 (by omega)
      obtain ⟨a1, x1, ha1, hx1, p1, q1, c1⟩ := cell 1 (by omega)
      obtain ⟨a2, x2, ha2, hx2, p2, q2, c2⟩ := cell 2 (by omega)
      obtain ⟨a3, x3, ha3, hx3, p3, q3, c3⟩ := cell 3 (by omega)
      have e0 : IntKind.i64.wrap (4 * (k : Int)) = a0 := by rw [IntKind.wrap_i64]; omega
      have e1 : IntKind.i64.wrap (a0 + 1) = a1 := by rw [IntKind.wrap_i64]; omega
      have e2 : IntKind.i64.wrap (a0 + 2) = a2 := by rw [IntKind.wrap_i64]; omega
      have e3 : IntKind.i64.wrap (a0 + 3) = a3 := by rw [IntKind.wrap_i64]; omega
      have hk0 : 0 ≤ (k : Int) := by omega
      have hk1 : (k : Int) < 64 := by omega
      have hlw : (fill1 bs k).getD k 0 = (fill1 bs k).getD k 0 := rfl
      have hce := ha.cell k (by rw [fill1_length]; omega)
      have Hx := Lib.hid (And.intro hx0 (And.intro hx1 (And.intro hx2 hx3)))
      clear hx0 hx1 hx2 hx3 ha0 ha1 ha2 ha3 byte cell hlw
      go_wp2
      go_still_tail 35, (by kernel_rfl)
      change wpList _ _ _ _ _ wr.drew
      have hfz : wr.frozen? ⟨w.heap.size + 1, k, none⟩ = false := frozen_of_row _ _ _ _ _ ha
      go_wp2
      obtain ⟨rfl, rfl, rfl, rfl⟩ := Hx.out
      rw [be_word]
      refine ⟨⟨k + 1, by omega, by go_num, (hb.setCell (by simp) _).drew, (ha.set k _).drew, (hr0.other _ _ (by simp)).drew⟩, ?_⟩
      simp [intOf]; omega
    · obtain rfl : k = 16 := by omega
      clear hk16 hk Hbc
      go_wp2
      obtain ⟨w1, rfl⟩ : ∃ wo : World, wo = wr := ⟨_, rfl⟩
      have hl1 : (fill1 bs 16).length = 64 := fill1_length _ _
      obtain ⟨l1, hL1⟩ : ∃ l, l = fill1 bs 16 := ⟨_, rfl⟩
      rw [← hL1] at ha hl1
      replace hL1 := Lib.hid hL1
      go_loopw [5] (fun i wr => ∃ k : Nat, k ≤ 48 ∧ i = .int .i64 (16 + (k : Int)) ∧ Below w.heap.size w wr ∧ Ar wr (w.heap.size + 1) 104 (fill2 l1 k) ∧ Ar wr w.heap.size 104 (List.replicate 64 0)) (fun i _ => 64 - (intOf i).toNat)
      case atStart => exact ⟨0, by omega, rfl, hb, ha, hr0⟩
      case round =>
        obtain ⟨k, hk, rfl, hb, ha, hr0⟩ := hrel
        by_cases hk48 : k < 48
        · have hl2 : (fill2 l1 k).length = 64 := by rw [fill2_length]; exact hl1
          have cell : ∀ j : Nat, j ≤ 16 → 0 < j → ∃ (a : Int) (x : W32), a = 16 + (k : Int) - j ∧ x = (fill2 l1 k).getD (16 + k - j) 0 ∧ 0 ≤ a ∧ a < 64 ∧ wr.cell? ⟨w.heap.size + 1, a.toNat, none⟩ = some (wc x) := fun j hj hj0 =>
            ⟨_, _, rfl, rfl, by omega, by omega, by rw [show (16 + (k : Int) - j).toNat = 16 + k - j by omega]; exact ha.cell _ (by omega)⟩
          obtain ⟨a0, x0, ha0, hx0, p0, q0, c0⟩ := cell 2 (by omega) (by omega)
          obtain ⟨a1, x1, ha1, hx1, p1, q1, c1⟩ := cell 7 (by omega) (by omega)
          obtain ⟨a2, x2, ha2, hx2, p2, q2, c2⟩ := cell 15 (by omega) (by omega)
          obtain ⟨a3, x3, ha3, hx3, p3, q3, c3⟩ := cell 16 (by omega) (by omega)
          have e0 : IntKind.i64.wrap (16 + (k : Int) - 2) = a0 := by rw [IntKind.wrap_i64]; omega
          have e1 : IntKind.i64.wrap (16 + (k : Int) - 7) = a1 := by rw [IntKind.wrap_i64]; omega
          have e2 : IntKind.i64.wrap (16 + (k : Int) - 15) = a2 := by rw [IntKind.wrap_i64]; omega
          have e3 : IntKind.i64.wrap (16 + (k : Int) - 16) = a3 := by rw [IntKind.wrap_i64]; omega
          have hk0 : 0 ≤ 16 + (k : Int) := by omega
          have hk1 : 16 + (k : Int) < 64 := by omega
          have hce := ha.cell (16 + (k : Int)).toNat (by omega)
          have hfz : wr.frozen? ⟨w.heap.size + 1, (16 + (k : Int)).toNat, none⟩ = false := frozen_of_row _ _ _ _ _ ha
          have Hx := Lib.hid (And.intro hx0 (And.intro hx1 (And.intro hx2 hx3)))
          clear hx0 hx1 hx2 hx3 ha0 ha1 ha2 ha3 cell
          have T0 := turnR x2 7 7 rfl (by decide) (by decide)
          have T1 := turnR x2 18 18 rfl (by decide) (by decide)
          have T2 := turnR x0 17 17 rfl (by decide) (by decide)
          have T3 := turnR x0 19 19 rfl (by decide) (by decide)
          go_wp2_with fail
          refine (T0 _).mono ?_
          rintro e w' ⟨rfl, rfl⟩
          go_wp2_with fail
          refine (T1 _).mono ?_
          rintro e w' ⟨rfl, rfl⟩
          go_wp2_with fail
          refine (T2 _).mono ?_
          rintro e w' ⟨rfl, rfl⟩
          go_wp2_with fail
          refine (T3 _).mono ?_
          rintro e w' ⟨rfl, rfl⟩
          go_wp2
          go_still_tail 15, (by kernel_rfl)
          change wpList _ _ _ _ _ (World.drew _)
          go_wp2
          refine ⟨?_, ?measure⟩
          iterate 48 (apply Exists.intro)
          refine ⟨?rel, rfl⟩
          case rel =>
            obtain ⟨rfl, rfl, rfl, rfl⟩ := Hx.out
            refine ⟨k + 1, by omega, by go_num, (hb.setCell (by simp) _).drew, ?_, (hr0.other _ _ (by simp)).drew⟩
            exact (ha.set (16 + k) (sched (fill2 l1 k) (16 + k))).drew
          case measure => simp [intOf]; omega
        · obtain rfl : k = 48 := by omega
          clear hk48 hk
          have hl2 : (fill2 l1 48).length = 64 := by rw [fill2_length]; exact hl1
          obtain ⟨l2, hL2⟩ : ∃ l, l = fill2 l1 48 := ⟨_, rfl⟩
          rw [← hL2] at ha hl2
          replace hL2 : Hid (l2 = shW bs) := Lib.hid (by rw [hL2, hL1.out]; rfl)
          go_wp2_with (first
            | refine wpList_load_row rfl _ _ rfl _ rfl _ _ _ _ ha Tryd.underlying104 rfl (by rw [wcs_size, hl2]; kernel_rfl) ?_
            | refine wpList_store_row rfl _ _ _ rfl _ _ rfl rfl _ _ hr0 (by rw [wcs_size, hl2]; kernel_rfl) (by rw [wcs_size, wcs_size, hl2]; rfl) (by simp [wcs, Value.oneCell']) ?_)
          exact bodyPost_ret (v := .agg (wcs l2)) (results_cell_row rfl _ _ w.heap.size _ _ (0, 0) _ rfl (setRow_heap _ _ _ _ _ _ hr0) Tryd.underlying104 rfl (by rw [wcs_size, hl2]; kernel_rfl)) rfl ⟨by rw [← hL2.out], below_setRow hb _ _ (Nat.le_refl _)⟩
end Go.Proofs.YtjgdmpbaikhflaaDoor
